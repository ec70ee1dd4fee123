/- Plain: numbers in digits of 32 bits, the least one first. No program is named here. · Plain: what one round of package long's loops does to what the digits are worth. No program is named here. · Plain: long division (package long): the guess of a digit, the taking off, the digit's round. No program is named here. · Plain: long division (package long): a whole round, and all rounds. No program is named here. · Plain: how great a fraction gets (package exact; Rat is Lean's own). No program is named here. · Plain: digits as the bytes of a string, four each, the least one first (package long). No program is named here. · Plain: what else package long wants: shifting right, how many bits a digit has, comparing. No program is named here. · Plain: long division, what a round of package long's quotient wants. No program is named here. -/
import Derived.Test.YtkkpfdfoojcljaaGreatCore
import Derived.Lib.BitFns
namespace Go.Proofs.YtkkpfdfoojcljaaGreat
open Go.RowKit

/-- what digits are worth -/
def valL : List Nat → Nat
  | [] => 0
  | x :: r => x + 4294967296 * valL r
/-- all below 2^32 -/
def Digs (l : List Nat) : Prop := ∀ x ∈ l, x < 4294967296
theorem Digs.nil_ : Digs [] := fun _ h => by cases h
theorem Digs.cons {x : Nat} {r : List Nat} : Digs (x :: r) ↔ x < 4294967296 ∧ Digs r := by
  constructor
  · exact fun h => ⟨h x (List.mem_cons_self ..), fun y hy => h y (List.mem_cons_of_mem _ hy)⟩
  · rintro ⟨h1, h2⟩ y hy
    rcases List.mem_cons.1 hy with rfl | hy
    · exact h1
    · exact h2 y hy
theorem Digs.app {a b : List Nat} : Digs (a ++ b) ↔ Digs a ∧ Digs b := by
  constructor
  · exact fun h => ⟨fun x hx => h x (List.mem_append_left _ hx), fun x hx => h x (List.mem_append_right _ hx)⟩
  · rintro ⟨h1, h2⟩ y hy
    rcases List.mem_append.1 hy with hy | hy
    · exact h1 y hy
    · exact h2 y hy
theorem Digs.take {l : List Nat} (h : Digs l) (k : Nat) : Digs (l.take k) := fun x hx => h x (List.mem_of_mem_take hx)
theorem Digs.drop {l : List Nat} (h : Digs l) (k : Nat) : Digs (l.drop k) := fun x hx => h x (List.mem_of_mem_drop hx)
theorem Digs.set {l : List Nat} (h : Digs l) (k : Nat) {x : Nat} (hx : x < 4294967296) : Digs (l.set k x) := fun y hy => by
  rcases List.mem_or_eq_of_mem_set hy with h1 | rfl
  · exact h y h1
  · exact hx
theorem val_app : ∀ (a b : List Nat), valL (a ++ b) = valL a + 4294967296 ^ a.length * valL b
  | [], b => by simp [valL]
  | x :: r, b => by
    rw [List.cons_append, valL, val_app r b, valL, List.length_cons, Nat.pow_succ, Nat.mul_add, ← Nat.mul_assoc, Nat.mul_comm (4294967296 ^ r.length) 4294967296]
    omega
theorem val_lt : ∀ {l : List Nat}, Digs l → valL l < 4294967296 ^ l.length
  | [], _ => by simp [valL]
  | x :: r, h => by
    obtain ⟨h1, h2⟩ := Digs.cons.1 h
    have := val_lt h2
    rw [valL, List.length_cons, Nat.pow_succ]
    omega
theorem val_take_drop (l : List Nat) (k : Nat) (h : k ≤ l.length) : valL l = valL (l.take k) + 4294967296 ^ k * valL (l.drop k) := by
  have := val_app (l.take k) (l.drop k)
  rw [List.take_append_drop, List.length_take, Nat.min_eq_left h] at this
  exact this
theorem val_zero : ∀ {l : List Nat}, (∀ x ∈ l, x = 0) → valL l = 0
  | [], _ => rfl
  | x :: r, h => by
    rw [valL, h x (List.mem_cons_self ..), val_zero (fun y hy => h y (List.mem_cons_of_mem _ hy))]
theorem zero_of_val : ∀ {l : List Nat}, valL l = 0 → ∀ x ∈ l, x = 0
  | [], _, x, hx => by cases hx
  | y :: r, h, x, hx => by
    rw [valL] at h
    rcases List.mem_cons.1 hx with rfl | hx
    · omega
    · exact zero_of_val (l := r) (by omega) x hx
/-- digits with no nought at the end -/
def Canon (l : List Nat) : Prop := Digs l ∧ l.getLast? ≠ some 0
theorem canon_nil : Canon [] := ⟨Digs.nil_, by simp⟩
theorem canon_tail {x : Nat} {r : List Nat} (h : Canon (x :: r)) : Canon r := by
  refine ⟨(Digs.cons.1 h.1).2, fun e => ?_⟩
  rcases r with _ | ⟨y, s⟩
  · simp at e
  · exact h.2 (by rw [List.getLast?_cons_cons]; exact e)
theorem canon_pos : ∀ {l : List Nat}, Canon l → ¬ l = [] → 0 < valL l
  | [], _, h => absurd rfl h
  | [x], h, _ => by
    have h2 := h.2
    simp only [List.getLast?_singleton] at h2
    have : x ≠ 0 := fun e => h2 (by rw [e])
    simp [valL]; omega
  | x :: y :: s, h, _ => by
    have := canon_pos (canon_tail h) (by simp)
    rw [valL]; omega
/-- such digits are told by what they are worth -/
theorem canon_inj : ∀ {a b : List Nat}, Canon a → Canon b → valL a = valL b → a = b
  | [], [], _, _, _ => rfl
  | [], y :: s, _, h, e => by have := canon_pos h (by simp); rw [← e] at this; simp [valL] at this
  | x :: r, [], h, _, e => by have := canon_pos h (by simp); rw [e] at this; simp [valL] at this
  | x :: r, y :: s, ha, hb, e => by
    have h1 := (Digs.cons.1 ha.1).1
    have h2 := (Digs.cons.1 hb.1).1
    simp only [valL] at e
    have e1 : x = y := by omega
    have e2 : valL r = valL s := by omega
    rw [e1, canon_inj (canon_tail ha) (canon_tail hb) e2]
/-- the digits of a number -/
def digN (n : Nat) : List Nat := if h : n = 0 then [] else n % 4294967296 :: digN (n / 4294967296)
termination_by n
decreasing_by omega
theorem digN_zero : digN 0 = [] := by rw [digN]; simp
theorem digN_pos {n : Nat} (h : ¬ n = 0) : digN n = n % 4294967296 :: digN (n / 4294967296) := by rw [digN, dif_neg h]
theorem val_digN (n : Nat) : valL (digN n) = n := by
  induction n using Nat.strongRecOn with
  | ind n ih =>
    by_cases h : n = 0
    · subst h; rw [digN_zero]; rfl
    · rw [digN_pos h, valL, ih (n / 4294967296) (by omega)]
      omega
theorem canon_digN (n : Nat) : Canon (digN n) := by
  induction n using Nat.strongRecOn with
  | ind n ih =>
    by_cases h : n = 0
    · subst h; rw [digN_zero]; exact canon_nil
    · rw [digN_pos h]
      obtain ⟨h1, h2⟩ := ih (n / 4294967296) (by omega)
      refine ⟨Digs.cons.2 ⟨Nat.mod_lt _ (by omega), h1⟩, fun e => ?_⟩
      rcases hd : digN (n / 4294967296) with _ | ⟨y, s⟩
      · rw [hd] at e
        simp only [List.getLast?_singleton, Option.some.injEq] at e
        have h3 : n / 4294967296 = 0 := by have := val_digN (n / 4294967296); rw [hd] at this; exact this.symm
        omega
      · rw [hd, List.getLast?_cons_cons] at e
        rw [hd] at h2
        exact h2 e
theorem canon_eq {l : List Nat} (h : Canon l) : l = digN (valL l) := canon_inj h (canon_digN _) (val_digN _).symm
theorem digN_len {n k : Nat} (h : n < 4294967296 ^ k) : (digN n).length ≤ k := by
  induction k generalizing n with
  | zero =>
    have : n = 0 := by simpa using h
    subst this; rw [digN_zero]; exact Nat.le_refl _
  | succ k ih =>
    by_cases hn : n = 0
    · subst hn; rw [digN_zero]; exact Nat.zero_le _
    · rw [digN_pos hn, List.length_cons]
      have : n / 4294967296 < 4294967296 ^ k := by rw [Nat.div_lt_iff_lt_mul (by omega), ← Nat.pow_succ]; exact h
      have := ih this
      omega
theorem digN_len_gt {n k : Nat} (h : 4294967296 ^ k ≤ n) : k < (digN n).length := by
  have h1 := val_lt (canon_digN n).1
  rw [val_digN] at h1
  exact (Nat.pow_lt_pow_iff_right (by omega)).1 (Nat.lt_of_le_of_lt h h1)
/-- noughts at the end are dropped -/
theorem canon_take {l : List Nat} (hd : Digs l) {k : Nat} (hk : k ≤ l.length) (hz : ∀ x ∈ l.drop k, x = 0) (hl : k = 0 ∨ ∃ x, l[k - 1]? = some x ∧ ¬ x = 0) : l.take k = digN (valL l) := by
  have hv : valL (l.take k) = valL l := by rw [val_take_drop l k hk, val_zero hz]; omega
  rw [← hv]
  refine canon_eq ⟨hd.take k, fun e => ?_⟩
  rcases hl with rfl | ⟨x, hx, hx0⟩
  · simp at e
  · rw [List.getLast?_eq_getElem?, List.length_take, Nat.min_eq_left hk, List.getElem?_take] at e
    by_cases hk0 : k = 0
    · subst hk0; simp at e
    · rw [if_pos (by omega), hx] at e
      injection e with e
      exact hx0 e
end Go.Proofs.YtkkpfdfoojcljaaGreat
namespace Go.Proofs.YtkkpfdfoojcljaaGreat
open Go.RowKit

theorem val_take_succ {l : List Nat} {i x : Nat} (h : l[i]? = some x) : valL (l.take (i + 1)) = valL (l.take i) + 4294967296 ^ i * x := by
  obtain ⟨hi, rfl⟩ := List.getElem?_eq_some_iff.1 h
  rw [List.take_succ_eq_append_getElem hi, val_app, List.length_take, Nat.min_eq_left (Nat.le_of_lt hi)]
  simp [valL]
theorem val_drop_cons {l : List Nat} {i x : Nat} (h : l[i]? = some x) : valL (l.drop i) = x + 4294967296 * valL (l.drop (i + 1)) := by
  obtain ⟨hi, rfl⟩ := List.getElem?_eq_some_iff.1 h
  rw [List.drop_eq_getElem_cons hi, valL]
theorem val_set : ∀ {l : List Nat} {i x : Nat} (_ : l[i]? = some x) (y : Nat), valL (l.set i y) + 4294967296 ^ i * x = valL l + 4294967296 ^ i * y
  | [], _, _, h, _ => by simp at h
  | z :: r, 0, x, h, y => by
    obtain rfl : z = x := by simpa using h
    rw [List.set_cons_zero, valL, valL]
    omega
  | z :: r, i + 1, x, h, y => by
    have := val_set (l := r) (i := i) (x := x) (by simpa using h) y
    rw [List.set_cons_succ, valL, valL, Nat.pow_succ, Nat.mul_comm (4294967296 ^ i), Nat.mul_assoc, Nat.mul_assoc]
    omega
theorem val_snoc (l : List Nat) (x : Nat) : valL (l ++ [x]) = valL l + 4294967296 ^ l.length * x := by
  rw [val_app]; simp [valL]
theorem digs_snoc {l : List Nat} {x : Nat} (h : Digs l) (hx : x < 4294967296) : Digs (l ++ [x]) := Digs.app.2 ⟨h, Digs.cons.2 ⟨hx, Digs.nil_⟩⟩
theorem val_zeros (n : Nat) : valL (List.replicate n 0) = 0 := val_zero fun _ hx => (List.mem_replicate.1 hx).2
theorem digs_zeros (n : Nat) : Digs (List.replicate n 0) := fun x hx => by rw [(List.mem_replicate.1 hx).2]; omega
theorem dig_at {l : List Nat} (h : Digs l) {i x : Nat} (hx : l[i]? = some x) : x < 4294967296 := h x (List.mem_of_getElem? hx)
theorem take_past {l : List Nat} {i : Nat} (h : l.length ≤ i) : l.take (i + 1) = l.take i := by rw [List.take_of_length_le h, List.take_of_length_le (by omega)]

/-- plus, a round: a digit t goes out, the rest is carried -/
theorem plus_round {out a b : List Nat} {i c x t : Nat} (hl : out.length = i) (h : valL out + 4294967296 ^ i * c = valL (a.take i) + valL (b.take i)) (hx : a[i]? = some x) (ht : (b[i]? = some t) ∨ (b.length ≤ i ∧ t = 0)) :
    valL (out ++ [(c + x + t) % 4294967296]) + 4294967296 ^ (i + 1) * ((c + x + t) / 4294967296) = valL (a.take (i + 1)) + valL (b.take (i + 1)) := by
  have hb : valL (b.take (i + 1)) = valL (b.take i) + 4294967296 ^ i * t := by
    rcases ht with ht | ⟨h1, rfl⟩
    · exact val_take_succ ht
    · rw [take_past h1]; simp
  rw [val_take_succ hx, hb, val_snoc, hl, Nat.pow_succ, Nat.mul_assoc]
  have h2 := Nat.mod_add_div (c + x + t) 4294967296
  have h3 : 4294967296 ^ i * (c + x + t) = 4294967296 ^ i * ((c + x + t) % 4294967296 + 4294967296 * ((c + x + t) / 4294967296)) := by rw [h2]
  rw [Nat.mul_add, Nat.mul_add, Nat.mul_add] at h3
  omega
/-- minus, a round -/
theorem minus_round {out a b : List Nat} {i c x t d c' : Nat} (hl : out.length = i) (h : valL out + valL (b.take i) = valL (a.take i) + 4294967296 ^ i * c) (hx : a[i]? = some x) (ht : (b[i]? = some t) ∨ (b.length ≤ i ∧ t = 0)) (hd : d + t + c = x + 4294967296 * c') :
    valL (out ++ [d]) + valL (b.take (i + 1)) = valL (a.take (i + 1)) + 4294967296 ^ (i + 1) * c' := by
  have hb : valL (b.take (i + 1)) = valL (b.take i) + 4294967296 ^ i * t := by
    rcases ht with ht | ⟨h1, rfl⟩
    · exact val_take_succ ht
    · rw [take_past h1]; simp
  rw [val_take_succ hx, hb, val_snoc, hl, Nat.pow_succ, Nat.mul_assoc]
  have h3 : 4294967296 ^ i * (d + t + c) = 4294967296 ^ i * (x + 4294967296 * c') := by rw [hd]
  rw [Nat.mul_add, Nat.mul_add, Nat.mul_add] at h3
  omega
/-- minus, at the end: with a not less than b nothing is borrowed -/
theorem minus_end {out a b : List Nat} {c : Nat} (ho : Digs out) (hl : out.length = a.length) (h : valL out + valL b = valL a + 4294967296 ^ a.length * c) (hle : valL b ≤ valL a) (hc : c ≤ 1) : c = 0 ∧ valL out = valL a - valL b := by
  have := val_lt ho
  rw [hl] at this
  rcases Nat.eq_zero_or_pos c with rfl | hp
  · exact ⟨rfl, by omega⟩
  · obtain rfl : c = 1 := by omega
    omega
/-- times, a round of the inner loop -/
theorem times_round {out b : List Nat} {i k c x y z M : Nat} (h : valL out + 4294967296 ^ (i + k) * c = M + 4294967296 ^ i * x * valL (b.take k)) (hy : b[k]? = some y) (hz : out[i + k]? = some z) :
    valL (out.set (i + k) ((c + (x * y + z)) % 4294967296)) + 4294967296 ^ (i + (k + 1)) * ((c + (x * y + z)) / 4294967296) = M + 4294967296 ^ i * x * valL (b.take (k + 1)) := by
  have h1 := val_set hz ((c + (x * y + z)) % 4294967296)
  have h2 := Nat.mod_add_div (c + (x * y + z)) 4294967296
  have h3 : 4294967296 ^ (i + k) * (c + (x * y + z)) = 4294967296 ^ (i + k) * ((c + (x * y + z)) % 4294967296 + 4294967296 * ((c + (x * y + z)) / 4294967296)) := by rw [h2]
  have h4 : 4294967296 ^ i * x * (4294967296 ^ k * y) = 4294967296 ^ (i + k) * (x * y) := by
    rw [Nat.pow_add]; simp only [Nat.mul_assoc, Nat.mul_left_comm]
  rw [val_take_succ hy, ← Nat.add_assoc i k 1, Nat.pow_succ, Nat.mul_assoc, Nat.mul_add (4294967296 ^ i * x), h4]
  rw [Nat.mul_add, Nat.mul_add, Nat.mul_add] at h3
  omega
theorem times_fits {c x y z : Nat} (hc : c < 4294967296) (hx : x < 4294967296) (hy : y < 4294967296) (hz : z < 4294967296) : c + (x * y + z) < 18446744073709551616 := by
  have : x * y ≤ 4294967295 * 4294967295 := Nat.mul_le_mul (by omega) (by omega)
  omega
/-- short, a round: from the top down -/
theorem short_round {a out : List Nat} {i x r d : Nat} (h : valL (out.drop (i + 1)) * d + r = valL (a.drop (i + 1))) (hx : a[i]? = some x) (ho : i < out.length) :
    valL ((out.set i ((r * 4294967296 + x) / d)).drop i) * d + (r * 4294967296 + x) % d = valL (a.drop i) := by
  rw [val_drop_cons hx, val_drop_cons (x := (r * 4294967296 + x) / d) (by rw [List.getElem?_set_self ho]), List.drop_set_of_lt (by omega)]
  have h2 := Nat.div_add_mod (r * 4294967296 + x) d
  rw [Nat.mul_comm] at h2
  rw [Nat.add_mul, Nat.mul_assoc]
  omega
/-- left, a round -/
theorem left_round {out a : List Nat} {k n i c x e : Nat} (hl : out.length = n + i) (h : valL out + 4294967296 ^ (n + i) * c = valL (a.take i) * (4294967296 ^ n * e)) (hx : a[i]? = some x) (hk : k = (x * e + c)) :
    valL (out ++ [k % 4294967296]) + 4294967296 ^ (n + (i + 1)) * (k / 4294967296) = valL (a.take (i + 1)) * (4294967296 ^ n * e) := by
  subst hk
  have h2 := Nat.mod_add_div (x * e + c) 4294967296
  have h3 : 4294967296 ^ (n + i) * (x * e + c) = 4294967296 ^ (n + i) * ((x * e + c) % 4294967296 + 4294967296 * ((x * e + c) / 4294967296)) := by rw [h2]
  have h4 : 4294967296 ^ i * x * (4294967296 ^ n * e) = 4294967296 ^ (n + i) * (x * e) := by
    rw [Nat.pow_add]; simp only [Nat.mul_assoc, Nat.mul_left_comm]
  rw [val_take_succ hx, val_snoc, hl, ← Nat.add_assoc n i 1, Nat.pow_succ, Nat.mul_assoc, Nat.add_mul, h4]
  rw [Nat.mul_add, Nat.mul_add] at h3
  omega
/-- cmp: two rows of one length that agree behind the place i -/
theorem cmp_at : ∀ {a b : List Nat} {i x y : Nat}, Digs a → Digs b → a.length = b.length → a.drop (i + 1) = b.drop (i + 1) → a[i]? = some x → b[i]? = some y → x < y → valL a < valL b := by
  intro a b i x y ha hb hl hd hx hy hlt
  obtain ⟨hi, -⟩ := List.getElem?_eq_some_iff.1 hx
  rw [val_take_drop a (i + 1) (by omega), val_take_drop b (i + 1) (by omega), hd, val_take_succ hx, val_take_succ hy]
  have h1 := val_lt (ha.take i)
  rw [List.length_take, Nat.min_eq_left (Nat.le_of_lt hi)] at h1
  have h2 : 4294967296 ^ i * (x + 1) ≤ 4294967296 ^ i * y := Nat.mul_le_mul_left _ hlt
  rw [Nat.mul_add] at h2
  omega
theorem cmp_len {a b : List Nat} (ha : Canon a) (hb : Canon b) (h : a.length < b.length) : valL a < valL b := by
  have h1 := val_lt ha.1
  have h2 : 4294967296 ^ (b.length - 1) ≤ valL b := by
    have hb' := canon_eq hb
    apply Nat.le_of_not_lt
    intro hlt
    have := digN_len hlt
    rw [← hb'] at this
    omega
  have h3 : 4294967296 ^ a.length ≤ 4294967296 ^ (b.length - 1) := Nat.pow_le_pow_right (by omega) (by omega)
  omega
end Go.Proofs.YtkkpfdfoojcljaaGreat
namespace Go.Proofs.YtkkpfdfoojcljaaGreat
open Go.RowKit

/-- what is known of a window W over a divisor V: the three and the two leading digits, P the worth of one in the third's place -/
structure Knuth (W V P v1 v2 top u2 : Nat) : Prop where
  pos : 0 < P
  lo : (v1 * 4294967296 + v2) * P ≤ V
  hi : V < (v1 * 4294967296 + v2 + 1) * P
  wlo : (top * 4294967296 + u2) * P ≤ W
  whi : W < (top * 4294967296 + u2 + 1) * P
  d1 : v1 < 4294967296
  d2 : v2 < 4294967296
  du : u2 < 4294967296
  big : 2147483648 ≤ v1
  less : W < 4294967296 * V

theorem Knuth.quo {W V P v1 v2 top u2 : Nat} (h : Knuth W V P v1 v2 top u2) : W / V < 4294967296 := by
  have hV : 0 < V := by
    have := h.less
    rcases Nat.eq_zero_or_pos V with rfl | h
    · omega
    · exact h
  exact (Nat.div_lt_iff_lt_mul hV).2 h.less
theorem Knuth.vpos {W V P v1 v2 top u2 : Nat} (h : Knuth W V P v1 v2 top u2) : 0 < V := by
  have := h.less
  rcases Nat.eq_zero_or_pos V with rfl | h
  · omega
  · exact h
/-- the first guess is not too small -/
theorem Knuth.start {W V P v1 v2 top u2 : Nat} (h : Knuth W V P v1 v2 top u2) : W / V ≤ top / v1 := by
  rw [Nat.le_div_iff_mul_le (by have := h.big; omega)]
  have h1 : W / V * V ≤ W := Nat.div_mul_le_self W V
  generalize W / V = q at h1
  apply Nat.le_of_not_lt
  intro hlt
  have h2 : q * ((v1 * 4294967296 + v2) * P) ≤ q * V := Nat.mul_le_mul_left _ h.lo
  have h3 : (top + 1) * (4294967296 * P) ≤ q * v1 * (4294967296 * P) := Nat.mul_le_mul_right _ hlt
  have h4 := h.whi
  have h5 : (u2 + 1) * P ≤ 4294967296 * P := Nat.mul_le_mul_right _ h.du
  have e1 : q * ((v1 * 4294967296 + v2) * P) = q * v1 * (4294967296 * P) + q * v2 * P := by
    rw [Nat.add_mul, Nat.mul_add]; simp only [Nat.mul_assoc]
  have e2 : (top * 4294967296 + u2 + 1) * P = top * (4294967296 * P) + (u2 + 1) * P := by
    rw [Nat.add_assoc, Nat.add_mul, Nat.mul_assoc]
  have e3 : (top + 1) * (4294967296 * P) = top * (4294967296 * P) + 4294967296 * P := by rw [Nat.add_mul, Nat.one_mul]
  omega
/-- a guess that the test refuses is too great -/
theorem Knuth.next {W V P v1 v2 top u2 g r : Nat} (h : Knuth W V P v1 v2 top u2) (hg : g * v1 + r = top) (hle : W / V ≤ g) (ht : 4294967296 ≤ g ∨ r * 4294967296 + u2 < g * v2) : W / V + 1 ≤ g := by
  rcases ht with ht | ht
  · have := h.quo; omega
  · apply Nat.lt_of_le_of_ne hle
    intro he
    have h1 : W / V * V ≤ W := Nat.div_mul_le_self W V
    rw [he] at h1
    have h2 : g * ((v1 * 4294967296 + v2) * P) ≤ g * V := Nat.mul_le_mul_left _ h.lo
    have h3 := h.whi
    have h4 : top * 4294967296 + u2 + 1 ≤ g * (v1 * 4294967296 + v2) := by
      rw [← hg, Nat.mul_add, Nat.add_mul, Nat.mul_assoc]; omega
    have h5 := Nat.mul_le_mul_right P h4
    rw [Nat.mul_assoc] at h5
    omega
/-- the guess that stands is at most one too great -/
theorem Knuth.stop {W V P v1 v2 top u2 g r : Nat} (h : Knuth W V P v1 v2 top u2) (hg : g * v1 + r = top) (ht : (g < 4294967296 ∧ g * v2 ≤ r * 4294967296 + u2) ∨ 4294967296 ≤ r) : g < 4294967296 ∧ g * V < W + V := by
  have hgb : g < 4294967296 := by
    rcases ht with ht | ht
    · exact ht.1
    · apply Nat.lt_of_not_le
      intro hge
      have h1 : 4294967296 * v1 ≤ g * v1 := Nat.mul_le_mul_right _ hge
      have h2 : (top * 4294967296 + u2) * P < 4294967296 * ((v1 * 4294967296 + v2 + 1) * P) :=
        Nat.lt_of_le_of_lt h.wlo (Nat.lt_trans h.less ((Nat.mul_lt_mul_left (by omega)).2 h.hi))
      rw [← Nat.mul_assoc] at h2
      have h3 := Nat.lt_of_mul_lt_mul_right h2
      have := h.d2
      omega
  have ht2 : g * v2 ≤ r * 4294967296 + u2 := by
    rcases ht with ht | ht
    · exact ht.2
    · have h1 : g * v2 ≤ 4294967296 * 4294967296 := Nat.mul_le_mul (Nat.le_of_lt hgb) (Nat.le_of_lt h.d2)
      have h2 : 4294967296 * 4294967296 ≤ r * 4294967296 := Nat.mul_le_mul_right _ ht
      omega
  refine ⟨hgb, ?_⟩
  have h1 : g * (v1 * 4294967296 + v2) ≤ top * 4294967296 + u2 := by
    rw [← hg, Nat.mul_add, Nat.add_mul, Nat.mul_assoc]; omega
  have h2 := Nat.mul_le_mul_right P h1
  have h3 : g * V ≤ g * ((v1 * 4294967296 + v2 + 1) * P) := Nat.mul_le_mul_left _ (Nat.le_of_lt h.hi)
  have e1 : g * ((v1 * 4294967296 + v2 + 1) * P) = g * (v1 * 4294967296 + v2) * P + g * P := by
    rw [Nat.add_mul (v1 * 4294967296 + v2) 1 P, Nat.mul_add, Nat.one_mul, Nat.mul_assoc]
  have h4 : g * P < 4294967296 * P := (Nat.mul_lt_mul_right h.pos).2 hgb
  have h5 : 4294967296 * P ≤ (v1 * 4294967296 + v2) * P := Nat.mul_le_mul_right _ (by have := h.big; omega)
  have := h.wlo
  have := h.lo
  omega
/-- so it is the digit, or the digit and one -/
theorem Knuth.done {W V P v1 v2 top u2 g : Nat} (h : Knuth W V P v1 v2 top u2) (hle : W / V ≤ g) (hg : g * V < W + V) : g = W / V ∧ g * V ≤ W ∨ g = W / V + 1 ∧ W < g * V := by
  have hV := h.vpos
  have h1 : W / V * V + W % V = W := by rw [Nat.mul_comm]; exact Nat.div_add_mod W V
  have h2 := Nat.mod_lt W hV
  have h3 : g ≤ W / V + 1 := by
    apply Nat.le_of_not_lt
    intro hlt
    have h4 : (W / V + 2) * V ≤ g * V := Nat.mul_le_mul_right _ hlt
    rw [Nat.add_mul] at h4
    omega
  rcases Nat.lt_or_ge (W / V) g with h4 | h4
  · have h5 : g = W / V + 1 := by omega
    refine Or.inr ⟨h5, ?_⟩
    rw [h5, Nat.add_mul, Nat.one_mul]; omega
  · have h5 : g = W / V := by omega
    refine Or.inl ⟨h5, ?_⟩
    rw [h5]; omega
theorem three_digits (p B x y z : Nat) : p * z + p * B * y + p * B * B * x = p * ((x * B + y) * B + z) := by
  simp only [Nat.mul_add, Nat.add_mul]
  simp only [Nat.mul_comm, Nat.mul_left_comm]
  omega
theorem two_digits (p B y z : Nat) : p * z + p * B * y = p * (y * B + z) := by
  simp only [Nat.mul_add]
  simp only [Nat.mul_comm, Nat.mul_left_comm]
  omega
/-- what is known of a window in digits -/
theorem knuth_of {u v : List Nat} {m v1 v2 u0 u1 u2 : Nat} (hu : Digs u) (hv : Digs v) (hlu : u.length = m + 3) (hlv : v.length = m + 2) (h1 : v[m + 1]? = some v1) (h2 : v[m]? = some v2)
    (g0 : u[m + 2]? = some u0) (g1 : u[m + 1]? = some u1) (g2 : u[m]? = some u2) (hbig : 2147483648 ≤ v1) (hless : valL (u.drop 1) < valL v) : Knuth (valL u) (valL v) (4294967296 ^ m) v1 v2 (u0 * 4294967296 + u1) u2 := by
  have eu : valL u = valL (u.take m) + 4294967296 ^ m * ((u0 * 4294967296 + u1) * 4294967296 + u2) := by
    have e := val_take_succ g0
    rw [show m + 2 + 1 = u.length by omega, List.take_length] at e
    rw [e, val_take_succ g1, val_take_succ g2, show (4294967296 : Nat) ^ (m + 2) = 4294967296 ^ (m + 1) * 4294967296 from Nat.pow_succ .., Nat.pow_succ, ← three_digits]
    simp only [Nat.add_assoc]
  have ev : valL v = valL (v.take m) + 4294967296 ^ m * (v1 * 4294967296 + v2) := by
    have e := val_take_succ h1
    rw [show m + 1 + 1 = v.length by omega, List.take_length] at e
    rw [e, val_take_succ h2, Nat.pow_succ, ← two_digits]
    simp only [Nat.add_assoc]
  have lu := val_lt (hu.take m)
  have lv := val_lt (hv.take m)
  rw [List.length_take, Nat.min_eq_left (by omega)] at lu lv
  have ed : valL u = valL (u.drop 1) * 4294967296 + (u.take 1).headD 0 := by
    match u, hlu with
    | x :: r, _ => simp [valL]; omega
  have hx : (u.take 1).headD 0 < 4294967296 := by
    match u, hlu, hu with
    | x :: r, _, hu => simp; exact (Digs.cons.1 hu).1
  refine ⟨Nat.pow_pos (by omega), ?_, ?_, ?_, ?_, dig_at hv h1, dig_at hv h2, dig_at hu g2, hbig, by omega⟩
  · rw [ev, Nat.mul_comm _ (4294967296 ^ m)]; omega
  · rw [ev, Nat.add_mul (_ + v2) 1, Nat.one_mul, Nat.mul_comm (v1 * 4294967296 + v2) (4294967296 ^ m)]; omega
  · rw [eu, Nat.mul_comm _ (4294967296 ^ m)]; omega
  · rw [eu, Nat.add_mul (_ + u2) 1, Nat.one_mul, Nat.mul_comm ((u0 * 4294967296 + u1) * 4294967296 + u2) (4294967296 ^ m)]; omega
/-- subtract, a round: c what is carried of the product, o what is borrowed -/
theorem off_round {out u v : List Nat} {i g c o x t : Nat} (hl : out.length = i) (h : valL out + g * valL (v.take i) = valL (u.take i) + 4294967296 ^ i * (c + o)) (hx : u[i]? = some x) (ht : (v[i]? = some t) ∨ (v.length ≤ i ∧ t = 0)) {d o' : Nat} (hd : d + (c + g * t) % 4294967296 + o = x + 4294967296 * o') :
    valL (out ++ [d]) + g * valL (v.take (i + 1)) = valL (u.take (i + 1)) + 4294967296 ^ (i + 1) * ((c + g * t) / 4294967296 + o') := by
  have hb : valL (v.take (i + 1)) = valL (v.take i) + 4294967296 ^ i * t := by
    rcases ht with ht | ⟨h1, rfl⟩
    · exact val_take_succ ht
    · rw [take_past h1]; simp
  have h2 := Nat.mod_add_div (c + g * t) 4294967296
  have h3 : 4294967296 ^ i * (d + g * t + (c + o)) = 4294967296 ^ i * (x + 4294967296 * ((c + g * t) / 4294967296 + o')) := by
    congr 1; omega
  rw [val_take_succ hx, hb, val_snoc, hl, Nat.pow_succ, Nat.mul_assoc, Nat.mul_add g, Nat.mul_left_comm g]
  rw [Nat.mul_add, Nat.mul_add, Nat.mul_add (4294967296 ^ i) x] at h3
  omega
end Go.Proofs.YtkkpfdfoojcljaaGreat
namespace Go.Proofs.YtkkpfdfoojcljaaGreat
open Go.RowKit

/-- behind the window there are noughts only -/
theorem upper_zero {u v : List Nat} {j n : Nat} (hv : Digs v) (hn : v.length = n) (hl : j + 1 + n ≤ u.length) (h : valL (u.drop (j + 1)) < valL v) : valL (u.drop (j + 1 + n)) = 0 := by
  have h1 := val_lt hv
  rw [hn] at h1
  have h2 := val_take_drop (u.drop (j + 1)) n (by rw [List.length_drop]; omega)
  rw [List.drop_drop] at h2
  rcases Nat.eq_zero_or_pos (valL (u.drop (j + 1 + n))) with h3 | h3
  · exact h3
  · have h4 : 4294967296 ^ n * 1 ≤ 4294967296 ^ n * valL (u.drop (j + 1 + n)) := Nat.mul_le_mul_left _ h3
    omega
theorem val_below {u : List Nat} {k : Nat} (hu : Digs u) (hk : k ≤ u.length) (h : valL (u.drop k) = 0) : valL u < 4294967296 ^ k := by
  have h1 := val_take_drop u k hk
  have h2 := val_lt (hu.take k)
  rw [List.length_take, Nat.min_eq_left hk] at h2
  rw [h] at h1
  omega
/-- the window's worth -/
theorem win_val {u : List Nat} {j k : Nat} (hk : j + k ≤ u.length) (h : valL (u.drop (j + k)) = 0) : valL ((u.drop j).take k) = valL (u.drop j) := by
  have h1 := val_take_drop (u.drop j) k (by rw [List.length_drop]; omega)
  rw [List.drop_drop, h] at h1
  omega
/-- a window put back -/
theorem put_val {u out : List Nat} {j k : Nat} (hl : out.length = k) (hk : j + k ≤ u.length) : valL (u.take j ++ out ++ u.drop (j + k)) + 4294967296 ^ j * valL ((u.drop j).take k) = valL u + 4294967296 ^ j * valL out := by
  have h1 := val_take_drop u j (by omega)
  have h2 := val_take_drop (u.drop j) k (by rw [List.length_drop]; omega)
  rw [List.drop_drop] at h2
  rw [val_app, val_app, List.length_append, List.length_take, Nat.min_eq_left (by omega), hl, h1, h2, Nat.mul_add, Nat.pow_add, Nat.mul_assoc]
  omega
/-- the digit t is taken off: what remains -/
theorem digit_done {u u' v : List Nat} {j : Nat} (hu : Digs u) (hu' : Digs u') (hl : u'.length = u.length) (hj : j ≤ u.length) (h : valL u' + 4294967296 ^ j * (valL (u.drop j) / valL v * valL v) = valL u) : valL (u'.drop j) = valL (u.drop j) % valL v := by
  have h1 := val_take_drop u j hj
  have h2 := val_take_drop u' j (by omega)
  have l1 := val_lt (hu.take j)
  have l2 := val_lt (hu'.take j)
  rw [List.length_take, Nat.min_eq_left (by omega)] at l1 l2
  have h3 := Nat.div_add_mod (valL (u.drop j)) (valL v)
  rw [Nat.mul_comm] at h3
  have h4 : 4294967296 ^ j * (valL (u.drop j) / valL v * valL v + valL (u.drop j) % valL v) = 4294967296 ^ j * valL (u.drop j) := by rw [h3]
  rw [Nat.mul_add] at h4
  have h5 : valL (u'.take j) + 4294967296 ^ j * valL (u'.drop j) = valL (u.take j) + 4294967296 ^ j * (valL (u.drop j) % valL v) := by omega
  have hp : 0 < 4294967296 ^ j := Nat.pow_pos (by omega)
  have h6 := congrArg (· / 4294967296 ^ j) h5
  simp only [Nat.add_mul_div_left _ _ hp, Nat.div_eq_of_lt l1, Nat.div_eq_of_lt l2] at h6
  omega
/-- taken off with a borrow: the guess was one too great, and added back it is right -/
theorem back_done {U U' S V B K o g t : Nat} (hS : S + K * (g * V) = U + B * o) (ho : o = 1) {c : Nat} (hU' : U' + B * c = S + K * V) (hg : g = t + 1) (hlu : U < B) (hlu' : U' < B) (hle : K * (t * V) ≤ U) : U' + K * (t * V) = U := by
  subst ho hg
  rw [Nat.add_mul, Nat.one_mul, Nat.mul_add] at hS
  have h1 : U' + B * c + K * (t * V) = U + B := by omega
  rcases Nat.lt_or_ge c 1 with h2 | h2
  · obtain rfl : c = 0 := by omega
    omega
  · rcases Nat.lt_or_ge c 2 with h3 | h3
    · obtain rfl : c = 1 := by omega
      omega
    · have : B * 2 ≤ B * c := Nat.mul_le_mul_left _ h3
      omega
theorem plain_done {U S V B K o g t : Nat} (hS : S + K * (g * V) = U + B * o) (ho : o = 0) (hg : g = t) : S + K * (t * V) = U := by subst ho hg; omega
/-- is something borrowed? -/
theorem borrow_iff {S W X B o : Nat} (h : S + X = W + B * o) (hS : S < B) (ho : o ≤ 1) : o = 1 ↔ W < X := by
  constructor
  · rintro rfl; omega
  · intro hlt
    rcases Nat.eq_zero_or_pos o with rfl | hp
    · omega
    · omega
/-- all rounds: a further digit of the quotient -/
theorem quo_step {u u' q : List Nat} {U0 V j t : Nat} (h : U0 = valL (q.drop (j + 1)) * 4294967296 ^ (j + 1) * V + valL u) (hu : valL u' + 4294967296 ^ j * (t * V) = valL u) (hq : j < q.length) :
    U0 = valL ((q.set j t).drop j) * 4294967296 ^ j * V + valL u' := by
  rw [val_drop_cons (x := t) (by rw [List.getElem?_set_self hq]), List.drop_set_of_lt (by omega), h, ← hu, Nat.pow_succ]
  have e1 : valL (q.drop (j + 1)) * (4294967296 ^ j * 4294967296) * V = 4294967296 * valL (q.drop (j + 1)) * 4294967296 ^ j * V := by
    rw [Nat.mul_comm (4294967296 ^ j), ← Nat.mul_assoc, Nat.mul_comm _ 4294967296]
  have e2 : 4294967296 ^ j * (t * V) = t * 4294967296 ^ j * V := by rw [← Nat.mul_assoc, Nat.mul_comm _ t]
  rw [e1, e2, Nat.add_mul, Nat.add_mul]
  omega
/-- the last: quotient and remainder, both shifted by the same -/
theorem quo_end {a b q R e : Nat} (he : 0 < e) (h : a * e = q * (b * e) + R) (hR : R < b * e) : q = a / b ∧ R / e = a % b ∧ R = a % b * e := by
  have hb : 0 < b := by
    rcases Nat.eq_zero_or_pos b with rfl | h
    · omega
    · exact h
  have h1 : R = (a * e) % (b * e) := by
    rw [h, Nat.mul_comm q, Nat.mul_add_mod, Nat.mod_eq_of_lt hR]
  have h2 : q = (a * e) / (b * e) := by
    rw [h, Nat.mul_comm q, Nat.mul_add_div (by omega), Nat.div_eq_of_lt hR, Nat.add_zero]
  rw [Nat.mul_div_mul_right _ _ he] at h2
  rw [Nat.mul_mod_mul_right] at h1
  refine ⟨h2, ?_, h1⟩
  rw [h1, Nat.mul_div_cancel _ he]
end Go.Proofs.YtkkpfdfoojcljaaGreat
namespace Go.Proofs.YtkkpfdfoojcljaaGreat
open Go.RowKit

/-- numerator and denominator of at most 2^N -/
def RB (N : Nat) (q : Rat) : Prop := q.num.natAbs ≤ 2 ^ N ∧ q.den ≤ 2 ^ N
theorem RB.mono {N M : Nat} {q : Rat} (h : RB N q) (hl : N ≤ M) : RB M q :=
  ⟨Nat.le_trans h.1 (Nat.pow_le_pow_right (by omega) hl), Nat.le_trans h.2 (Nat.pow_le_pow_right (by omega) hl)⟩
theorem rb_zero : RB 0 0 := ⟨by decide, by decide⟩
theorem natAbs_div_le (n : Int) (g : Nat) : (n / (g : Int)).natAbs ≤ n.natAbs ∨ ¬ (g : Int) ∣ n := by
  by_cases h : (g : Int) ∣ n
  · left
    rw [Int.natAbs_ediv_of_dvd h]
    exact Nat.div_le_self _ _
  · exact Or.inr h
theorem normal_num (n : Int) (d : Nat) (h : d ≠ 0) : (Rat.normalize n d h).num.natAbs ≤ n.natAbs := by
  rw [Rat.normalize_eq]
  rcases natAbs_div_le n (n.natAbs.gcd d) with h1 | h1
  · exact h1
  · exact absurd (Int.ofNat_dvd_left.2 (Nat.gcd_dvd_left _ _)) h1
theorem normal_den (n : Int) (d : Nat) (h : d ≠ 0) : (Rat.normalize n d h).den ≤ d := by
  rw [Rat.normalize_eq]; exact Nat.div_le_self _ _
theorem RB.times {N M : Nat} {a b : Rat} (ha : RB N a) (hb : RB M b) : RB (N + M) (a * b) := by
  rw [Rat.mul_def]
  refine ⟨Nat.le_trans (normal_num _ _ _) ?_, Nat.le_trans (normal_den _ _ _) ?_⟩
  · rw [Int.natAbs_mul, Nat.pow_add]; exact Nat.mul_le_mul ha.1 hb.1
  · rw [Nat.pow_add]; exact Nat.mul_le_mul ha.2 hb.2
theorem RB.plus {N M : Nat} {a b : Rat} (ha : RB N a) (hb : RB M b) : RB (N + M + 1) (a + b) := by
  rw [Rat.add_def]
  have h1 : a.num.natAbs * b.den ≤ 2 ^ (N + M) := by rw [Nat.pow_add]; exact Nat.mul_le_mul ha.1 hb.2
  have h2 : b.num.natAbs * a.den ≤ 2 ^ (N + M) := by rw [Nat.add_comm N, Nat.pow_add]; exact Nat.mul_le_mul hb.1 ha.2
  have h3 : a.den * b.den ≤ 2 ^ (N + M) := by rw [Nat.pow_add]; exact Nat.mul_le_mul ha.2 hb.2
  have h4 : 2 ^ (N + M + 1) = 2 ^ (N + M) + 2 ^ (N + M) := by rw [Nat.pow_succ]; omega
  refine ⟨Nat.le_trans (normal_num _ _ _) (Nat.le_trans (Int.natAbs_add_le _ _) ?_), Nat.le_trans (normal_den _ _ _) (by omega)⟩
  rw [Int.natAbs_mul, Int.natAbs_mul, Int.natAbs_natCast, Int.natAbs_natCast]
  omega
/-- the sum of a row over numbers -/
def rowR : List Int → List Rat → Rat
  | [], _ => 0
  | _ :: _, [] => 0
  | c :: r, x :: s => (c : Rat) * x + rowR r s
/-- as the program sums it: from the front -/
def rowG (q : Rat) : List Int → List Rat → Rat
  | [], _ => q
  | _ :: _, [] => q
  | c :: r, x :: s => rowG (q + (c : Rat) * x) r s
theorem rowG_eq : ∀ (l : List Int) (q : Rat) (s : List Rat), rowG q l s = q + rowR l s
  | [], q, s => by rw [rowG, rowR, Rat.add_zero]
  | _ :: _, q, [] => by rw [rowG, rowR, Rat.add_zero]
  | c :: r, q, x :: s => by rw [rowG, rowR, rowG_eq r, Rat.add_assoc]
/-- the sign of a comparison, in whole numbers -/
theorem rat_lt_of (a b : Rat) : a < b ↔ a.num * (b.den : Int) < b.num * (a.den : Int) := Rat.lt_iff a b
theorem rat_eq_of (a b : Rat) : a = b ↔ a.num * (b.den : Int) = b.num * (a.den : Int) := by
  constructor
  · rintro rfl; rfl
  · intro h
    exact Rat.le_antisymm ((Rat.le_iff a b).2 (Int.le_of_eq h)) ((Rat.le_iff b a).2 (Int.le_of_eq h.symm))
end Go.Proofs.YtkkpfdfoojcljaaGreat
namespace Go.Proofs.YtkkpfdfoojcljaaGreat
open Go.RowKit

def by4 (x : Nat) : List UInt8 := [UInt8.ofNat x, UInt8.ofNat (x / 256), UInt8.ofNat (x / 65536), UInt8.ofNat (x / 16777216)]
def bytesL (l : List Nat) : List UInt8 := l.flatMap by4
def sizeB (l : List Nat) : ByteArray := ⟨(bytesL l).toArray⟩
theorem bytes_len : ∀ l : List Nat, (bytesL l).length = 4 * l.length
  | [] => rfl
  | x :: r => by
    have := bytes_len r
    unfold bytesL at this ⊢
    rw [List.flatMap_cons, List.length_append, this, List.length_cons]
    simp [by4]; omega
theorem size_len (l : List Nat) : (sizeB l).size = 4 * l.length := by
  rw [← bytes_len]; rfl
theorem bytes_at : ∀ {l : List Nat} {i x : Nat} (_ : l[i]? = some x) {k : Nat} (_ : k < 4), (bytesL l)[4 * i + k]? = (by4 x)[k]?
  | [], _, _, h, _, _ => by simp at h
  | y :: r, 0, x, h, k, hk => by
    obtain rfl : y = x := by simpa using h
    unfold bytesL
    rw [List.flatMap_cons, List.getElem?_append_left (by simp [by4]; omega), Nat.mul_zero, Nat.zero_add]
  | y :: r, i + 1, x, h, k, hk => by
    have := bytes_at (l := r) (i := i) (x := x) (by simpa using h) hk
    unfold bytesL at this ⊢
    rw [List.flatMap_cons, List.getElem?_append_right (by simp [by4]; omega), ← this]
    congr 1
    simp [by4]; omega
theorem size_at {l : List Nat} {i x : Nat} (h : l[i]? = some x) {k : Nat} (hk : k < 4) (hj : 4 * i + k < (sizeB l).size) : ((sizeB l)[4 * i + k]'hj).toNat = x / 256 ^ k % 256 := by
  have h1 := bytes_at h hk
  have h2 : (bytesL l)[4 * i + k]? = some ((sizeB l)[4 * i + k]'hj) := by
    rw [List.getElem?_eq_getElem (by rw [bytes_len, ← size_len]; exact hj)]; rfl
  rw [h2] at h1
  generalize (sizeB l)[4 * i + k]'hj = y at h1
  match k, hk with
  | 0, _ => obtain rfl : y = _ := by simpa [by4] using h1
            simp
  | 1, _ => obtain rfl : y = _ := by simpa [by4] using h1
            simp
  | 2, _ => obtain rfl : y = _ := by simpa [by4] using h1
            simp
  | 3, _ => obtain rfl : y = _ := by simpa [by4] using h1
            simp
theorem four_bytes {x : Nat} (h : x < 4294967296) : x % 256 + 256 * (x / 256 % 256) + 65536 * (x / 65536 % 256) + 16777216 * (x / 16777216 % 256) = x := by omega
theorem size_nil_iff (l : List Nat) : sizeB l = ⟨#[]⟩ ↔ l = [] := by
  constructor
  · intro h
    have := size_len l
    rw [h] at this
    exact List.length_eq_zero_iff.1 (by have h2 : (⟨#[]⟩ : ByteArray).size = 0 := rfl; omega)
  · rintro rfl; rfl
end Go.Proofs.YtkkpfdfoojcljaaGreat
namespace Go.Proofs.YtkkpfdfoojcljaaGreat
open Go.RowKit

theorem take_set_succ {l : List Nat} {i : Nat} (h : i < l.length) (v : Nat) : (l.set i v).take (i + 1) = l.take i ++ [v] := by
  rw [List.take_succ_eq_append_getElem (by simpa using h), List.take_set_of_le (Nat.le_refl _), List.getElem_set_self]
/-- right, a round: e times f is 2^32; y is the digit above (nought, where there is none) -/
theorem right_round {out a : List Nat} {i x y e f N : Nat} (he : 0 < e) (hf : e * f = 4294967296) (hl : out.length = i) (h : valL out + 4294967296 ^ i * (valL (a.drop i) / e) = N) (hx : a[i]? = some x) (hy : (a[i + 1]? = some y) ∨ (a.length ≤ i + 1 ∧ y = 0)) :
    valL (out ++ [x / e + f * (y % e)]) + 4294967296 ^ (i + 1) * (valL (a.drop (i + 1)) / e) = N := by
  have h1 : valL (a.drop (i + 1)) % e = y % e := by
    rcases hy with hy | ⟨h1, rfl⟩
    · rw [val_drop_cons hy, ← hf, Nat.mul_assoc, Nat.add_mul_mod_self_left]
    · rw [List.drop_eq_nil_of_le h1]; rfl
  rw [val_drop_cons hx] at h
  generalize valL (a.drop (i + 1)) = V at h1 h ⊢
  have h2 : (x + 4294967296 * V) / e = x / e + f * V := by
    rw [← hf, Nat.mul_assoc, Nat.add_mul_div_left _ _ he]
  have h3 := Nat.div_add_mod V e
  have h4 : f * V = f * (V % e) + 4294967296 * (V / e) := by
    rw [← hf, Nat.mul_comm e f, Nat.mul_assoc, ← Nat.mul_add, Nat.add_comm]
    exact congrArg (f * ·) h3.symm
  rw [h2, h4, h1, Nat.mul_add, Nat.mul_add] at h
  rw [val_snoc, hl, Nat.pow_succ, Nat.mul_assoc, Nat.mul_add]
  omega
/-- the sign of a comparison -/
def cmpN (a b : Nat) : Int := if a < b then -1 else if b < a then 1 else 0
theorem cmpN_lt {a b : Nat} (h : a < b) : cmpN a b = -1 := by unfold cmpN; rw [if_pos h]
theorem cmpN_gt {a b : Nat} (h : b < a) : cmpN a b = 1 := by unfold cmpN; rw [if_neg (by omega), if_pos h]
theorem cmpN_eq (a : Nat) : cmpN a a = 0 := by unfold cmpN; rw [if_neg (by omega), if_neg (by omega)]
def cmpI (a b : Int) : Int := if a < b then -1 else if b < a then 1 else 0
theorem bitLen_spec (x : Nat) (h0 : 0 < x) (h : x < 2 ^ 64) : 0 < Lib.bitLen x ∧ 2 ^ (Lib.bitLen x - 1) ≤ x ∧ x < 2 ^ Lib.bitLen x := by
  induction x using Nat.strongRecOn with
  | ind x ih =>
    rw [Lib.bitLen_half x (by omega) h]
    by_cases h1 : x = 1
    · subst h1
      decide
    · obtain ⟨i0, i1, i2⟩ := ih (x / 2) (by omega) (by omega) (by omega)
      generalize Lib.bitLen (x / 2) = b at i0 i1 i2
      obtain ⟨c, rfl⟩ : ∃ c, b = c + 1 := ⟨b - 1, by omega⟩
      rw [show 1 + (c + 1) - 1 = c + 1 by omega, show 1 + (c + 1) = c + 1 + 1 by omega]
      rw [show c + 1 - 1 = c by omega] at i1
      have e1 : 2 ^ (c + 1) = 2 * 2 ^ c := by rw [Nat.pow_succ, Nat.mul_comm]
      have e2 : 2 ^ (c + 1 + 1) = 2 * 2 ^ (c + 1) := by rw [Nat.pow_succ, Nat.mul_comm]
      omega
theorem bitLen_le32 {x : Nat} (h0 : 0 < x) (h : x < 4294967296) : Lib.bitLen x ≤ 32 := by
  obtain ⟨b0, b1, -⟩ := bitLen_spec x h0 (by omega)
  apply Nat.le_of_not_lt
  intro hlt
  have := Nat.pow_le_pow_right (n := 2) (by omega) (show 32 ≤ Lib.bitLen x - 1 by omega)
  omega
/-- shifted by what it lacks of 32 bits, a digit is great -/
theorem shift_big {x : Nat} (h0 : 0 < x) (h : x < 4294967296) : 2147483648 ≤ x * 2 ^ (32 - Lib.bitLen x) ∧ x * 2 ^ (32 - Lib.bitLen x) < 4294967296 := by
  obtain ⟨b0, b1, b2⟩ := bitLen_spec x h0 (by omega)
  have b3 := bitLen_le32 h0 h
  have e1 : (2147483648 : Nat) = 2 ^ (Lib.bitLen x - 1) * 2 ^ (32 - Lib.bitLen x) := by
    rw [← Nat.pow_add, show Lib.bitLen x - 1 + (32 - Lib.bitLen x) = 31 by omega]
  have e2 : (4294967296 : Nat) = 2 ^ Lib.bitLen x * 2 ^ (32 - Lib.bitLen x) := by
    rw [← Nat.pow_add, show Lib.bitLen x + (32 - Lib.bitLen x) = 32 by omega]
  constructor
  · rw [e1]; exact Nat.mul_le_mul_right _ b1
  · rw [e2]; exact Nat.mul_lt_mul_of_pos_right b2 (Nat.pow_pos (by omega))
end Go.Proofs.YtkkpfdfoojcljaaGreat
namespace Go.Proofs.YtkkpfdfoojcljaaGreat
open Go.RowKit

/-- the window of a round -/
theorem kn_of {U v : List Nat} {j m v1 v2 u0 u1 u2 : Nat} (hu : Digs U) (hv : Digs v) (hlv : v.length = m + 2) (hl : j + (m + 3) ≤ U.length) (h1 : v[m + 1]? = some v1) (h2 : v[m]? = some v2)
    (g0 : U[j + (m + 2)]? = some u0) (g1 : U[j + (m + 1)]? = some u1) (g2 : U[j + m]? = some u2) (hbig : 2147483648 ≤ v1) (hless : valL (U.drop (j + 1)) < valL v) :
    Knuth (valL (U.drop j)) (valL v) (4294967296 ^ m) v1 v2 (u0 * 4294967296 + u1) u2 := by
  have hz := upper_zero hv hlv (by omega) hless
  rw [show j + 1 + (m + 2) = j + (m + 3) by omega] at hz
  have hw := win_val hl hz
  have hw1 : valL ((U.drop (j + 1)).take (m + 2)) = valL (U.drop (j + 1)) := win_val (by omega) (by rw [show j + 1 + (m + 2) = j + (m + 3) by omega]; exact hz)
  rw [← hw]
  refine knuth_of ((hu.drop j).take (m + 3)) hv (by rw [List.length_take, List.length_drop]; omega) hlv h1 h2 ?_ ?_ ?_ hbig ?_
  · rw [List.getElem?_take, if_pos (by omega), List.getElem?_drop]; exact g0
  · rw [List.getElem?_take, if_pos (by omega), List.getElem?_drop]; exact g1
  · rw [List.getElem?_take, if_pos (by omega), List.getElem?_drop]; exact g2
  · rw [List.drop_take, List.drop_drop, show m + 3 - 1 = m + 2 by omega, hw1]; exact hless
theorem sub_cases {W V P v1 v2 top u2 G R o B : Nat} (K : Knuth W V P v1 v2 top u2) (hle : W / V ≤ G) (hg : G * V < W + V) (h : R + G * V = W + B * o) (hR : R < B) (ho : o ≤ 1) : (o = 0 ∧ G = W / V) ∨ (o = 1 ∧ G = W / V + 1) := by
  have hb := borrow_iff h hR ho
  rcases K.done hle hg with ⟨h1, h2⟩ | ⟨h1, h2⟩
  · exact .inl ⟨by rcases Nat.eq_zero_or_pos o with h3 | h3
                   · exact h3
                   · have := hb.1 (by omega); omega, h1⟩
  · exact .inr ⟨hb.2 h2, h1⟩
/-- what subtract leaves of the row -/
theorem sub_whole {U out : List Nat} {j M G V o : Nat} (hl : out.length = M) (hj : j + M ≤ U.length) (h : valL out + G * V = valL ((U.drop j).take M) + 4294967296 ^ M * o) :
    valL (U.take j ++ out ++ U.drop (j + M)) + 4294967296 ^ j * (G * V) = valL U + 4294967296 ^ (j + M) * o := by
  have h1 := put_val hl hj
  have h2 : 4294967296 ^ j * (valL out + G * V) = 4294967296 ^ j * (valL ((U.drop j).take M) + 4294967296 ^ M * o) := by rw [h]
  rw [Nat.mul_add, Nat.mul_add, ← Nat.mul_assoc (4294967296 ^ j) (4294967296 ^ M), ← Nat.pow_add] at h2
  omega
/-- a round: t the digit -/
theorem round_end {U U' v Q : List Nat} {j n t X0 : Nat} (hu : Digs U) (hu' : Digs U') (hlu : U'.length = U.length) (hl : j + 1 + n ≤ U.length) (hV : 0 < valL v) (ht : t = valL (U.drop j) / valL v)
    (h : X0 = valL (Q.drop (j + 1)) * 4294967296 ^ (j + 1) * valL v + valL U) (hq : j < Q.length) (he : valL U' + 4294967296 ^ j * (t * valL v) = valL U) :
    X0 = valL ((Q.set j t).drop j) * 4294967296 ^ j * valL v + valL U' ∧ valL (U'.drop j) < valL v := by
  refine ⟨quo_step h he hq, ?_⟩
  rw [digit_done hu hu' hlu (by omega) (by rw [← ht]; exact he)]
  exact Nat.mod_lt _ hV
/-- V fits into the row as often as the digit says -/
theorem digit_le {U : List Nat} {j V t : Nat} (hj : j ≤ U.length) (ht : t = valL (U.drop j) / V) : 4294967296 ^ j * (t * V) ≤ valL U := by
  have h1 := val_take_drop U j hj
  have h2 : t * V ≤ valL (U.drop j) := by rw [ht]; exact Nat.div_mul_le_self _ _
  have h3 := Nat.mul_le_mul_left (4294967296 ^ j) h2
  omega
/-- the divisor, shifted -/
theorem norm_v {b : List Nat} {m x e f : Nat} (hb : Digs b) (hl : b.length = m + 1) (hx : b[m]? = some x) (hef : e * f = 4294967296) (he : 0 < e) (h31 : 2147483648 ≤ x * e) (h32 : x * e < 4294967296) :
    (digN (valL b * e)).length = m + 1 ∧ ∃ y, (digN (valL b * e))[m]? = some y ∧ 2147483648 ≤ y ∧ 2147483648 * 4294967296 ^ m ≤ valL b * e := by
  have h1 : valL b = valL (b.take m) + 4294967296 ^ m * x := by
    have := val_take_succ hx
    rwa [← hl, List.take_length] at this
  have h2 := val_lt (hb.take m)
  rw [List.length_take, Nat.min_eq_left (by omega)] at h2
  have h3 : x < f := by
    apply Nat.lt_of_mul_lt_mul_left (a := e)
    rw [hef, Nat.mul_comm]; exact h32
  have h4 : (x + 1) * e ≤ 4294967296 := by rw [← hef, Nat.mul_comm]; exact Nat.mul_le_mul_left _ h3
  have h5 : valL b * e < 4294967296 ^ m * 4294967296 := by
    have h6 : valL b < 4294967296 ^ m * (x + 1) := by rw [h1, Nat.mul_add]; omega
    have h7 := (Nat.mul_lt_mul_right he).2 h6
    rw [Nat.mul_assoc] at h7
    exact Nat.lt_of_lt_of_le h7 (Nat.mul_le_mul_left _ h4)
  have h8 : 4294967296 ^ m * 2147483648 ≤ valL b * e := by
    have h9 : 4294967296 ^ m * (x * e) ≤ valL b * e := by rw [← Nat.mul_assoc]; exact Nat.mul_le_mul_right _ (by omega)
    exact Nat.le_trans (Nat.mul_le_mul_left _ h31) h9
  rw [← Nat.pow_succ] at h5
  have hlen : (digN (valL b * e)).length = m + 1 := by
    have l1 := digN_len h5
    have l2 := digN_len_gt (n := valL b * e) (k := m) (Nat.le_trans (by omega) h8)
    omega
  refine ⟨hlen, (digN (valL b * e))[m]'(by omega), List.getElem?_eq_getElem (by omega), ?_, by rw [Nat.mul_comm]; exact h8⟩
  have e1 : valL (digN (valL b * e)) = valL b * e := val_digN _
  have hy := List.getElem?_eq_getElem (show m < (digN (valL b * e)).length by omega)
  generalize (digN (valL b * e))[m]'(by omega) = y at hy ⊢
  have e2 := val_take_succ hy
  rw [← hlen, List.take_length, e1] at e2
  have e3 := val_lt ((canon_digN (valL b * e)).1.take m)
  rw [List.length_take, Nat.min_eq_left (by omega)] at e3
  apply Nat.le_of_not_lt
  intro hlt
  have e4 : 4294967296 ^ m * (y + 1) ≤ 4294967296 ^ m * 2147483648 := Nat.mul_le_mul_left _ hlt
  rw [Nat.mul_add] at e4
  omega
/-- the dividend, shifted: its upper digits are less than the divisor -/
theorem start_lt {U : List Nat} {X V e la m : Nat} (hU : valL U = X * e) (hX : X < 4294967296 ^ la) (he : 0 < e) (he31 : e ≤ 2147483648) (hV : 2147483648 * 4294967296 ^ m ≤ V) (hl : U.length = la + 1) (hm : m ≤ la) : valL (U.drop (la - m)) < V := by
  have h1 := val_take_drop U (la - m) (by omega)
  apply Nat.lt_of_not_le
  intro hle
  have h2 : 4294967296 ^ (la - m) * V ≤ 4294967296 ^ (la - m) * valL (U.drop (la - m)) := Nat.mul_le_mul_left _ hle
  have h3 : 4294967296 ^ (la - m) * (2147483648 * 4294967296 ^ m) ≤ 4294967296 ^ (la - m) * V := Nat.mul_le_mul_left _ hV
  have h4 : 4294967296 ^ (la - m) * (2147483648 * 4294967296 ^ m) = 4294967296 ^ la * 2147483648 := by
    rw [Nat.mul_comm 2147483648, ← Nat.mul_assoc, ← Nat.pow_add, show la - m + m = la by omega]
  have h5 : X * e < 4294967296 ^ la * e := (Nat.mul_lt_mul_right he).2 hX
  have h6 : 4294967296 ^ la * e ≤ 4294967296 ^ la * 2147483648 := Nat.mul_le_mul_left _ he31
  omega
theorem window_drop {U out : List Nat} {j k : Nat} (hl : out.length = k) (hj : j + k ≤ U.length) : (U.take j ++ out ++ U.drop (j + k)).drop (j + k) = U.drop (j + k) := by
  rw [List.drop_append_of_le_length (by rw [List.length_append, List.length_take, hl, Nat.min_eq_left (by omega)]; exact Nat.le_refl _)]
  rw [List.drop_eq_nil_of_le (by rw [List.length_append, List.length_take, hl, Nat.min_eq_left (by omega)]; exact Nat.le_refl _), List.nil_append]
/-- the divisor is added back -/
theorem add_top {S out v : List Nat} {j n c t t' c2 : Nat} (hl : out.length = n) (h : valL out + 4294967296 ^ n * c = valL ((S.drop j).take n) + valL v) (ht : (S.drop j)[n]? = some t) (hc : t' + 4294967296 * c2 = t + c) (hj : j + (n + 1) ≤ S.length) :
    valL (S.take j ++ (out ++ [t']) ++ S.drop (j + (n + 1))) + 4294967296 ^ (j + (n + 1)) * c2 = valL S + 4294967296 ^ j * valL v := by
  have h1 := put_val (u := S) (j := j) (k := n + 1) (out := out ++ [t']) (by rw [List.length_append, hl]; rfl) hj
  rw [val_snoc, hl, val_take_succ ht] at h1
  have h2 : 4294967296 ^ n * (t' + 4294967296 * c2) = 4294967296 ^ n * (t + c) := by rw [hc]
  rw [Nat.mul_add, Nat.mul_add, ← Nat.mul_assoc, ← Nat.pow_succ, Nat.succ_eq_add_one] at h2
  have h3 : 4294967296 ^ j * (valL out + 4294967296 ^ n * t' + 4294967296 ^ (n + 1) * c2) = 4294967296 ^ j * (valL ((S.drop j).take n) + 4294967296 ^ n * t + valL v) := by
    congr 1; omega
  rw [Nat.mul_add (4294967296 ^ j) (valL out + _), Nat.mul_add (4294967296 ^ j) (valL (List.take n _) + _), ← Nat.mul_assoc (4294967296 ^ j) (4294967296 ^ (n + 1)), ← Nat.pow_add] at h3
  omega
/-- taken off once too often, and added back -/
theorem back_all {U out out2 v : List Nat} {j n c t' c2 t G q : Nat} (hu : Digs U) (hv : Digs v) (hvn : v.length = n) (hless : valL (U.drop (j + 1)) < valL v) (hj : j + (n + 1) ≤ U.length) (hl : out.length = n + 1) (hl2 : out2.length = n) (hd2 : Digs out2) (ht' : t' < 4294967296)
    (hS : valL (U.take j ++ out ++ U.drop (j + (n + 1))) + 4294967296 ^ j * (G * valL v) = valL U + 4294967296 ^ (j + (n + 1)) * 1) (hdo : Digs out)
    (h : valL out2 + 4294967296 ^ n * c = valL (((U.take j ++ out ++ U.drop (j + (n + 1))).drop j).take n) + valL v) (ht : ((U.take j ++ out ++ U.drop (j + (n + 1))).drop j)[n]? = some t) (hc : t' + 4294967296 * c2 = t + c) (hG : G = q + 1) (hq : q = valL (U.drop j) / valL v) :
    Digs ((U.take j ++ out ++ U.drop (j + (n + 1))).take j ++ (out2 ++ [t']) ++ (U.take j ++ out ++ U.drop (j + (n + 1))).drop (j + (n + 1))) ∧
    valL ((U.take j ++ out ++ U.drop (j + (n + 1))).take j ++ (out2 ++ [t']) ++ (U.take j ++ out ++ U.drop (j + (n + 1))).drop (j + (n + 1))) + 4294967296 ^ j * (q * valL v) = valL U := by
  have hls : (U.take j ++ out ++ U.drop (j + (n + 1))).length = U.length := by
    rw [List.length_append, List.length_append, List.length_take, List.length_drop, hl, Nat.min_eq_left (by omega)]; omega
  have hds : Digs (U.take j ++ out ++ U.drop (j + (n + 1))) := Digs.app.2 ⟨Digs.app.2 ⟨hu.take j, hdo⟩, hu.drop _⟩
  have hwd := window_drop hl hj
  generalize hSS : U.take j ++ out ++ U.drop (j + (n + 1)) = S at *
  have hz := upper_zero hv hvn (by omega) hless
  rw [show j + 1 + n = j + (n + 1) by omega] at hz
  have h1 := add_top hl2 h ht hc (by omega)
  have hdd : Digs (S.take j ++ (out2 ++ [t']) ++ S.drop (j + (n + 1))) := Digs.app.2 ⟨Digs.app.2 ⟨hds.take j, digs_snoc hd2 ht'⟩, hds.drop _⟩
  refine ⟨hdd, back_done hS rfl h1 hG (val_below hu hj hz) (val_below hdd ?_ ?_) (digit_le (by omega) hq)⟩
  · rw [List.length_append, List.length_append, List.length_take, List.length_drop, List.length_append, hl2, Nat.min_eq_left (by omega)]; simp only [List.length_cons, List.length_nil]; omega
  · rw [window_drop (by rw [List.length_append, hl2]; rfl) (by omega), hwd]; exact hz
end Go.Proofs.YtkkpfdfoojcljaaGreat
