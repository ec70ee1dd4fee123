/- Walks: congruence classes: what their closures do; slices.EqualFunc over numbers. · Walk: congruence classes. -/
import Derived.Test.YtdncchlfeanlmaaJuAB
import Derived.Test.YtdncchlfeanlmaaJuMV
import Derived.Test.YtdncchlfeanlmaaOwnS
import Derived.Deep.QuietTactic
import Derived.BigQuiet
import Derived.Test.YtdncchlfeanlmaaOutP
import Derived.Deep.LoopGhost
import Derived.BigRegion
namespace Go.Proofs.Ytdncchlfeanlmaa
open Go.RowKit

/-- the function g (with what it captured) tells p of each two of xs and ys, and only draws -/
def PredOn2 (P : Program) (g : Nat) (lb : Array Value) (p : Int → Int → Bool) (xs ys : List Int) (w : World) : Prop :=
  ∀ (m : Nat) (x y : Int), x ∈ xs → y ∈ ys → Calls P g (#[.int .i64 x, .int .i64 y] ++ lb) (w.drewN m) (DrewP (.bool (p x y)) (w.drewN m))
def eqL (p : Int → Int → Bool) : List Int → List Int → Bool
  | [], [] => true
  | x :: r, y :: s => p x y && eqL p r s
  | _, _ => false
theorem eqL_len {p : Int → Int → Bool} : ∀ {r s : List Int}, ¬ r.length = s.length → eqL p r s = false
  | [], [], h => absurd rfl h
  | [], _ :: _, _ => rfl
  | _ :: _, [], _ => rfl
  | x :: r, y :: s, h => by rw [eqL, eqL_len (by simpa using h), Bool.and_false]
theorem kidsSame_eqL {cl : List Int} : ∀ {r s : List Int}, kidsSame cl r s = eqL (fun x y => decide (cl[x.toNat]? = cl[y.toNat]?)) r s
  | [], [] => rfl
  | [], _ :: _ => rfl
  | _ :: _, [] => rfl
  | x :: r, y :: s => by rw [kidsSame, eqL, kidsSame_eqL]

set_option maxRecDepth 100000 in
set_option maxHeartbeats 2000000 in
theorem equalFunc_any (g : Nat) (lb : Array Value) (eg : ∀ args w, (callFunc g args).run Try.prog w = .ok (.enter g args) w) (p : Int → Int → Bool) (A : Option Addr) (n c : Nat) (xs : List Int) (A2 : Option Addr) (n2 c2 : Nat) (ys : List Int) (w : World)
    (hxs : IntsB w w.heap.size A n xs) (hys : IntsB w w.heap.size A2 n2 ys) (hn : n ≤ 1000000) (hn2 : n2 ≤ 1000000) (hp : PredOn2 Try.prog g lb p xs ys w) :
    Calls Try.prog 62 #[.slice A n c, .slice A2 n2 c2, .func (.func g) #[] lb] w (DrewP (.bool (eqL p xs ys)) w) := by
  have HP := Lib.hid hp
  have HX := Lib.hid hxs
  have HY := Lib.hid hys
  have hlx := hxs.len
  have hly := hys.len
  clear hp hxs hys
  by_cases hne : n = n2
  · subst hne
    obtain ⟨R, hR⟩ : ∃ R, eqL p xs ys = R := ⟨_, rfl⟩
    rw [hR]
    have HR := Lib.hid hR
    have HLL := Lib.hid (And.intro hlx hly)
    clear hR hlx hly
    go_enter Try.func62, Try.ntmps62
    go_wp2_with fail
    go_loopw [17] (fun s wr => ∃ k : Nat, k ≤ n ∧ s = .int .i64 k ∧ Hid (eqL p (xs.drop k) (ys.drop k) = R) ∧ Hid (∃ m, wr = w.drewN m)) (fun s _ => n - (intOf s).toNat)
    case atStart => exact ⟨0, Nat.zero_le _, rfl, HR, 0, rfl⟩
    case round =>
      obtain ⟨k, hk, rfl, HK, HW⟩ := hrel
      obtain ⟨m, rfl⟩ := HW.out
      by_cases hlt : k < n
      · obtain ⟨b, off, hx, rfl, hb, hcell, hlo, hhi⟩ := ints_get (HX.out.drewN stays_int m) hlt
        obtain ⟨b2, off2, hy, rfl, hb2, hcell2, hlo2, hhi2⟩ := ints_get (HY.out.drewN stays_int m) hlt
        have hcall := HP.out m xs[k] ys[k] (List.getElem_mem hx) (List.getElem_mem hy)
        have e1 := HK.out
        rw [drop_cons hx, drop_cons hy, eqL] at e1
        generalize xs[k] = x at hcall e1 hlo hhi hcell
        generalize ys[k] = y at hcall e1 hlo2 hhi2 hcell2
        have hkI : (k : Int) < (n : Int) := by omega
        clear HK hx hy
        cases hq : p x y with
        | false =>
          rw [hq] at hcall e1
          rw [Bool.false_and] at e1
          subst e1
          have HC := Lib.hid hcall
          clear hcall hq
          go_wp2_with (go_at_fn g; refine HC.out.mono ?_; rintro e w' ⟨rfl, m2, rfl⟩)
          go_ret
          exact ⟨rfl, _, rfl⟩
        | true =>
          rw [hq] at hcall e1
          rw [Bool.true_and] at e1
          have HC := Lib.hid hcall
          have H2 := Lib.hid e1
          clear hcall hq e1
          go_wp2_with (go_at_fn g; refine HC.out.mono ?_; rintro e w' ⟨rfl, m2, rfl⟩)
          go_roundw
          case rel => exact ⟨k + 1, by omega, by go_num, H2, m + m2, by simp⟩
          case measure => simp [intOf]; omega
      · obtain rfl : k = n := by omega
        have e1 := HK.out
        rw [List.drop_of_length_le (by have := HLL.out.1; omega), List.drop_of_length_le (by have := HLL.out.2; omega), eqL] at e1
        subst e1
        clear HK
        go_wp2_with fail
        go_ret
        exact ⟨rfl, m, rfl⟩
  · rw [eqL_len (by omega)]
    have hneI : ¬ (n : Int) = (n2 : Int) := by omega
    have hb : (((n : Nat) : Int) != ((n2 : Nat) : Int)) = true := by simpa using hneI
    clear hlx hly hne hneI
    go_enter Try.func62, Try.ntmps62
    go_wp2_with fail
    go_ret
    exact ⟨rfl, 0, rfl⟩

/-- the row of classes in memory: the variable in block b5, the row in block g -/
structure Cls (w : World) (B b5 g n : Nat) (cl : List Int) : Prop where
  box : w.cell? ⟨b5, 0, none⟩ = some (.slice (some ⟨g, 0, none⟩) n n)
  own : OwnT w B (.slice (some ⟨g, 0, none⟩) n n) cl
  len : cl.length = n
  ne : b5 ≠ g
  lt : b5 < w.heap.size
  rng : ∀ c ∈ cl, 0 ≤ c ∧ c ≤ 1000
theorem Cls.later {w w' : World} {B b5 g n : Nat} {cl : List Int} (h : Cls w B b5 g n cl) (hb : Below w.heap.size w w') : Cls w' B b5 g n cl :=
  ⟨(hb.cell (p := ⟨b5, 0, none⟩) h.lt).trans h.box, own_later h.own (only_of_below hb none) (by simp [Value.ownBlock]), h.len, h.ne, Nat.lt_of_lt_of_le h.lt hb.size, h.rng⟩
theorem Cls.cell {w : World} {B b5 g n : Nat} {cl : List Int} (h : Cls w B b5 g n cl) {i : Nat} {y : Int} (hy : cl[i]? = some y) : w.cell? ⟨g, i, none⟩ = some (.int .i64 y) := by
  obtain ⟨u, h1, h2⟩ := OwnV.elem tells_int h.own hy
  rw [h1, (List.cons.inj h2.1).1]

set_option maxRecDepth 100000 in
set_option maxHeartbeats 2000000 in
theorem classes2_any (B b5 g n : Nat) (cl : List Int) (x y : Int) (w : World) (h : Cls w B b5 g n cl) (hx0 : 0 ≤ x) (hx1 : x < n) (hy0 : 0 ≤ y) (hy1 : y < n) :
    Calls Try.prog 63 #[.int .i64 x, .int .i64 y, .pointer (some ⟨b5, 0, none⟩)] w (DrewP (.bool (decide (cl[x.toNat]? = cl[y.toNat]?))) w) := by
  obtain ⟨i, rfl⟩ := Int.eq_ofNat_of_zero_le hx0
  obtain ⟨j, rfl⟩ := Int.eq_ofNat_of_zero_le hy0
  have hl := h.len
  have hi : i < cl.length := by omega
  have hj : j < cl.length := by omega
  have c0 := h.box
  have c1 := h.cell (List.getElem?_eq_getElem hi)
  have c2 := h.cell (List.getElem?_eq_getElem hj)
  rw [Int.toNat_natCast, Int.toNat_natCast, List.getElem?_eq_getElem hi, List.getElem?_eq_getElem hj]
  generalize cl[i] = p at c1 ⊢
  generalize cl[j] = q at c2 ⊢
  clear h hl hi hj
  go_enter Try.func63, Try.ntmps63
  go_wp2_with fail
  go_quiet (fail)
  go_wp2_with fail
  go_ret
  refine ⟨ret_bool ?_, nq, rfl⟩
  rw [Bool.eq_iff_iff]
  simp

/-- the first j are done -/
def mixL (cl : List Int) (x y : Int) (j : Nat) : List Int := (joinL cl x y).take j ++ cl.drop j
theorem mixL_len (cl : List Int) (x y : Int) {j : Nat} (hj : j ≤ cl.length) : (mixL cl x y j).length = cl.length := by simp [mixL, joinL_len]; omega
theorem mixL_get {cl : List Int} {x y : Int} {j : Nat} (hj : j < cl.length) : (mixL cl x y j)[j]? = some cl[j] := by
  unfold mixL
  rw [List.getElem?_append_right (by simp [joinL_len]; omega), List.length_take, joinL_len, Nat.min_eq_left (Nat.le_of_lt hj), Nat.sub_self, List.getElem?_drop, Nat.add_zero, List.getElem?_eq_getElem hj]
theorem mixL_next {cl : List Int} {x y : Int} {j : Nat} (hj : j < cl.length) : mixL cl x y (j + 1) = (mixL cl x y j).set j (if cl[j] = max x y then min x y else cl[j]) := by
  have hj2 : j < (joinL cl x y).length := by rw [joinL_len]; exact hj
  have h1 : (joinL cl x y)[j] = if cl[j] = max x y then min x y else cl[j] := by simp [joinL]
  unfold mixL
  rw [List.take_succ_eq_append_getElem hj2, h1, List.drop_eq_getElem_cons hj, List.set_append_right _ _ (by simp; omega)]
  simp only [List.length_take, joinL_len, Nat.min_eq_left (Nat.le_of_lt hj), Nat.sub_self, List.set_cons_zero, List.append_assoc, List.cons_append, List.nil_append]
theorem mixL_all (cl : List Int) (x y : Int) {j : Nat} (hj : cl.length ≤ j) : mixL cl x y j = joinL cl x y := by
  unfold mixL
  rw [List.take_of_length_le (by rw [joinL_len]; exact hj), List.drop_of_length_le hj, List.append_nil]
theorem mixL_mem {cl : List Int} {x y c : Int} {j : Nat} (h : c ∈ mixL cl x y j) : c ∈ cl ∨ c = min x y := by
  rcases List.mem_append.1 h with h | h
  · obtain ⟨d, hd, rfl⟩ := List.mem_map.1 (List.mem_of_mem_take h)
    split
    · exact .inr rfl
    · exact .inl hd
  · exact .inl (List.mem_of_mem_drop h)

def JoinP (B b5 g n : Nat) (cl : List Int) (x y : Int) (w : World) (e : Ending) (w' : World) : Prop := e = .returned (.bool (decide (¬ x = y))) ∧ Cls w' B b5 g n (joinL cl x y) ∧ w.grownBy w' (some g)
set_option maxRecDepth 100000 in
set_option maxHeartbeats 4000000 in
theorem join_any (B b5 g n i k : Nat) (cl : List Int) (x y : Int) (w : World) (h : Cls w B b5 g n cl) (hx : cl[i]? = some x) (hy : cl[k]? = some y) :
    Calls Try.prog 61 #[.int .i64 (i : Int), .int .i64 (k : Int), .pointer (some ⟨b5, 0, none⟩)] w (JoinP B b5 g n cl x y w) := by
  have hl := h.len
  have hi : i < cl.length := (List.getElem?_eq_some_iff.1 hx).1
  have hk : k < cl.length := (List.getElem?_eq_some_iff.1 hy).1
  have hi2 : (i : Int) < (n : Int) := by omega
  have hk2 : (k : Int) < (n : Int) := by omega
  have c0 := h.box
  have c1 := h.cell hx
  have c2 := h.cell hy
  have rx := h.rng x (List.mem_of_getElem? hx)
  have ry := h.rng y (List.mem_of_getElem? hy)
  have hmx : max x y = if x < y then y else x := by split <;> omega
  have hmn : min x y = if y < x then y else x := by split <;> omega
  have H := Lib.hid (And.intro h (And.intro hl (And.intro hmx hmn)))
  have hne := h.ne
  have hlt5 := h.lt
  have hltg := (h.own.lt g rfl).2
  have hnm : n ≤ 9223372036854775807 := by obtain ⟨_, _, he, h1, h2⟩ := h.own.len; injection he with _ _ e3; unfold maxLen at h2; omega
  clear h hl hi hk hx hy hmx hmn
  go_enter Try.func61, Try.ntmps61
  go_wp2_with fail
  go_quiet (fail)
  have H0 : Hid (OwnT (w.drewN nq) B (.slice (some ⟨g, 0, none⟩) n n) (mixL cl x y 0) ∧ w.grownBy (w.drewN nq) (some g)) :=
    ⟨own_later (by rw [show mixL cl x y 0 = cl from by simp [mixL]]; exact H.out.1.own) (only_drewN (only_refl w none) _) (by simp [Value.ownBlock]), only_drewN (only_refl _ _) _⟩
  go_wp2_with fail
  go_loopw [18] (fun s18 wr => ∃ j : Nat, j ≤ n ∧ s18 = .int .i64 (j : Int) ∧ Hid (OwnT wr B (.slice (some ⟨g, 0, none⟩) n n) (mixL cl x y j) ∧ w.grownBy wr (some g))) (fun s _ => n - (intOf s).toNat)
  case atStart => exact ⟨0, Nat.zero_le _, rfl, H0⟩
  case round =>
    clear H0
    obtain ⟨j, hj, rfl, HJ⟩ := hrel
    have d0 : wr.cell? ⟨b5, 0, none⟩ = some (.slice (some ⟨g, 0, none⟩) n n) := (only_cell HJ.out.2 hlt5 (fun e => hne (by injection e with e; exact e.symm))).trans c0
    by_cases hlt : j < n
    · have hltI : (j : Int) < (n : Int) := by omega
      have hjl : j < cl.length := by have := H.out.2.1; omega
      have hz := mixL_get (x := x) (y := y) hjl
      have hnx := mixL_next (x := x) (y := y) hjl
      have d1 : wr.cell? ⟨g, j, none⟩ = some (.int .i64 cl[j]) := by
        obtain ⟨u, h1, h2⟩ := OwnV.elem tells_int HJ.out.1 hz
        rw [h1, (List.cons.inj h2.1).1]
      have d2 : wr.frozen? ⟨g, j, none⟩ = false := HJ.out.1.unfrozen j
      have hrz := H.out.1.rng _ (List.getElem_mem hjl)
      rw [H.out.2.2.1, H.out.2.2.2] at hnx
      generalize cl[j] = z at d1 hnx hrz hz
      have HZ := Lib.hid hz
      clear hz
      have hgl : g < wr.heap.size := (HJ.out.1.lt g rfl).2
      have hlt2 : (intOf (.int .i64 (j : Int))).toNat < n := by simpa [intOf] using hlt
      by_cases hc : z = if x < y then y else x
      · rw [if_pos hc] at hnx
        have hzb : (z == if x < y then y else x) = true := by simpa using hc
        have HN := Lib.hid hnx
        clear hnx hc
        go_wp2_with fail
        go_roundw
        case rel =>
          refine ⟨j + 1, by omega, by go_num, ?_, one_only HJ.out.2 j _⟩
          rw [HN.out]
          exact OwnV.set tells_int HJ.out.1 (by rw [mixL_len _ _ _ (Nat.le_of_lt hjl)]; exact H.out.2.1.symm) ⟨rfl, by unfold I64; split <;> omega⟩ (fun b hb => False.elim hb)
        case measure => simp [intOf]; omega
      · rw [if_neg hc] at hnx
        have hzb : (z == if x < y then y else x) = false := by simpa using hc
        have HN := Lib.hid hnx
        have HD := Lib.hid d1
        clear hnx hc
        go_wp2_with fail
        go_roundw
        case rel =>
          refine ⟨j + 1, by omega, by go_num, ?_, HJ.out.2⟩
          obtain ⟨h1, h2⟩ := List.getElem?_eq_some_iff.1 HZ.out
          rw [HN.out, ← h2, List.set_getElem_self]
          exact HJ.out.1
        case measure => simp [intOf]; omega
    · have hjn : cl.length ≤ j := by have := H.out.2.1; omega
      have HM := Lib.hid (mixL_all cl x y hjn)
      have hltI : ¬ (j : Int) < (n : Int) := by omega
      go_wp2_with fail
      go_ret
      have h0 := H.out.1
      refine ⟨ret_bool ?_, ⟨d0, by have := HJ.out.1; rwa [HM.out] at this, by rw [joinL_len]; exact h0.len, h0.ne, Nat.lt_of_lt_of_le h0.lt HJ.out.2.size, fun c hc => ?_⟩, HJ.out.2⟩
      · by_cases e : x = y <;> simp [e]
      · rw [← HM.out] at hc
        rcases mixL_mem hc with hc | rfl
        · exact h0.rng c hc
        · omega
end Go.Proofs.Ytdncchlfeanlmaa
namespace Go.Proofs.Ytdncchlfeanlmaa
open Go.RowKit

def AtPair : Ent (Int × Int) := fun w S b o x => AtInt w S b o x.1 ∧ AtInt w S b (o + 1) x.2
theorem stays_pair : Stays AtPair := fun _ _ _ _ _ _ _ hS hk hb h => ⟨stays_int _ _ _ _ _ _ _ hS hk hb h.1, stays_int _ _ _ _ _ _ _ hS hk hb h.2⟩
theorem pairs_get {w : World} {B : Nat} {A : Option Addr} {n : Nat} {xs : List (Int × Int)} (h : ArrB AtPair 2 w B A n xs) {i : Nat} (hi : i < n) :
    ∃ (b off : Nat) (hx : i < xs.length), A = some ⟨b, off, none⟩ ∧ b < B ∧ w.cell? ⟨b, off + i * 2, none⟩ = some (.int .i64 xs[i].1) ∧ w.cell? ⟨b, off + i * 2 + 1, none⟩ = some (.int .i64 xs[i].2) := by
  obtain ⟨b, off, hx, e, hb, ⟨h0, _⟩, h1, _⟩ := Arr.get h hi
  exact ⟨b, off, hx, e, hb, h0, h1⟩

structure Inv (ts : List TermD) (ps : List (Int × Int)) (cl : List Int) : Prop where
  len : cl.length = ts.length
  sound : ClSound ts ps cl
theorem Inv.join {ts : List TermD} {ps : List (Int × Int)} {cl : List Int} {a b : Nat} {x y : Int} (h : Inv ts ps cl) (ha : cl[a]? = some x) (hb : cl[b]? = some y) (hab : Cong ts ps a b) : Inv ts ps (joinL cl x y) :=
  ⟨by rw [joinL_len]; exact h.len, joinL_sound h.sound ha hb hab⟩
def iniL (n j : Nat) : List Int := (List.range n).map fun i => if i < j then (i : Int) else 0
theorem iniL_len (n j : Nat) : (iniL n j).length = n := by simp [iniL]
theorem iniL_get {n j i : Nat} (h : i < n) : (iniL n j)[i]? = some (if i < j then (i : Int) else 0) := by simp [iniL, h]
theorem iniL_next {n j : Nat} (h : j < n) : (iniL n j).set j (j : Int) = iniL n (j + 1) := by
  apply List.ext_getElem?
  intro i
  rw [List.getElem?_set]
  by_cases hi : i < n
  · rw [iniL_get hi, iniL_get hi]
    by_cases e : j = i
    · subst e
      simp [iniL_len, h]
    · rw [if_neg e]
      congr 1
      by_cases h1 : i < j
      · rw [if_pos h1, if_pos (by omega)]
      · rw [if_neg h1, if_neg (by omega)]
  · rw [if_neg (by omega), List.getElem?_eq_none (by rw [iniL_len]; omega), List.getElem?_eq_none (by rw [iniL_len]; omega)]
theorem iniL_zero (n : Nat) : iniL n 0 = List.replicate n 0 := by
  apply List.ext_getElem?
  intro i
  by_cases hi : i < n
  · rw [iniL_get hi]; simp [hi]
  · rw [List.getElem?_eq_none (by rw [iniL_len]; omega), List.getElem?_eq_none (by simp; omega)]
theorem Inv.ini (ts : List TermD) (ps : List (Int × Int)) : Inv ts ps (iniL ts.length ts.length) :=
  ⟨iniL_len _ _, fun a b x ha hb => by
    have h1 : a < ts.length := by have := (List.getElem?_eq_some_iff.1 ha).1; rwa [iniL_len] at this
    have h2 : b < ts.length := by have := (List.getElem?_eq_some_iff.1 hb).1; rwa [iniL_len] at this
    rw [iniL_get h1, if_pos h1] at ha
    rw [iniL_get h2, if_pos h2] at hb
    simp only [Option.some.injEq] at ha hb
    have : a = b := by omega
    rw [this]
    exact .refl _⟩
theorem iniL_rng {n j : Nat} (hn : n ≤ 1000) : ∀ c ∈ iniL n j, 0 ≤ c ∧ c ≤ 1000 := fun c hc => by
  obtain ⟨i, hi, rfl⟩ := List.mem_map.1 hc
  have := List.mem_range.1 hi
  split <;> omega
/-- all pairs of a beginning are joined -/
def PairsIn (ps : List (Int × Int)) (cl : List Int) : Prop := ∀ (x y : Int), (x, y) ∈ ps → InCl cl x.toNat y.toNat
theorem PairsIn.join {ps : List (Int × Int)} {cl : List Int} (h : PairsIn ps cl) (x y : Int) : PairsIn ps (joinL cl x y) := fun a b hab => joinL_keeps (h a b hab)
theorem PairsIn.push {ps : List (Int × Int)} {cl : List Int} (h : PairsIn ps cl) {p q : Nat} {x y : Int} (hx : cl[p]? = some x) (hy : cl[q]? = some y) : PairsIn (ps ++ [((p : Int), (q : Int))]) (joinL cl x y) := fun a b hab => by
  rcases List.mem_append.1 hab with hab | hab
  · exact joinL_keeps (h a b hab)
  · simp only [List.mem_singleton, Prod.mk.injEq] at hab
    obtain ⟨rfl, rfl⟩ := hab
    rw [Int.toNat_natCast, Int.toNat_natCast]
    exact joinL_joins hx hy

def GoodTs (ts : List TermD) : Prop := ∀ (i : Nat) (t : TermD), ts[i]? = some t → t.kids.length ≤ 1000 ∧ ∀ k ∈ t.kids, 0 ≤ k ∧ k < i
def GoodPs (n : Nat) (ps : List (Int × Int)) : Prop := ∀ p ∈ ps, 0 ≤ p.1 ∧ p.1 < n ∧ 0 ≤ p.2 ∧ p.2 < n
def ClassesP (ts : List TermD) (ps : List (Int × Int)) (w : World) (e : Ending) (w' : World) : Prop := ∃ (g : Nat) (cl : List Int), e = .returned (.slice (some ⟨g, 0, none⟩) ts.length ts.length) ∧ OwnT w' w.heap.size (.slice (some ⟨g, 0, none⟩) ts.length ts.length) cl ∧ Classy ts ps cl ∧ Below w.heap.size w w'
/-- how the classes' loops find memory -/
structure ClsW (w wr : World) (b5 g n : Nat) (ts : List TermD) (ps : List (Int × Int)) (cl : List Int) : Prop where
  cls : Cls wr w.heap.size b5 g n cl
  bel : Below w.heap.size w wr
  inv : Inv ts ps cl
section
variable {w wr wX w' : World} {b5 g n : Nat} {ts : List TermD} {ps : List (Int × Int)} {cl : List Int}
theorem ClsW.later (h : ClsW w wr b5 g n ts ps cl) (hb : Below wr.heap.size wr wX) : ClsW w wX b5 g n ts ps cl :=
  ⟨h.cls.later hb, h.bel.trans (hb.mono h.bel.size), h.inv⟩
theorem ClsW.join {a b : Nat} {x y : Int} (h : ClsW w wX b5 g n ts ps cl) (hx : cl[a]? = some x) (hy : cl[b]? = some y) (hab : Cong ts ps a b)
    (hc : Cls w' w.heap.size b5 g n (joinL cl x y)) (hg : wX.grownBy w' (some g)) : ClsW w w' b5 g n ts ps (joinL cl x y) :=
  ⟨hc, below_then h.bel hg h.bel.size (fun z hz => by injection hz with hz; subst hz; exact (h.cls.own.lt g rfl).1), h.inv.join hx hy hab⟩
theorem Cls.set {B j : Nat} {y : Int} (h : Cls w B b5 g n cl) (hy : 0 ≤ y ∧ y ≤ 1000) : Cls (w.setCell ⟨g, j, none⟩ (.int .i64 y)) B b5 g n (cl.set j y) :=
  ⟨(only_cell (only_setCell (p := ⟨g, j, none⟩) (only_refl w (some g)) (.inl rfl) (.int .i64 y)) h.lt (fun e => h.ne (by injection e with e; exact e.symm))).trans h.box,
    OwnV.set tells_int h.own h.len.symm ⟨rfl, by unfold I64; omega⟩ (fun b hb => False.elim hb), by rw [List.length_set]; exact h.len, h.ne, by simpa [World.setCell] using h.lt, fun c hc => by
      rcases List.mem_or_eq_of_mem_set hc with h1 | rfl
      · exact h.rng c h1
      · exact hy⟩
theorem ClosedTo.step {i k : Nat} {t u : TermD} (h : ClosedTo ts cl i k) (hi : ts[i]? = some t) (hk : ts[k]? = some u) (hn : t.head = u.head → kidsSame cl t.kids u.kids = true → cl[i]? = cl[k]?) : ClosedTo ts cl i (k + 1) := fun j l t' u' hjl ht hu hh hs => by
  by_cases e : j = i ∧ l = k
  · obtain ⟨rfl, rfl⟩ := e
    rw [hi] at ht; rw [hk] at hu
    cases ht; cases hu
    exact hn hh hs
  · refine h j l t' u' ?_ ht hu hh hs
    rcases hjl with h1 | ⟨h1, h2, h3⟩
    · exact .inl h1
    · exact .inr ⟨h1, by omega, h3⟩
theorem ClosedTo.row {i : Nat} (h : ClosedTo ts cl i i) : ClosedTo ts cl (i + 1) 0 := fun j l t u hjl ht hu hh hs => by
  refine h j l t u ?_ ht hu hh hs
  rcases hjl with ⟨h1, h2⟩ | ⟨h1, h2, h3⟩ <;> omega
theorem ClosedTo.none_ : ClosedTo ts cl 0 0 := fun j l t u hjl _ _ _ _ => by rcases hjl with ⟨h1, _⟩ | ⟨h1, h2, _⟩ <;> omega
end

theorem toList_made (n : Nat) : (madeCells (Value.int .i64 0).cells (n * 1)).toList = List.replicate n (.int .i64 0) := by
  rw [show (Value.int .i64 0).cells = #[Value.int .i64 0] from rfl, Nat.mul_one, toList_madeCells_one]
theorem cels_zero (w : World) (S : Nat → Prop) : ∀ n : Nat, Cels VInt w S (List.replicate n 0) (List.replicate n (.int .i64 0))
  | 0 => rfl
  | n + 1 => ⟨[.int .i64 0], List.replicate n (.int .i64 0), rfl, ⟨rfl, by unfold I64; omega⟩, cels_zero w S n⟩

set_option maxRecDepth 100000 in
set_option maxHeartbeats 8000000 in
theorem classes_any (A : Option Addr) (c : Nat) (ts : List TermD) (A2 : Option Addr) (n2 c2 : Nat) (ps : List (Int × Int)) (w : World) (hts : ArrB AtTerm 2 w w.heap.size A ts.length ts) (hn : ts.length ≤ 1000) (hc : ts.length ≤ c) (hg : GoodTs ts)
    (hps : ArrB AtPair 2 w w.heap.size A2 n2 ps) (hn2 : n2 ≤ 1000000) (hgp : GoodPs ts.length ps) :
    Calls Try.prog 46 #[.slice A ts.length c, .slice A2 n2 c2] w (ClassesP ts ps w) := by
  have eg1 := (show ∀ args w, (callFunc 61 args).run Try.prog w = .ok (.enter 61 args) w from enters_of Try.func61 (by kernel_rfl) rfl)
  have EG2 := Lib.hid (show ∀ args w, (callFunc 63 args).run Try.prog w = .ok (.enter 63 args) w from enters_of Try.func63 (by kernel_rfl) rfl)
  obtain ⟨i0, hi0, hz0, hz1, hz2⟩ := info_parts infoInt
  have HI := Lib.hid (And.intro hi0 (And.intro hz0 (And.intro hz1 hz2)))
  have HTS := Lib.hid hts
  have HPS := Lib.hid hps
  have HG := Lib.hid (And.intro hg hgp)
  obtain ⟨n, hnn⟩ : ∃ n, ts.length = n := ⟨_, rfl⟩
  have HN := Lib.hid hnn
  have hlp := Lib.hid hps.len
  rw [hnn] at hn hc ⊢
  clear hi0 hz0 hz1 hz2 hts hps hg hgp hnn
  go_enter Try.func46, Try.ntmps46
  go_wp2_with (at_make; refine wpList_make_full _ rfl _ _ _ rfl w.heap.size 3 i0 _ 1 Try.underlying31 HI.out.1 HI.out.2.1 HI.out.2.2.1 .i64 .i64 (n : Int) (n : Int) n rfl rfl rfl rfl (by rw [HI.out.2.2.2]; omega) (by unfold maxLen; omega) (Nat.le_refl _) ?_; intro w1 hown1 hgrow1; have H1 := Lib.hid (And.intro hown1 hgrow1); have zw1 := hgrow1.size; clear hown1 hgrow1)
  have H2 : Hid (Cls (w1.alloc (.cells #[.slice (some ⟨w.heap.size, 0, none⟩) n n] 31)) w.heap.size w1.heap.size w.heap.size n (iniL n 0) ∧ Below w.heap.size w (w1.alloc (.cells #[.slice (some ⟨w.heap.size, 0, none⟩) n n] 31))) := by
    obtain ⟨hown1, hgrow1⟩ := H1.out
    have hlt := owns_ge hown1 w.heap.size rfl
    have hb1 : Below w.heap.size w w1 := below_then (Below.refl _ _) hgrow1 (Nat.le_refl _) (fun x hx => by cases hx)
    refine ⟨⟨(Blk.new w1 _ _).cell 0, ?_, iniL_len n 0, by omega, by simp, iniL_rng (by omega)⟩, hb1.alloc zw1 _⟩
    refine own_later (w := w1) ?_ (only_alloc (only_refl w1 none) _) (by simp [Value.ownBlock])
    rw [toList_made] at hown1
    exact ⟨_, by rw [iniL_len]; exact hown1, by rw [iniL_zero]; exact cels_zero _ _ n⟩
  have h5 : ¬ w1.heap.size = w.heap.size := by
    have := (owns_ge H1.out.1 w.heap.size rfl).2; omega
  have h5' : ¬ w.heap.size = w1.heap.size := fun e => h5 e.symm
  clear H1
  go_loopw [20] (fun s20 wr => ∃ j : Nat, j ≤ n ∧ s20 = .int .i64 (j : Int) ∧ Hid (Cls wr w.heap.size w1.heap.size w.heap.size n (iniL n j) ∧ Below w.heap.size w wr)) (fun s _ => n - (intOf s).toNat)
  case atStart => exact ⟨0, Nat.zero_le _, rfl, H2⟩
  case round =>
    clear H2
    obtain ⟨j, hj, rfl, HJ⟩ := hrel
    have d0 : wr.cell? ⟨w1.heap.size, 0, none⟩ = some (.slice (some ⟨w.heap.size, 0, none⟩) n n) := HJ.out.1.box
    have hgl : w.heap.size < wr.heap.size := (HJ.out.1.own.lt _ rfl).2
    have h5l : w1.heap.size < wr.heap.size := HJ.out.1.lt
    by_cases hlt : j < n
    · have hltI : (j : Int) < (n : Int) := by omega
      have d1 := HJ.out.1.cell (iniL_get (j := j) hlt)
      have d2 : wr.frozen? ⟨w.heap.size, j, none⟩ = false := HJ.out.1.own.unfrozen j
      have HX := Lib.hid (iniL_next hlt)
      rw [if_neg (Nat.lt_irrefl j)] at d1
      go_wp2_with fail
      go_roundw
      case rel => exact ⟨j + 1, by omega, by go_num, by rw [← HX.out]; exact HJ.out.1.set ⟨by omega, by omega⟩, HJ.out.2.setCell (p := ⟨w.heap.size, j, none⟩) (Nat.le_refl _) _⟩
      case measure => simp [intOf]; omega
    · obtain rfl : j = n := by omega
      have H3 : Hid (ClsW w wr w1.heap.size w.heap.size j ts ps (iniL j j) ∧ PairsIn (ps.take 0) (iniL j j)) := ⟨⟨HJ.out.1, HJ.out.2, by have := Inv.ini ts ps; rwa [HN.out] at this⟩, fun x y h => by simp at h⟩
      clear HJ d0
      go_wp2_with fail
      go_loopw [31] (fun s31 wr => ∃ (k : Nat) (cl : List Int), k ≤ n2 ∧ s31 = .int .i64 (k : Int) ∧ Hid (ClsW w wr w1.heap.size w.heap.size j ts ps cl ∧ PairsIn (ps.take k) cl)) (fun s _ => n2 - (intOf s).toNat)
      case atStart => exact ⟨0, _, Nat.zero_le _, rfl, H3⟩
      case round =>
        clear H3 hgl h5l
        obtain ⟨k, cl, hk, rfl, HK⟩ := hrel
        have hgl : w.heap.size < wr.heap.size := (HK.out.1.cls.own.lt _ rfl).2
        have h5l : w1.heap.size < wr.heap.size := HK.out.1.cls.lt
        by_cases hlt2 : k < n2
        · have hltI : (k : Int) < (n2 : Int) := by omega
          obtain ⟨b, off, hx, rfl, hb, hc1, hc2⟩ := pairs_get (HPS.out.below stays_pair HK.out.1.bel (Nat.le_refl _)) hlt2
          have hgp := HG.out.2 _ (List.getElem_mem hx)
          have hmem := List.getElem_mem hx
          have hts := take_snoc_l hx
          generalize ps[k] = pp at hc1 hc2 hgp hts hmem
          obtain ⟨p1, p2⟩ := pp
          obtain ⟨a, rfl⟩ : ∃ a : Nat, p1 = a := Int.eq_ofNat_of_zero_le hgp.1
          obtain ⟨e, rfl⟩ : ∃ e : Nat, p2 = e := Int.eq_ofNat_of_zero_le hgp.2.2.1
          have hl := HK.out.1.cls.len
          have hgp' := HG.out.2 _ hmem
          rw [HN.out] at hgp'
          simp only at hgp'
          have hal : a < cl.length := by omega
          have hel : e < cl.length := by omega
          have hb1 : Below wr.heap.size wr (wr.alloc (.cells #[.int .i64 (a : Int), .int .i64 (e : Int)] 84)) := (Below.refl _ _).alloc (Nat.le_refl _) _
          have HX := Lib.hid (HK.out.1.later hb1)
          have HJ := Lib.hid (join_any w.heap.size w1.heap.size w.heap.size j a e cl cl[a] cl[e] _ HX.out.cls (List.getElem?_eq_getElem hal) (List.getElem?_eq_getElem hel))
          have HE := Lib.hid (And.intro hmem (And.intro hts (And.intro (List.getElem?_eq_getElem hal) (List.getElem?_eq_getElem hel))))
          generalize cl[a] = x at HJ HE
          generalize cl[e] = y at HJ HE
          clear hgp hgp' hmem hts hl hal hel hb1 hx
          go_wp2_with (go_at_fn 61; refine HJ.out.mono ?_; rintro e9 w' ⟨rfl, hcls, hgr⟩; have HB := Lib.hid (And.intro hcls hgr); clear hcls hgr)
          go_roundw
          case rel =>
            obtain ⟨hmem, hts, hxa, hye⟩ := HE.out
            have hco : Cong ts ps a e := by
              have := Cong.pair (ts := ts) hmem
              rwa [Int.toNat_natCast, Int.toNat_natCast] at this
            exact ⟨k + 1, joinL cl x y, by omega, by go_num, HX.out.join hxa hye hco HB.out.1 HB.out.2, by rw [hts]; exact HK.out.2.push hxa hye⟩
          case measure => simp [intOf]; omega
        · have H4 : Hid (ClsW w wr w1.heap.size w.heap.size j ts ps cl ∧ PairsIn ps cl) := ⟨HK.out.1, by have := HK.out.2; rwa [List.take_of_length_le (by have := hlp.out; omega)] at this⟩
          clear HK
          go_wp2_with fail
          go_loopg [10] (sumC cl + 2) (fun m s10 wr => ∃ (cl : List Int) (ch : Bool), s10 = .bool ch ∧ Hid (ClsW w wr w1.heap.size w.heap.size j ts ps cl ∧ PairsIn ps cl ∧ (ch = true → sumC cl + 2 ≤ m) ∧ (ch = false → ClosedTo ts cl j 0)))
          case atStart => exact ⟨cl, true, rfl, H4.out.1, H4.out.2, fun _ => Nat.le_refl _, fun h => by cases h⟩
          case round =>
            clear H4 hgl h5l
            obtain ⟨cl, ch, rfl, HL⟩ := hrel
            have hgl : w.heap.size < wr.heap.size := (HL.out.1.cls.own.lt _ rfl).2
            have h5l : w1.heap.size < wr.heap.size := HL.out.1.cls.lt
            have d0 : wr.cell? ⟨w1.heap.size, 0, none⟩ = some (.slice (some ⟨w.heap.size, 0, none⟩) j j) := HL.out.1.cls.box
            cases ch with
            | false =>
              go_wp2_with fail
              go_ret
              have h0 := HL.out.1
              refine ⟨w.heap.size, cl, by rw [HN.out]; rfl, by rw [HN.out]; exact h0.cls.own, ⟨h0.inv.len, h0.inv.sound, HL.out.2.1, ?_⟩, h0.bel⟩
              rw [HN.out]
              exact HL.out.2.2.2 (by trivial)
            | true =>
              obtain ⟨s0, hs0⟩ : ∃ s0, sumC cl = s0 := ⟨_, rfl⟩
              have hm : s0 + 2 ≤ gk := by rw [← hs0]; exact HL.out.2.2.1 (by trivial)
              have H5 := Lib.hid (And.intro HL.out.1 (And.intro HL.out.2.1 hs0))
              clear HL d0 hs0
              go_wp2_with fail
              go_loopw [10, 45] (fun s10 s45 wr => ∃ (i : Nat) (cl : List Int) (ch : Bool), i ≤ j ∧ s10 = .bool ch ∧ s45 = .int .i64 (i : Int) ∧ Hid (ClsW w wr w1.heap.size w.heap.size j ts ps cl ∧ PairsIn ps cl ∧ (ch = true → sumC cl + 1 ≤ s0) ∧ (ch = false → ClosedTo ts cl i 0 ∧ sumC cl ≤ s0))) (fun _ s45 _ => j - (intOf s45).toNat)
              case atStart => exact ⟨0, cl, false, Nat.zero_le _, rfl, rfl, H5.out.1, H5.out.2.1, fun h => (by cases h), fun _ => ⟨ClosedTo.none_, Nat.le_of_eq H5.out.2.2⟩⟩
              case round =>
                clear H5 hgl h5l
                obtain ⟨i, cl, ch, hi, rfl, rfl, HI5⟩ := hrel
                have hgl : w.heap.size < wr.heap.size := (HI5.out.1.cls.own.lt _ rfl).2
                have h5l : w1.heap.size < wr.heap.size := HI5.out.1.cls.lt
                by_cases hlt3 : i < j
                · have hltI : (i : Int) < (j : Int) := by omega
                  obtain ⟨b, off, hx, At, nt, ct, rfl, hb, hc1, hc2, hnc, hcm2, hks, hh1, hh2⟩ := terms_get HTS.out (show i < ts.length by rw [HN.out]; exact hlt3)
                  replace hc1 := (HI5.out.1.bel.cell (p := ⟨b, off + i * 2, none⟩) hb).trans hc1
                  replace hc2 := (HI5.out.1.bel.cell (p := ⟨b, off + i * 2 + 1, none⟩) hb).trans hc2
                  have hti : ts[i]? = some ts[i] := List.getElem?_eq_getElem hx
                  have hgt := (HG.out.1 i _ hti).2
                  have hgl1 := (HG.out.1 i _ hti).1
                  generalize ts[i] = t at hc1 hc2 hks hh1 hh2 hti hgt hgl1
                  obtain ⟨th, tk⟩ := t
                  simp only at hc1 hc2 hks hh1 hh2 hgt hgl1
                  rw [hks.len] at hgl1
                  have HT := Lib.hid (And.intro hti (And.intro hgt hks))
                  have hb1 : Below wr.heap.size wr (wr.alloc (.cells #[.int .i64 th, .slice At nt ct] 39)) := (Below.refl _ _).alloc (Nat.le_refl _) _
                  have H6 : Hid (ClsW w (wr.alloc (.cells #[.int .i64 th, .slice At nt ct] 39)) w1.heap.size w.heap.size j ts ps cl ∧ PairsIn ps cl ∧ Blk (wr.alloc (.cells #[.int .i64 th, .slice At nt ct] 39)) wr.heap.size 39 #[.int .i64 th, .slice At nt ct]) := ⟨HI5.out.1.later hb1, HI5.out.2.1, Blk.new _ _ _⟩
                  have H7 := Lib.hid HI5.out.2.2
                  have hwz : w.heap.size ≤ wr.heap.size := HI5.out.1.bel.size
                  have hbw : w1.heap.size < wr.heap.size := HI5.out.1.cls.lt
                  have hbs : ¬ wr.heap.size = w.heap.size := by omega
                  obtain ⟨wo, rfl⟩ : ∃ wo : World, wo = wr := ⟨_, rfl⟩
                  clear hti hgt hks hb1 hx HI5
                  go_wp2_with fail
                  go_loopw [10, 54] (fun s10 s54 wr => ∃ (k : Nat) (cl : List Int) (ch : Bool), k ≤ i ∧ s10 = .bool ch ∧ s54 = .int .i64 (k : Int) ∧ Hid (ClsW w wr w1.heap.size w.heap.size j ts ps cl ∧ PairsIn ps cl ∧ Blk wr wo.heap.size 39 #[.int .i64 th, .slice At nt ct]) ∧ Hid ((ch = true → sumC cl + 1 ≤ s0) ∧ (ch = false → ClosedTo ts cl i k ∧ sumC cl ≤ s0))) (fun _ s54 _ => i - (intOf s54).toNat)
                  case atStart => exact ⟨0, cl, ch, Nat.zero_le _, rfl, rfl, H6, H7⟩
                  case round =>
                    clear H6 H7 hgl h5l
                    obtain ⟨k, cl, ch, hk, rfl, rfl, H6, H7⟩ := hrel
                    have hgl : w.heap.size < wr.heap.size := (H6.out.1.cls.own.lt _ rfl).2
                    have h5l : w1.heap.size < wr.heap.size := H6.out.1.cls.lt
                    have hol : wo.heap.size < wr.heap.size := H6.out.2.2.lt
                    by_cases hlt4 : k < i
                    · have hltI2 : (k : Int) < (i : Int) := by omega
                      obtain ⟨b', off', hx, Au, nu, cu, hAu, hb', hu1, hu2, hncu, hcmu, hksu, hhu1, hhu2⟩ := terms_get HTS.out (show k < ts.length by rw [HN.out]; omega)
                      replace hu1 := (H6.out.1.bel.cell (p := ⟨b', off' + k * 2, none⟩) hb').trans hu1
                      replace hu2 := (H6.out.1.bel.cell (p := ⟨b', off' + k * 2 + 1, none⟩) hb').trans hu2
                      simp only [Option.some.injEq, Addr.mk.injEq, and_true] at hAu
                      obtain ⟨rfl, rfl⟩ := hAu
                      have htk : ts[k]? = some ts[k] := List.getElem?_eq_getElem hx
                      have hgu := (HG.out.1 k _ htk).2
                      have hgl2 := (HG.out.1 k _ htk).1
                      generalize ts[k] = u at hu1 hu2 hksu hhu1 hhu2 htk hgu hgl2
                      obtain ⟨uh, uk⟩ := u
                      simp only at hu1 hu2 hksu hhu1 hhu2 hgu hgl2
                      rw [hksu.len] at hgl2
                      have hl := H6.out.1.cls.len
                      have hik : i < cl.length := by omega
                      have hkl : k < cl.length := by omega
                      have d0 : wr.cell? ⟨w1.heap.size, 0, none⟩ = some (.slice (some ⟨w.heap.size, 0, none⟩) j j) := H6.out.1.cls.box
                      have d1 := H6.out.1.cls.cell (List.getElem?_eq_getElem hik)
                      have d2 := H6.out.1.cls.cell (List.getElem?_eq_getElem hkl)
                      have d3 : wr.cell? ⟨wo.heap.size, 0, none⟩ = some (.int .i64 th) := H6.out.2.2.cell 0
                      have d4 : wr.cell? ⟨wo.heap.size, 1, none⟩ = some (.slice At nt ct) := H6.out.2.2.cell 1
                      have HX := Lib.hid (And.intro (List.getElem?_eq_getElem hik) (And.intro (List.getElem?_eq_getElem hkl) htk))
                      have hb1 : Below wr.heap.size wr (wr.alloc (.cells #[.int .i64 uh, .slice Au nu cu] 39)) := (Below.refl _ _).alloc (Nat.le_refl _) _
                      have HY : Hid (∀ m, ClsW w ((wr.alloc (.cells #[.int .i64 uh, .slice Au nu cu] 39)).drewN m) w1.heap.size w.heap.size j ts ps cl ∧ Blk ((wr.alloc (.cells #[.int .i64 uh, .slice Au nu cu] 39)).drewN m) wo.heap.size 39 #[.int .i64 th, .slice At nt ct]) := fun m =>
                        ⟨H6.out.1.later (below_drewN hb1 m), (H6.out.2.2.alloc _).drewN m⟩
                      have HEQ : Hid (∀ m, Calls Try.prog 62 #[.slice At nt ct, .slice Au nu cu, .func (.func 63) #[] #[.pointer (some ⟨w1.heap.size, 0, none⟩)]] ((wr.alloc (.cells #[.int .i64 uh, .slice Au nu cu] 39)).drewN m) (DrewP (.bool (kidsSame cl tk uk)) ((wr.alloc (.cells #[.int .i64 uh, .slice Au nu cu] 39)).drewN m))) := fun m => by
                        rw [kidsSame_eqL]
                        have hz : w.heap.size ≤ ((wr.alloc (.cells #[.int .i64 uh, .slice Au nu cu] 39)).drewN m).heap.size := by simp; omega
                        refine equalFunc_any _ _ EG2.out _ At nt ct tk Au nu cu uk _ (HT.out.2.2.below stays_int (HY.out m).1.bel hz) (hksu.below stays_int (HY.out m).1.bel hz) (by omega) (by omega) ?_
                        intro m2 p q hp hq
                        have g1 := HT.out.2.1 p hp
                        have g2 := hgu q hq
                        rw [World.drewN_drewN]
                        exact classes2_any w.heap.size w1.heap.size w.heap.size j cl p q _ (HY.out (m + m2)).1.cls g1.1 (by omega) g2.1 (by omega)
                      have hsame : kidsSame cl tk uk = true → (⟨th, tk⟩ : TermD).head = (⟨uh, uk⟩ : TermD).head → Cong ts ps i k := fun h1 h2 => by
                        obtain ⟨h3, h4⟩ := kidsSame_iff.1 h1
                        refine Cong.app HT.out.1 htk h2 h3 (fun m p q hp hq => ?_)
                        have e := h4 m p q hp hq
                        have g1 := HT.out.2.1 p (List.mem_of_getElem? hp)
                        have hpl : p.toNat < cl.length := by omega
                        exact H6.out.1.inv.sound _ _ cl[p.toNat] (List.getElem?_eq_getElem hpl) (by rw [← e]; exact List.getElem?_eq_getElem hpl)
                      have hJ := fun m => join_any w.heap.size w1.heap.size w.heap.size j i k cl cl[i] cl[k] _ (HY.out m).1.cls (List.getElem?_eq_getElem hik) (List.getElem?_eq_getElem hkl)
                      have HJ := Lib.hid hJ
                      have HS := Lib.hid hsame
                      have hrx := H6.out.1.cls.rng cl[i] (List.getElem_mem hik)
                      have hry := H6.out.1.cls.rng cl[k] (List.getElem_mem hkl)
                      have HM := Lib.hid (And.intro (List.getElem_mem hik) (List.getElem_mem hkl))
                      generalize cl[i] = x at d1 HX HJ hrx HM
                      generalize cl[k] = y at d2 HX HJ hry HM
                      clear hb1 hl hik hkl hksu hgu htk hx hJ hsame
                      by_cases hxy : x = y
                      · subst hxy
                        have hq1 : (x != x) = false := by simp
                        go_wp2_with fail
                        go_quiet ((go_at_call 62; exact Calls.quiet_of (HEQ.out _)))
                        go_wp2_with fail
                        go_roundw
                        case rel => exact ⟨k + 1, cl, ch, by omega, rfl, by go_num, ⟨(HY.out nq).1, H6.out.2.1, (HY.out nq).2⟩, H7.out.1, fun h => ⟨(H7.out.2 h).1.step HT.out.1 HX.out.2.2 (fun _ _ => by rw [HX.out.1, HX.out.2.1]), (H7.out.2 h).2⟩⟩
                        case measure => simp [intOf]; omega
                      · have hq1 : (x != y) = true := by simpa using hxy
                        by_cases hhd : th = uh
                        · subst hhd
                          have hq2 : (th == th) = true := by simp
                          cases hks2 : kidsSame cl tk uk with
                          | false =>
                            rw [hks2] at HEQ
                            have HK2 := Lib.hid hks2
                            clear hks2 hxy
                            go_wp2_with fail
                            go_quiet ((go_at_call 62; exact Calls.quiet_of (HEQ.out _)))
                            go_wp2_with fail
                            go_roundw
                            case rel => exact ⟨k + 1, cl, ch, by omega, rfl, by go_num, ⟨(HY.out nq).1, H6.out.2.1, (HY.out nq).2⟩, H7.out.1, fun h => ⟨(H7.out.2 h).1.step HT.out.1 HX.out.2.2 (fun _ h2 => by simp only [HK2.out] at h2; cases h2), (H7.out.2 h).2⟩⟩
                            case measure => simp [intOf]; omega
                          | true =>
                            rw [hks2] at HEQ
                            have HCO := Lib.hid (And.intro (HS.out hks2 rfl) hxy)
                            clear hks2
                            go_wp2_with fail
                            go_quiet ((go_at_call 62; exact Calls.quiet_of (HEQ.out _)))
                            go_wp2_with (go_at_fn 61; refine (HJ.out nq).mono ?_; rintro e9 w' ⟨rfl, hcls, hgr⟩; have HB := Lib.hid (And.intro hcls hgr); clear hcls hgr; rw [show decide (¬ x = y) = true from by simpa using hxy])
                            go_roundw
                            case rel =>
                              have h8 := (HY.out nq).1.join HX.out.1 HX.out.2.1 HCO.out.1 HB.out.1 HB.out.2
                              refine ⟨k + 1, joinL cl x y, true, by omega, rfl, by go_num, ⟨h8, H6.out.2.1.join _ _, (HY.out nq).2.grown HB.out.2 (fun e => by injection e with e; exact hbs e)⟩, fun _ => ?_, fun h => by cases h⟩
                              have hlt9 := joinL_less (cl := cl) hrx.1 hry.1 HCO.out.2 (by rcases Int.le_total x y with h9 | h9; rw [Int.max_eq_right h9]; exact HM.out.2; rw [Int.max_eq_left h9]; exact HM.out.1)
                              cases ch with
                              | true => have := H7.out.1 rfl; omega
                              | false => have := (H7.out.2 rfl).2; omega
                            case measure => simp [intOf]; omega
                        · have hq2 : (th == uh) = false := by simpa using hhd
                          have HHD := Lib.hid hhd
                          clear hhd hxy
                          go_wp2_with fail
                          go_quiet ((go_at_call 62; exact Calls.quiet_of (HEQ.out _)))
                          go_wp2_with fail
                          go_roundw
                          case rel => exact ⟨k + 1, cl, ch, by omega, rfl, by go_num, ⟨(HY.out nq).1, H6.out.2.1, (HY.out nq).2⟩, H7.out.1, fun h => ⟨(H7.out.2 h).1.step HT.out.1 HX.out.2.2 (fun h2 _ => absurd h2 HHD.out), (H7.out.2 h).2⟩⟩
                          case measure => simp [intOf]; omega
                    · obtain rfl : k = i := by omega
                      go_wp2_with fail
                      go_roundw
                      case rel => exact ⟨k + 1, cl, ch, by omega, rfl, by go_num, H6.out.1, H6.out.2.1, H7.out.1, fun h => ⟨(H7.out.2 h).1.row, (H7.out.2 h).2⟩⟩
                      case measure => simp [intOf]; omega
                · obtain rfl : i = j := by omega
                  go_wp2_with fail
                  go_roundg (gk - 1)
                  case measure => omega
                  case rel =>
                    refine ⟨cl, ch, rfl, HI5.out.1, HI5.out.2.1, fun h => by have := HI5.out.2.2.1 h; omega, fun h => (HI5.out.2.2.2 h).1⟩
end Go.Proofs.Ytdncchlfeanlmaa
