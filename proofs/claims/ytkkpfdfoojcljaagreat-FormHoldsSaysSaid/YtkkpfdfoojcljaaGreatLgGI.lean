/- Walks: package long's small things: Sign, Neg, Abs. · Rows of digits (uint32) in memory: those that came in, those of the call's own. · Walks: package long: trim, limbs, made. -/
import Derived.Test.YtkkpfdfoojcljaaGreatProg
import Derived.Test.YtkkpfdfoojcljaaGreatLgAV
import Derived.Test.YtkkpfdfoojcljaaGreatOuOC
import Derived.Deep.OwnRows
import Derived.Lib.EndianBits
namespace Go.Proofs.YtkkpfdfoojcljaaGreat
open Go.RowKit

/-- a number as package long has it -/
def Lng (z : Int) : Value := .agg #[.bool (decide (z < 0)), .string (sizeB (digN z.natAbs))]
theorem digN_nil_iff (n : Nat) : digN n = [] ↔ n = 0 := by
  constructor
  · intro h
    have := val_digN n
    rw [h] at this
    exact this.symm
  · rintro rfl; exact digN_zero
theorem size_empty (n : Nat) : (sizeB (digN n)).toList.isEmpty = decide (n = 0) := by
  rw [ByteArray.toList_eq, Bool.eq_iff_iff, List.isEmpty_iff, decide_eq_true_iff, ← digN_nil_iff]
  show bytesL (digN n) = [] ↔ _
  rw [← List.length_eq_zero_iff, bytes_len, ← List.length_eq_zero_iff]
  omega

set_option maxHeartbeats 400000 in
theorem lngSign_any (z : Int) (w : World) :
    Calls Tryz.prog 86 #[Lng z] w fun e w' => e = .returned (.int .i64 z.sign) ∧ Below w.heap.size w w' := by
  have h0 := size_empty z.natAbs
  unfold Lng
  generalize sizeB (digN z.natAbs) = s at h0
  rcases Int.lt_trichotomy z 0 with h | rfl | h
  · rw [decide_eq_false (by omega)] at h0
    rw [decide_eq_true h, Int.sign_eq_neg_one_of_neg h]
    clear h
    go_enter Tryz.func86, Tryz.ntmps86
    go_wp2_with fail
    go_ret
    exact ⟨rfl, (Below.refl _ _).alloc (Nat.le_refl _) _⟩
  · rw [decide_eq_true (by rfl)] at h0
    go_enter Tryz.func86, Tryz.ntmps86
    go_wp2_with fail
    go_ret
    exact ⟨rfl, (Below.refl _ _).alloc (Nat.le_refl _) _⟩
  · rw [decide_eq_false (by omega)] at h0
    rw [decide_eq_false (by omega), Int.sign_eq_one_of_pos h]
    clear h
    go_enter Tryz.func86, Tryz.ntmps86
    go_wp2_with fail
    go_ret
    exact ⟨rfl, (Below.refl _ _).alloc (Nat.le_refl _) _⟩

set_option maxHeartbeats 400000 in
theorem lngNeg_any (z : Int) (w : World) :
    Calls Tryz.prog 96 #[Lng z] w fun e w' => e = .returned (Lng (-z)) ∧ Below w.heap.size w w' := by
  have h0 := size_empty z.natAbs
  unfold Lng
  rw [Int.natAbs_neg]
  generalize sizeB (digN z.natAbs) = s at h0
  rcases Int.lt_trichotomy z 0 with h | rfl | h
  · rw [decide_eq_false (by omega)] at h0
    rw [decide_eq_true h, decide_eq_false (show ¬ -z < 0 by omega)]
    clear h
    go_enter Tryz.func96, Tryz.ntmps96
    go_wp2_with fail
    refine bodyPost_ret (v := .agg #[.bool false, .string s]) (by simp [results, Tryz.results96, go_sem]) rfl ⟨rfl, ?_⟩
    exact ((Below.refl _ _).alloc (Nat.le_refl _) _).alloc (by simp) _
  · rw [decide_eq_true (by rfl)] at h0
    go_enter Tryz.func96, Tryz.ntmps96
    go_wp2_with fail
    refine bodyPost_ret (v := .agg #[.bool false, .string s]) (by simp [results, Tryz.results96, go_sem]) rfl ⟨rfl, ?_⟩
    exact ((Below.refl _ _).alloc (Nat.le_refl _) _).alloc (by simp) _
  · rw [decide_eq_false (by omega)] at h0
    rw [decide_eq_false (show ¬ z < 0 by omega), decide_eq_true (show -z < 0 by omega)]
    clear h
    go_enter Tryz.func96, Tryz.ntmps96
    go_wp2_with fail
    refine bodyPost_ret (v := .agg #[.bool true, .string s]) (by simp [results, Tryz.results96, go_sem]) rfl ⟨rfl, ?_⟩
    exact ((Below.refl _ _).alloc (Nat.le_refl _) _).alloc (by simp) _

set_option maxHeartbeats 400000 in
theorem lngAbs_any (z : Int) (w : World) :
    Calls Tryz.prog 108 #[Lng z] w fun e w' => e = .returned (Lng (z.natAbs : Int)) ∧ Below w.heap.size w w' := by
  unfold Lng
  rw [Int.natAbs_natCast, decide_eq_false (show ¬ ((z.natAbs : Int) < 0) by omega)]
  generalize sizeB (digN z.natAbs) = s
  generalize decide (z < 0) = b
  go_enter Tryz.func108, Tryz.ntmps108
  go_wp2_with fail
  refine bodyPost_ret (v := .agg #[.bool false, .string s]) (by simp [results, Tryz.results108, go_sem]) rfl ⟨rfl, ?_⟩
  exact ((Below.refl _ _).alloc (Nat.le_refl _) _).alloc (by simp) _
end Go.Proofs.YtkkpfdfoojcljaaGreat
namespace Go.Proofs.YtkkpfdfoojcljaaGreat
open Go.RowKit

def AtU : Ent Nat := fun w _ b o x => w.cell? ⟨b, o, none⟩ = some (.int .u32 (x : Int)) ∧ x < 4294967296
theorem stays_u : Stays AtU := fun _ _ _ _ _ _ _ _ hk hb h => ⟨(hk _ _ hb).trans h.1, h.2⟩
def VU : Val Nat := fun _ _ cs x => cs = [.int .u32 (x : Int)] ∧ x < 4294967296
theorem tells_u : Tells VU 1 := ⟨fun _ _ _ _ _ _ _ _ h => h, fun _ _ _ _ h => by rw [h.1]; rfl, fun _ _ _ _ h u hu => by rw [h.1] at hu; simp only [List.mem_singleton] at hu; rw [hu]; rfl⟩
theorem atV_u : ∀ (w : World) (S : Nat → Prop) (b o : Nat) (x : Nat), AtV VU w S b o x → AtU w S b o x := fun w S b o x ⟨cs, ⟨h0, hI⟩, hc⟩ => ⟨by rw [h0] at hc; exact hc 0 _ rfl, hI⟩
/-- the slice at A of n digits reads as l, in blocks below B -/
abbrev DigsB (w : World) (B : Nat) (A : Option Addr) (n : Nat) (l : List Nat) : Prop := ArrB AtU 1 w B A n l
theorem digs_get {w : World} {B : Nat} {A : Option Addr} {n : Nat} {xs : List Nat} (h : DigsB w B A n xs) {i : Nat} (hi : i < n) :
    ∃ (b off x : Nat), xs[i]? = some x ∧ A = some ⟨b, off, none⟩ ∧ b < B ∧ w.cell? ⟨b, off + i, none⟩ = some (.int .u32 (x : Int)) ∧ x < 4294967296 := by
  obtain ⟨b, off, hx, e, hb, hc, h1⟩ := Arr.get h hi
  rw [Nat.mul_one] at hc
  exact ⟨b, off, xs[i], List.getElem?_eq_getElem hx, e, hb, hc, h1⟩
theorem DigsB.digs {w : World} {B : Nat} {A : Option Addr} {n : Nat} {xs : List Nat} (h : DigsB w B A n xs) : Digs xs := fun x hx => by
  obtain ⟨i, hi, rfl⟩ := List.mem_iff_getElem.1 hx
  obtain ⟨b, off, y, e, -, -, -, hy⟩ := digs_get h (i := i) (by rw [← h.len]; exact hi)
  rw [List.getElem?_eq_getElem hi] at e
  injection e with e
  rw [e]; exact hy
theorem DigsB.some_ {w : World} {B : Nat} {A : Option Addr} {n : Nat} {xs : List Nat} (h : DigsB w B A n xs) (hn : 0 < n) : ∃ b off, A = some ⟨b, off, none⟩ := by
  obtain ⟨b, off, x, -, e, -⟩ := digs_get h hn
  exact ⟨b, off, e⟩
theorem infoU : (Tryz.prog.info? 110).map (fun i => (i.zero, i.size, i.bytes)) = some (some (.int .u32 0), 1, 4) := by kernel_rfl
theorem rowU : RowT Tryz.prog 70 110 1 4 := rowT_of Tryz.underlying70 infoU rfl (by omega)
/-- a row of digits of the call's own -/
abbrev OwnU (w : World) (B : Nat) (v : Value) (l : List Nat) : Prop := OwnV VU 110 1 w B (fun _ => False) v l
theorem OwnU.cell {w : World} {B g n c : Nat} {l : List Nat} (h : OwnU w B (.slice (some ⟨g, 0, none⟩) n c) l) {i y : Nat} (hy : l[i]? = some y) : w.cell? ⟨g, i, none⟩ = some (.int .u32 (y : Int)) := by
  obtain ⟨u, h1, h2⟩ := OwnV.elem tells_u h hy
  rw [h1, (List.cons.inj h2.1).1]
theorem OwnU.digs {w : World} {B : Nat} {v : Value} {l : List Nat} (h : OwnU w B v l) : Digs l := by
  obtain ⟨A, c, rfl, -, -, h3⟩ := h.reads tells_u atV_u (S' := fun _ => True) (fun _ _ => trivial) (fun _ _ => trivial)
  intro x hx
  obtain ⟨i, hi, rfl⟩ := List.mem_iff_getElem.1 hx
  obtain ⟨b, off, -, -, -, hc⟩ := h3.at_ i _ (List.getElem?_eq_getElem hi)
  exact hc
theorem OwnU.later {w w' : World} {B : Nat} {v : Value} {l : List Nat} (h : OwnU w B v l) (hb : w.grownBy w' none) : OwnU w' B v l := h.kept tells_u hb (by cases v.ownBlock <;> simp) (fun _ hb => False.elim hb)
theorem OwnU.past {w w' : World} {B B' : Nat} {v : Value} {l : List Nat} (h : OwnU w B v l) (hb : Below B' w w') (hB : w.heap.size ≤ B') : OwnU w' B v l := h.later (only_of_below (hb.mono hB) none)
theorem OwnU.put {w : World} {B g n c : Nat} {l : List Nat} (h : OwnU w B (.slice (some ⟨g, 0, none⟩) n c) l) (hn : n = l.length) (i : Nat) {x : Nat} (hx : x < 4294967296) : OwnU (w.setCell ⟨g, i, none⟩ (.int .u32 (x : Int))) B (.slice (some ⟨g, 0, none⟩) n c) (l.set i x) :=
  h.set tells_u hn ⟨rfl, hx⟩ (fun _ hb => False.elim hb)
theorem OwnU.drew {w : World} {B : Nat} {v : Value} {l : List Nat} (h : OwnU w B v l) : OwnU w.drew B v l := by
  obtain ⟨cells, h1, h2⟩ := h
  exact ⟨cells, h1, Cels.keep (w := w) (w' := w.drew) tells_u (fun _ hb => hb) (fun _ _ _ => rfl) _ _ h2⟩
/-- one that was handed back reads as a list -/
theorem OwnU.reads {w : World} {B : Nat} {v : Value} {l : List Nat} (h : OwnU w B v l) : ∃ A c, v = .slice A l.length c ∧ l.length ≤ c ∧ c ≤ maxLen ∧ DigsB w w.heap.size A l.length l :=
  OwnV.reads tells_u atV_u h (fun _ hb => False.elim hb) (fun g hg => (h.lt g hg).2)
/-- a new row of noughts -/
def zc (c : Nat) : Array Value := madeCells #[.int .u32 0] c
theorem make_u (l c : Nat) (kl kc : IntKind) (hl : l ≤ c) (hc : c ≤ 1000000) (W : World) : (Instr.makeSlice 70 (.int kl (l : Int)) (.int kc (c : Int))).run Tryz.prog W = .ok (.slice (some ⟨W.heap.size, 0, none⟩) l c) (W.alloc (.cells (zc c) 110)) := by
  obtain ⟨i0, hi, hz0, hz1, hz2⟩ := info_parts infoU
  have h := run_make (P := Tryz.prog) W 70 110 i0 (.int .u32 0) Tryz.underlying70 hi hz0 kl kc l c (by omega) (by omega) (by rw [hz2]; omega) (by omega)
  rw [hz1, Int.toNat_natCast, Int.toNat_natCast, Nat.mul_one] at h
  exact h
theorem make_u0 (c : Nat) (kl kc : IntKind) (hc : c ≤ 1000000) (W : World) : (Instr.makeSlice 70 (.int kl 0) (.int kc (c : Int))).run Tryz.prog W = .ok (.slice (some ⟨W.heap.size, 0, none⟩) 0 c) (W.alloc (.cells (zc c) 110)) :=
  make_u 0 c kl kc (Nat.zero_le _) hc W
theorem cels_zero (w : World) (S : Nat → Prop) : ∀ n, Cels VU w S (List.replicate n 0) (List.replicate n (.int .u32 0))
  | 0 => rfl
  | n + 1 => ⟨[.int .u32 0], List.replicate n (.int .u32 0), rfl, ⟨rfl, by decide⟩, cels_zero w S n⟩
theorem own_made (W : World) {B l c : Nat} (hB : B ≤ W.heap.size) (hl : l ≤ c) (hc : c ≤ 1000000) : OwnU (W.alloc (.cells (zc c) 110)) B (.slice (some ⟨W.heap.size, 0, none⟩) l c) (List.replicate l 0) := by
  refine ⟨List.replicate l (.int .u32 0), ⟨by simp, .inr ⟨W.heap.size, c, zc c, by rw [List.length_replicate], hB, heap_alloc_new W _, by simpa using hl, by unfold maxLen; omega, by simp [zc, size_madeCells], ?_⟩⟩, cels_zero _ _ _⟩
  unfold zc
  rw [toList_madeCells_one, List.length_replicate, Nat.mul_one, List.take_replicate, Nat.min_eq_left hl]
/-- what a call that makes a row of digits hands back -/
def RowP (l : List Nat) (w : World) (e : Ending) (w' : World) : Prop := ∃ v, e = .returned v ∧ OwnU w' w.heap.size v l ∧ Below w.heap.size w w'
end Go.Proofs.YtkkpfdfoojcljaaGreat
namespace Go.Proofs.YtkkpfdfoojcljaaGreat
open Go.RowKit

def slLen : Value → Nat
  | .slice _ n _ => n
  | _ => 0
theorem trim_at {l : List Nat} (hd : Digs l) {k : Nat} (hk : k ≤ l.length) (hz : ∀ x ∈ l.drop k, x = 0) (hl : k = 0 ∨ ∃ x, l[k - 1]? = some x ∧ ¬ x = 0) : k = (digN (valL l)).length ∧ l.take (digN (valL l)).length = digN (valL l) := by
  have h := canon_take hd hk hz hl
  have h2 : k = (digN (valL l)).length := by rw [← h, List.length_take, Nat.min_eq_left hk]
  exact ⟨h2, by rw [← h2]; exact h⟩
def TrimP (A : Option Addr) (c : Nat) (l : List Nat) (w : World) (e : Ending) (w' : World) : Prop := e = .returned (.slice A (digN (valL l)).length c) ∧ w = w' ∧ (digN (valL l)).length ≤ l.length ∧ l.take (digN (valL l)).length = digN (valL l)
theorem TrimP.of {A : Option Addr} {c : Nat} {l : List Nat} {w : World} (hd : Digs l) {k : Nat} (hk : k ≤ l.length) (hz : ∀ x ∈ l.drop k, x = 0) (hl : k = 0 ∨ ∃ x, l[k - 1]? = some x ∧ ¬ x = 0) : TrimP A c l w (.returned (.slice A k c)) w := by
  obtain ⟨h1, h2⟩ := trim_at hd hk hz hl
  exact ⟨by rw [← h1], rfl, by rw [← h1]; exact hk, h2⟩
set_option maxHeartbeats 1000000 in
theorem trim_any (A : Option Addr) (n c : Nat) (l : List Nat) (w : World) (B : Nat) (h : DigsB w B A n l) (hn : n ≤ c) (hc : c ≤ maxLen) :
    Calls Tryz.prog 103 #[.slice A n c] w (TrimP A c l w) := by
  have HL := Lib.hid (And.intro h h.digs)
  have hl := h.len
  subst hl
  unfold maxLen at hc
  clear h
  go_enter Tryz.func103, Tryz.ntmps103
  go_wp2_with fail
  go_loopw [0] (fun s0 wr => ∃ (k : Nat), s0 = .slice A k c ∧ k ≤ l.length ∧ w = wr ∧ Hid (∀ x ∈ l.drop k, x = 0)) (fun s0 _ => slLen s0)
  case atStart => exact ⟨l.length, rfl, Nat.le_refl _, rfl, by intro x hx; simp at hx⟩
  case round =>
    obtain ⟨k, rfl, hk, rfl, HZ⟩ := hrel
    rcases k with _ | k
    · go_wp2_with fail
      go_ret
      exact TrimP.of HL.out.2 (Nat.zero_le _) HZ.out (.inl rfl)
    · obtain ⟨b, off, x, hx, rfl, hb, hcell, hx32⟩ := digs_get HL.out.1 (i := k) (by omega)
      by_cases hx0 : x = 0
      · subst hx0
        go_wp2_with fail
        go_roundw
        case rel => exact ⟨k, rfl, by omega, trivial, by
          intro x hx'
          rw [drop_cons (by omega : k < l.length)] at hx'
          rcases List.mem_cons.1 hx' with rfl | h
          · rw [List.getElem?_eq_getElem (by omega)] at hx
            injection hx
          · exact HZ.out x h⟩
        case measure => exact Nat.lt_succ_self _
      · go_wp2_with fail
        go_ret
        exact TrimP.of HL.out.2 hk HZ.out (.inr ⟨x, hx, hx0⟩)

/-- the string s holds the digits l, four bytes each -/
structure SizeS (s : ByteArray) (l : List Nat) : Prop where
  size : s.size = 4 * l.length
  digs : Digs l
  at_ : ∀ (i x : Nat), l[i]? = some x → ∀ (k : Nat), k < 4 → ∀ (hj : 4 * i + k < s.size), (s[4 * i + k]'hj).toNat = x / 256 ^ k % 256
theorem lng_open (z : Int) : ∃ s l, Lng z = .agg #[.bool (decide (z < 0)), .string s] ∧ digN z.natAbs = l ∧ SizeS s l :=
  ⟨_, _, rfl, rfl, size_len _, (canon_digN z.natAbs).1, fun _ _ h _ hk hj => size_at h hk hj⟩
theorem or_four {b0 b1 b2 b3 x : Nat} (h0 : b0 < 256) (h1 : b1 < 256) (h2 : b2 < 256) (h3 : b3 < 256) (h : b0 + 256 * b1 + 65536 * b2 + 16777216 * b3 = x) :
    bits .or .u32 (bits .or .u32 (bits .or .u32 (b0 : Int) ((b1 : Int) * 256)) ((b2 : Int) * 65536)) ((b3 : Int) * 16777216) = (x : Int) := by
  rw [u32_or8 (b0 : Int) ((b1 : Int) * 256) (by omega) (by omega) (by omega) (by omega) (by omega), u32_or16 ((b0 : Int) + (b1 : Int) * 256) ((b2 : Int) * 65536) (by omega) (by omega) (by omega) (by omega) (by omega),
    u32_or24 ((b0 : Int) + (b1 : Int) * 256 + (b2 : Int) * 65536) ((b3 : Int) * 16777216) (by omega) (by omega) (by omega) (by omega) (by omega)]
  omega
theorem cell_far {w : World} {p q : Addr} {u : Value} (h : p.block ≠ q.block) : (w.setCell p u).drew.cell? q = w.cell? q := World.cell?_of_block (w := w) (Below.heap_setCell w p u q.block (Ne.symm h))
theorem ext_index (s : ByteArray) (lo hi k : Nat) (h1 : hi ≤ s.size) (h2 : lo + k < hi) (W : World) : (Instr.index 9 (.string (s.extract lo hi)) (.int .i64 (k : Int))).run Tryz.prog W = .ok (.int .u8 (((s[lo + k]'(by omega)).toNat : Nat) : Int)) W := by
  rw [run_index_string W 9 _ .i64 _ Tryz.underlying9, dif_pos ⟨by omega, by rw [ByteArray.size_extract]; omega⟩]
  simp only [Int.toNat_natCast, ByteArray.getElem_extract]
/-- the four bytes of a digit -/
theorem SizeS.four {s : ByteArray} {l : List Nat} (h : SizeS s l) {i n x : Nat} (hn : l.length = n) (hx : l[i]? = some x) : ∃ b0 b1 b2 b3 : Nat, b0 < 256 ∧ b1 < 256 ∧ b2 < 256 ∧ b3 < 256 ∧ b0 + 256 * b1 + 65536 * b2 + 16777216 * b3 = x ∧
    (∀ W, (Instr.index 9 (.string (s.extract (4 * i) (4 * n))) (.int .i64 0)).run Tryz.prog W = .ok (.int .u8 (b0 : Int)) W) ∧ (∀ W, (Instr.index 9 (.string (s.extract (4 * i) (4 * n))) (.int .i64 1)).run Tryz.prog W = .ok (.int .u8 (b1 : Int)) W) ∧
    (∀ W, (Instr.index 9 (.string (s.extract (4 * i) (4 * n))) (.int .i64 2)).run Tryz.prog W = .ok (.int .u8 (b2 : Int)) W) ∧ (∀ W, (Instr.index 9 (.string (s.extract (4 * i) (4 * n))) (.int .i64 3)).run Tryz.prog W = .ok (.int .u8 (b3 : Int)) W) := by
  have hi : i < l.length := (List.getElem?_eq_some_iff.1 hx).1
  have hs := h.size
  have hx32 := dig_at h.digs hx
  have key : ∀ k : Nat, k < 4 → ∀ W, (Instr.index 9 (.string (s.extract (4 * i) (4 * n))) (.int .i64 (k : Int))).run Tryz.prog W = .ok (.int .u8 ((x / 256 ^ k % 256 : Nat) : Int)) W := fun k hk W => by
    rw [ext_index s (4 * i) (4 * n) k (by omega) (by omega) W, h.at_ i x hx k hk (by omega)]
  refine ⟨x / 256 ^ 0 % 256, x / 256 ^ 1 % 256, x / 256 ^ 2 % 256, x / 256 ^ 3 % 256, Nat.mod_lt _ (by decide), Nat.mod_lt _ (by decide), Nat.mod_lt _ (by decide), Nat.mod_lt _ (by decide), ?_, key 0 (by decide), key 1 (by decide), key 2 (by decide), key 3 (by decide)⟩
  simp only [Nat.reducePow]
  omega
set_option maxRecDepth 100000 in
set_option maxHeartbeats 1000000 in
theorem limbs_any (z : Int) (w : World) (hz : (digN z.natAbs).length ≤ 100000) :
    Calls Tryz.prog 88 #[Lng z] w (RowP (digN z.natAbs) w) := by
  obtain ⟨s, l, hL, hl, hS⟩ := lng_open z
  rw [hL]
  rw [hl] at hz ⊢
  clear hL hl
  generalize decide (z < 0) = ng
  obtain ⟨n, hn⟩ : ∃ n, l.length = n := ⟨_, rfl⟩
  have hsz := hS.size
  rw [hn] at hsz hz
  have HS := Lib.hid (And.intro hS hn)
  clear hS hn
  have hdv : ((s.size : Nat) : Int) / 4 = (n : Int) := by omega
  have hdw : wrap64 ((s.size : Nat) / 4 : Int) = (n : Int) := by rw [hdv]; exact IntWalk.wrap64_in _ ⟨by omega, by omega⟩
  have hmk := make_u n n .i64 .i64 (Nat.le_refl _) (by omega)
  go_enter Tryz.func88, Tryz.ntmps88
  go_wp2_with fail
  have hb0 : Below w.heap.size w ((w.alloc (.cells #[.bool ng, .string s] 86)).alloc (.cells (zc n) 110)) := ((Below.refl _ _).alloc (Nat.le_refl _) _).alloc (by simp) _
  have ho0 : OwnU ((w.alloc (.cells #[.bool ng, .string s] 86)).alloc (.cells (zc n) 110)) w.heap.size (.slice (some ⟨w.heap.size + 1, 0, none⟩) n n) (List.replicate n 0) := by
    have := own_made (w.alloc (.cells #[.bool ng, .string s] 86)) (B := w.heap.size) (l := n) (c := n) (by simp) (Nat.le_refl _) (by omega)
    simpa using this
  have hc0 : ((w.alloc (.cells #[.bool ng, .string s] 86)).alloc (.cells (zc n) 110)).cell? ⟨w.heap.size, 1, none⟩ = some (.string s) := ((Blk.new w _ _).alloc _).cell 1
  have H0 := Lib.hid (And.intro hb0 (And.intro ho0 hc0))
  clear hb0 ho0 hc0
  go_loopw [13] (fun s13 wr => ∃ (i : Nat) (d : List Nat), s13 = .int .i64 (i : Int) ∧ i ≤ n ∧ wr.cell? ⟨w.heap.size, 1, none⟩ = some (.string s) ∧ Hid (d.length = n ∧ d.take i = l.take i ∧ OwnU wr w.heap.size (.slice (some ⟨w.heap.size + 1, 0, none⟩) n n) d ∧ Below w.heap.size w wr)) (fun s13 _ => n - (intOf s13).toNat)
  case atStart => exact ⟨0, _, rfl, by omega, H0.out.2.2, by simp, by simp, H0.out.2.1, H0.out.1⟩
  case round =>
    clear H0
    obtain ⟨i, d, rfl, hi, hcs, HD⟩ := hrel
    by_cases hil : i < n
    · have hilI : (i : Int) < (n : Int) := by omega
      obtain ⟨x, hx⟩ : ∃ x, l[i]? = some x := ⟨_, List.getElem?_eq_getElem (by have := HS.out.2; omega)⟩
      have hx32 := dig_at HS.out.1.digs hx
      obtain ⟨y, hy⟩ : ∃ y, d[i]? = some y := ⟨_, List.getElem?_eq_getElem (by have := HD.out.1; omega)⟩
      have hcell := HD.out.2.2.1.cell hy
      have hfr := HD.out.2.2.1.unfrozen i
      go_wp2_with fail
      obtain ⟨b0, b1, b2, b3, hb0, hb1, hb2, hb3, hbx, hi0, hi1, hi2, hi3⟩ := HS.out.1.four HS.out.2 hx
      have HX := Lib.hid (And.intro hx hbx)
      clear hx hbx hx32
      go_region
      have hor := or_four hb0 hb1 hb2 hb3 HX.out.2
      rw [hor]
      clear hi0 hi1 hi2 hi3 hor
      go_wp2_with fail
      go_roundw
      case rel =>
        have hx32 := dig_at HS.out.1.digs HX.out.1
        refine ⟨i + 1, d.set i x, by go_num, by omega, ?_, by rw [List.length_set]; exact HD.out.1, ?_, OwnU.drew (HD.out.2.2.1.put HD.out.1.symm i hx32), (HD.out.2.2.2.setCell (by simp) _).drew⟩
        · exact (cell_far (by simp)).trans hcs
        · rw [take_set_succ (by have := HD.out.1; omega), HD.out.2.1, List.take_add_one, HX.out.1]; rfl
      case measure => simp [intOf]; omega
    · obtain rfl : i = n := by omega
      have he : d = l := by
        have h1 := HD.out.2.1
        rwa [List.take_of_length_le (by rw [HD.out.1]; exact Nat.le_refl _), List.take_of_length_le (by rw [HS.out.2]; exact Nat.le_refl _)] at h1
      rw [he] at HD
      clear he
      go_wp2_with fail
      go_ret
      exact ⟨_, rfl, HD.out.2.2⟩
end Go.Proofs.YtkkpfdfoojcljaaGreat
