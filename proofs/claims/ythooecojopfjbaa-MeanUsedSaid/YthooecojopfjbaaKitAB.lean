/- Walks: the maker's small functions: a number picked, a number of a list, a whole number, the declarations. · Rows of declarations, nodes and meanings that a call makes; the declarations of all asks that are made. -/
import Derived.Test.YthooecojopfjbaaFuncs
import Derived.Test.YthooecojopfjbaaAskAB
import Derived.Test.YthooecojopfjbaaCore
import Derived.Test.YthooecojopfjbaaAskLM
import Derived.Test.YthooecojopfjbaaFracE
namespace Go.Proofs.Ythooecojopfjbaa
open Go.RowKit

set_option maxHeartbeats 400000 in
theorem picked_any (a n R : Int) (w : World) (ha : I64 a) (h1 : 1 ≤ n) (h2 : n ≤ 1000000) (hR : a % n = R) : Calls Try.prog 13 #[.int .i64 a, .int .i64 n] w fun e w' => e = .returned (.int .i64 R) ∧ w = w' := by
  obtain ⟨h3, h4⟩ := ha
  have hn0 : (n == 0) = false := by rw [beq_eq_false_iff_ne]; omega
  have hn1 : (n == -1) = false := by rw [beq_eq_false_iff_ne]; omega
  by_cases h0 : 0 ≤ a
  · have hge := Int.emod_nonneg a (show n ≠ 0 by omega)
    have hlt := Int.emod_lt_of_pos a (show 0 < n by omega)
    have HR := Lib.hid hR
    have hng : ¬ a % n < 0 := by omega
    clear hR
    go_enter Try.func13, Try.ntmps13
    go_wp2_with fail
    go_ret
    exact ⟨ret_int HR.out, rfl⟩
  · have e : a.tmod n = -((-a) % n) := by rw [← Int.tmod_eq_emod_of_nonneg (show 0 ≤ -a by omega), Int.neg_tmod, Int.neg_neg]
    have hge := Int.emod_nonneg (-a) (show n ≠ 0 by omega)
    have hlt := Int.emod_lt_of_pos (-a) (show 0 < n by omega)
    obtain ⟨T, hT⟩ : ∃ T, a.tmod n = T := ⟨_, rfl⟩
    have hT1 : -n < T := by omega
    have hT2 : T ≤ 0 := by omega
    have hmod : (if T < 0 then T + n else T) = R := by
      rw [← hR]
      have h5 := Int.emod_emod_of_dvd a (Int.dvd_refl n)
      have h6 : a % n = T % n := by rw [← hT, Int.tmod_def, Int.sub_mul_emod_self_left]
      rw [h6]
      split
      · rw [← Int.add_emod_right, Int.emod_eq_of_lt (by omega) (by omega)]
      · rw [show T = 0 from by omega]; simp
    clear e hge hlt hR
    by_cases hT0 : T < 0
    · rw [if_pos hT0] at hmod
      have HR := Lib.hid hmod
      clear hmod
      go_enter Try.func13, Try.ntmps13
      go_wp2_with fail
      go_ret
      exact ⟨ret_int HR.out, rfl⟩
    · rw [if_neg hT0] at hmod
      have HR := Lib.hid hmod
      clear hmod
      go_enter Try.func13, Try.ntmps13
      go_wp2_with fail
      go_ret
      exact ⟨ret_int HR.out, rfl⟩

set_option maxHeartbeats 400000 in
theorem at_any (A : Option Addr) (n c : Nat) (xs : List Int) (k : Nat) (S : Nat → Prop) (w : World) (hxs : Arr AtInt 1 w S A n xs) (_hn : n ≤ 9223372036854775807) :
    Calls Try.prog 26 #[.slice A n c, .int .i64 k] w fun e w' => e = .returned (.int .i64 (xs.getD k 0)) ∧ w = w' := by
  by_cases hlt : k < n
  · obtain ⟨b, off, hx, rfl, hb, hc⟩ := hxs.get hlt
    have e : xs.getD k 0 = xs[k] := by rw [List.getD_eq_getElem?_getD, List.getElem?_eq_getElem hx]; rfl
    rw [e]
    obtain ⟨hc, -⟩ := hc
    rw [Nat.mul_one] at hc
    generalize xs[k] = y at hc
    have hkI : (k : Int) < (n : Int) := by omega
    clear hxs hx e hb
    go_enter Try.func26, Try.ntmps26
    go_wp2_with fail
    go_ret
    exact ⟨rfl, rfl⟩
  · have e : xs.getD k 0 = 0 := by rw [List.getD_eq_getElem?_getD, List.getElem?_eq_none (by have := hxs.len; omega)]; rfl
    rw [e]
    have hkI : ¬ (k : Int) < (n : Int) := by omega
    clear hxs e
    go_enter Try.func26, Try.ntmps26
    go_wp2_with fail
    go_ret
    exact ⟨rfl, rfl⟩
theorem getD_i64 {w : World} {S : Nat → Prop} {A : Option Addr} {n : Nat} {xs : List Int} (h : Arr AtInt 1 w S A n xs) (k : Nat) : I64 (xs.getD k 0) := by
  by_cases hlt : k < n
  · obtain ⟨b, off, hx, -, -, -, hi⟩ := h.get hlt
    rw [List.getD_eq_getElem?_getD, List.getElem?_eq_getElem hx]
    exact hi
  · rw [List.getD_eq_getElem?_getD, List.getElem?_eq_none (by have := h.len; omega)]
    exact ⟨by decide, by decide⟩

set_option maxRecDepth 100000 in
set_option maxHeartbeats 1000000 in
theorem kwhole_any (n : Int) (w : World) : Calls Try.prog 41 #[.int .i64 n] w fun e w' => e = .returned (.agg #[.int .i64 n, .int .i64 1, .slice none 0 0, .int .i64 0]) ∧ Below w.heap.size w w' := by
  go_enter Try.func41, Try.ntmps41
  go_wp2_with fail
  refine bodyPost_ret (v := .agg #[.int .i64 n, .int .i64 1, .slice none 0 0, .int .i64 0]) (by simp [results, Try.results41, go_sem]) rfl ⟨rfl, ?_⟩
  exact (Below.refl _ _).alloc (Nat.le_refl _) _
end Go.Proofs.Ythooecojopfjbaa
namespace Go.Proofs.Ythooecojopfjbaa
open Go.RowKit

section
variable {α : Type} {V : Val α} {E : Ent α} {sz : Nat} {w : World} {S : Nat → Prop} {g : Nat} {t : TypeId} {cs : Array Value} {xs : List α}
/-- a block that is known whole, as a list -/
theorem arr_of_blk (hV : Tells V sz) (hE : ∀ w S b o x, AtV V w S b o x → E w S b o x) (h : Blk w g t cs) (hc : Cels V w S xs cs.toList) (hg : S g) : Arr E sz w S (some ⟨g, 0, none⟩) xs.length xs :=
  ⟨rfl, fun i x hx => ⟨g, 0, rfl, hg, by
    have := Cels.at_ hV (w := w) (S := S) (g := g) (cells := cs.toList) (fun j u hu => by rw [h.cell]; simpa using hu) xs 0 cs.toList hc (fun j => by rw [Nat.zero_mul, Nat.zero_add]) i x hx
    rw [Nat.zero_add] at this
    rw [Nat.zero_add]
    exact hE _ _ _ _ _ this⟩⟩
end

def VDecl : Val DeclD := fun w S cs x => ∃ (A : Option Addr) (n c : Nat), cs = [.string x.name, .slice A n c, .int .i64 x.sort] ∧ x.name.size ≤ maxLen ∧ I64 x.sort ∧ n ≤ c ∧ c ≤ maxLen ∧ Arr AtInt 1 w S A n x.args
theorem tells_decl : Tells VDecl 3 := ⟨fun _ _ _ _ _ _ hS hk h => by
    obtain ⟨A, n, c, h0, h1, h2, h3, h4, h5⟩ := h
    exact ⟨A, n, c, h0, h1, h2, h3, h4, h5.keep stays_int hS hk⟩,
  fun _ _ _ _ h => by obtain ⟨A, n, c, h0, _⟩ := h; rw [h0]; rfl,
  fun _ _ _ _ h u hu => by obtain ⟨A, n, c, h0, _⟩ := h; rw [h0] at hu; simp only [List.mem_cons, List.not_mem_nil, or_false] at hu; rcases hu with rfl | rfl | rfl <;> rfl⟩
theorem atV_decl {w : World} {S : Nat → Prop} {b o : Nat} {x : DeclD} (h : AtV VDecl w S b o x) : AtDecl w S b o x := by
  obtain ⟨cs, ⟨A, n, c, rfl, h1, h2, h3, h4, h5⟩, hc⟩ := h
  exact ⟨⟨hc 0 _ rfl, h1⟩, ⟨A, n, c, hc 1 _ rfl, h3, h4, h5⟩, hc 2 _ rfl, h2⟩
def VNode : Val NodeD := fun w S cs x => ∃ (A : Option Addr) (n c : Nat), cs = [.int .i64 x.op, .slice A n c, .int .i64 x.n, .int .i64 x.d, .string x.name] ∧ (I64 x.op ∧ I64 x.n ∧ I64 x.d ∧ x.name.size ≤ maxLen) ∧ n ≤ c ∧ c ≤ maxLen ∧ Arr AtInt 1 w S A n x.kids
theorem tells_node : Tells VNode 5 := ⟨fun _ _ _ _ _ _ hS hk h => by
    obtain ⟨A, n, c, h0, h1, h3, h4, h5⟩ := h
    exact ⟨A, n, c, h0, h1, h3, h4, h5.keep stays_int hS hk⟩,
  fun _ _ _ _ h => by obtain ⟨A, n, c, h0, _⟩ := h; rw [h0]; rfl,
  fun _ _ _ _ h u hu => by obtain ⟨A, n, c, h0, _⟩ := h; rw [h0] at hu; simp only [List.mem_cons, List.not_mem_nil, or_false] at hu; rcases hu with rfl | rfl | rfl | rfl | rfl <;> rfl⟩
theorem atV_node {w : World} {S : Nat → Prop} {b o : Nat} {x : NodeD} (h : AtV VNode w S b o x) : AtNode w S b o x := by
  obtain ⟨cs, ⟨A, n, c, rfl, ⟨h1, h2, h6, h7⟩, h3, h4, h5⟩, hc⟩ := h
  exact ⟨⟨hc 0 _ rfl, h1⟩, ⟨A, n, c, hc 1 _ rfl, h3, h4, h5⟩, ⟨hc 2 _ rfl, h2⟩, ⟨hc 3 _ rfl, h6⟩, hc 4 _ rfl, h7⟩
theorem arr_ints {w : World} {S : Nat → Prop} {g : Nat} {t : TypeId} {cs : Array Value} {xs : List Int} (h : Blk w g t cs) (hc : cs.toList = xs.map (Value.int .i64)) (hi : ∀ x ∈ xs, I64 x) (hg : S g) : Arr AtInt 1 w S (some ⟨g, 0, none⟩) xs.length xs := by
  refine arr_of_blk tells_int (fun _ _ _ _ _ h => atV_int.1 h) h ?_ hg
  rw [hc]
  clear hc h
  induction xs with
  | nil => rfl
  | cons x r ih => exact ⟨[.int .i64 x], _, rfl, ⟨rfl, hi x (by simp)⟩, ih fun y hy => hi y (by simp [hy])⟩

def nameC (c : UInt8) : ByteArray := ⟨#[c]⟩
/-- the declarations of all asks that are made: p q x y r a b c f g h m v w -/
def declsK : List DeclD := [⟨nameC 112, [], 1⟩, ⟨nameC 113, [], 1⟩, ⟨nameC 120, [], 2⟩, ⟨nameC 121, [], 2⟩, ⟨nameC 114, [], 3⟩, ⟨nameC 97, [], 4⟩, ⟨nameC 98, [], 4⟩, ⟨nameC 99, [], 4⟩, ⟨nameC 102, [4], 4⟩, ⟨nameC 103, [4, 4], 1⟩, ⟨nameC 104, [4], 2⟩, ⟨nameC 109, [], 5⟩, ⟨nameC 118, [], 13⟩, ⟨nameC 119, [], 13⟩]
theorem nameC_size (c : UInt8) : (nameC c).size ≤ maxLen := by show 1 ≤ maxLen; decide
theorem vdecl_plain {w : World} {S : Nat → Prop} (c : UInt8) (s : Int) (hs : I64 s) : VDecl w S [.string { data := #[c] }, .slice none 0 0, .int .i64 s] ⟨nameC c, [], s⟩ :=
  ⟨none, 0, 0, rfl, nameC_size c, hs, Nat.le_refl _, Nat.zero_le _, Arr.nil_⟩
theorem vdecl_args {w : World} {S : Nat → Prop} (c : UInt8) (s : Int) (hs : I64 s) {g : Nat} {t : TypeId} {cs : Array Value} {xs : List Int} (h : Blk w g t cs) (hc : cs.toList = xs.map (Value.int .i64)) (hi : ∀ x ∈ xs, I64 x) (hg : S g) (hl : xs.length ≤ 10) :
    VDecl w S [.string { data := #[c] }, .slice (some ⟨g, 0, none⟩) xs.length xs.length, .int .i64 s] ⟨nameC c, xs, s⟩ :=
  ⟨_, _, _, rfl, nameC_size c, hs, Nat.le_refl _, by unfold maxLen; omega, arr_ints h hc hi hg⟩

def DeclsP (w : World) (e : Ending) (w' : World) : Prop := ∃ A c, e = .returned (.slice A 14 c) ∧ 14 ≤ c ∧ c ≤ maxLen ∧ Arr AtDecl 3 w' (fun b => w.heap.size ≤ b ∧ b < w'.heap.size) A 14 declsK ∧ Below w.heap.size w w'
set_option maxRecDepth 100000 in
set_option maxHeartbeats 2000000 in
theorem decls_any (w : World) : Calls Try.prog 32 #[] w (DeclsP w) := by
  go_enter Try.func32, Try.ntmps32
  go_wp2_with fail
  go_ret
  obtain ⟨X, hX, hb, k1, k2, k3, k4, hs⟩ := boxes4 w 3 3 3 61 #[.int .i64 4] #[.int .i64 4, .int .i64 4] #[.int .i64 4] #[.string { data := #[112] }, .slice none 0 0, .int .i64 1, .string { data := #[113] }, .slice none 0 0, .int .i64 1, .string { data := #[120] }, .slice none 0 0, .int .i64 2, .string { data := #[121] }, .slice none 0 0, .int .i64 2, .string { data := #[114] }, .slice none 0 0, .int .i64 3, .string { data := #[97] }, .slice none 0 0, .int .i64 4, .string { data := #[98] }, .slice none 0 0, .int .i64 4, .string { data := #[99] }, .slice none 0 0, .int .i64 4, .string { data := #[102] }, .slice (some ⟨w.heap.size, 0, none⟩) 1 1, .int .i64 4, .string { data := #[103] }, .slice (some ⟨w.heap.size + 1, 0, none⟩) 2 2, .int .i64 1, .string { data := #[104] }, .slice (some ⟨w.heap.size + 2, 0, none⟩) 1 1, .int .i64 2, .string { data := #[109] }, .slice none 0 0, .int .i64 5, .string { data := #[118] }, .slice none 0 0, .int .i64 13, .string { data := #[119] }, .slice none 0 0, .int .i64 13]
  rw [hX]
  have i4 : I64 4 := ⟨by decide, by decide⟩
  have m1 : ∀ x ∈ ([4] : List Int), I64 x := fun x hx => by rw [List.mem_singleton.1 hx]; exact i4
  have m2 : ∀ x ∈ ([4, 4] : List Int), I64 x := fun x hx => by simp only [List.mem_cons, List.not_mem_nil, or_false, or_self] at hx; rw [hx]; exact i4
  refine ⟨some ⟨w.heap.size + 3, 0, none⟩, 14, rfl, Nat.le_refl _, by decide, ?_, hb⟩
  refine arr_of_blk (xs := declsK) tells_decl (fun _ _ _ _ _ h => atV_decl h) k4 ?_ ⟨by omega, by omega⟩
  refine ⟨_, _, rfl, vdecl_plain 112 1 ⟨by decide, by decide⟩, ?_⟩
  refine ⟨_, _, rfl, vdecl_plain 113 1 ⟨by decide, by decide⟩, ?_⟩
  refine ⟨_, _, rfl, vdecl_plain 120 2 ⟨by decide, by decide⟩, ?_⟩
  refine ⟨_, _, rfl, vdecl_plain 121 2 ⟨by decide, by decide⟩, ?_⟩
  refine ⟨_, _, rfl, vdecl_plain 114 3 ⟨by decide, by decide⟩, ?_⟩
  refine ⟨_, _, rfl, vdecl_plain 97 4 i4, ?_⟩
  refine ⟨_, _, rfl, vdecl_plain 98 4 i4, ?_⟩
  refine ⟨_, _, rfl, vdecl_plain 99 4 i4, ?_⟩
  refine ⟨_, _, rfl, vdecl_args 102 4 i4 k1 rfl m1 ⟨by omega, by omega⟩ (by simp), ?_⟩
  refine ⟨_, _, rfl, vdecl_args 103 1 ⟨by decide, by decide⟩ k2 rfl m2 ⟨by omega, by omega⟩ (by simp), ?_⟩
  refine ⟨_, _, rfl, vdecl_args 104 2 ⟨by decide, by decide⟩ k3 rfl m1 ⟨by omega, by omega⟩ (by simp), ?_⟩
  refine ⟨_, _, rfl, vdecl_plain 109 5 ⟨by decide, by decide⟩, ?_⟩
  refine ⟨_, _, rfl, vdecl_plain 118 13 ⟨by decide, by decide⟩, ?_⟩
  refine ⟨_, _, rfl, vdecl_plain 119 13 ⟨by decide, by decide⟩, rfl⟩
end Go.Proofs.Ythooecojopfjbaa
