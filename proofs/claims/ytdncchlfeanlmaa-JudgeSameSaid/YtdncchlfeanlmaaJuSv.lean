/- Steps as values in rows of the call's own. -/
import Derived.Test.YtdncchlfeanlmaaJuTS
namespace Go.Proofs.Ytdncchlfeanlmaa
open Go.RowKit

def VStep : Val StepD := fun w S cs x => ∃ (L : Option Addr) (nl cl : Nat) (M : Option Addr) (nm cm : Nat) (O : Option Addr) (no co : Nat),
  cs = [.int .i64 x.kind, .slice L nl cl, .slice M nm cm, .int .i64 x.atom.kind, .int .i64 x.atom.a, .int .i64 x.atom.b, .slice O no co, .int .i64 x.atom.row.kind, .int .i64 x.atom.row.to_] ∧
  (I64 x.kind ∧ I64 x.atom.kind ∧ I64 x.atom.a ∧ I64 x.atom.b ∧ I64 x.atom.row.kind ∧ I64 x.atom.row.to_) ∧ (nl ≤ cl ∧ cl ≤ maxLen ∧ nm ≤ cm ∧ cm ≤ maxLen ∧ no ≤ co ∧ co ≤ maxLen) ∧
  Arr AtInt 1 w S L nl x.lits ∧ Arr AtFrac 2 w S M nm x.nums ∧ Arr AtInt 1 w S O no x.atom.row.of_
theorem tells_step : Tells VStep 9 := ⟨fun _ _ _ _ _ _ hS hk h => by
    obtain ⟨L, nl, cl, M, nm, cm, O, no, co, h0, h1, h2, h3, h4, h5⟩ := h
    exact ⟨L, nl, cl, M, nm, cm, O, no, co, h0, h1, h2, h3.keep stays_int hS hk, h4.keep stays_frac hS hk, h5.keep stays_int hS hk⟩,
  fun _ _ _ _ h => by obtain ⟨L, nl, cl, M, nm, cm, O, no, co, h0, _⟩ := h; rw [h0]; rfl,
  fun _ _ _ _ h u hu => by obtain ⟨L, nl, cl, M, nm, cm, O, no, co, h0, _⟩ := h; rw [h0] at hu; simp only [List.mem_cons, List.not_mem_nil, or_false] at hu; rcases hu with rfl | rfl | rfl | rfl | rfl | rfl | rfl | rfl | rfl <;> rfl⟩
theorem atV_step {w : World} {S : Nat → Prop} {b o : Nat} {x : StepD} (h : AtV VStep w S b o x) : AtStep w S b o x := by
  obtain ⟨cs, ⟨L, nl, cl, M, nm, cm, O, no, co, rfl, ⟨i1, i2, i3, i4, i5, i6⟩, ⟨b1, b2, b3, b4, b5, b6⟩, h3, h4, h5⟩, hc⟩ := h
  exact ⟨⟨hc 0 _ rfl, i1⟩, ⟨L, nl, cl, hc 1 _ rfl, b1, b2, h3⟩, ⟨M, nm, cm, hc 2 _ rfl, b3, b4, h4⟩, ⟨hc 3 _ rfl, i2⟩, ⟨hc 4 _ rfl, i3⟩, ⟨hc 5 _ rfl, i4⟩, ⟨O, no, co, hc 6 _ rfl, b5, b6, h5⟩, ⟨hc 7 _ rfl, i5⟩, hc 8 _ rfl, i6⟩
theorem i64_0 : I64 0 := by unfold I64; omega
theorem i64_1 : I64 1 := by unfold I64; omega
theorem vstep_plain {w : World} {S : Nat → Prop} {k : Int} {L : Option Addr} {nl cl : Nat} {M : Option Addr} {nm cm : Nat} {lits : List Int} {nums : List FracD} (hk : I64 k) (h1 : nl ≤ cl) (h2 : cl ≤ maxLen) (h3 : nm ≤ cm) (h4 : cm ≤ maxLen) (hl : Arr AtInt 1 w S L nl lits) (hm : Arr AtFrac 2 w S M nm nums) :
    VStep w S [.int .i64 k, .slice L nl cl, .slice M nm cm, .int .i64 0, .int .i64 0, .int .i64 0, .slice none 0 0, .int .i64 0, .int .i64 0] ⟨k, lits, nums, nilAtom⟩ :=
  ⟨L, nl, cl, M, nm, cm, none, 0, 0, rfl, ⟨hk, i64_0, i64_0, i64_0, i64_0, i64_0⟩, ⟨h1, h2, h3, h4, Nat.le_refl _, Nat.zero_le _⟩, hl, hm, Arr.nil_⟩
theorem vatom_plain {w : World} {S : Nat → Prop} {k a b : Int} (hk : I64 k) (ha : I64 a) (hb : I64 b) : VAtom w S [.int .i64 k, .int .i64 a, .int .i64 b, .slice none 0 0, .int .i64 0, .int .i64 0] ⟨k, a, b, ⟨[], 0, 0⟩⟩ :=
  ⟨none, 0, 0, rfl, ⟨hk, ha, hb, i64_0, i64_0⟩, Nat.le_refl _, Nat.zero_le _, Arr.nil_⟩
end Go.Proofs.Ytdncchlfeanlmaa
