/- Forms in memory: their atoms, the whole form. No program is named here. -/
import Derived.Test.YtdncchlfeanlmaaCore
namespace Go.Proofs.Ytdncchlfeanlmaa
open Go.RowKit

theorem atoms_get {w : World} {B : Nat} {A : Option Addr} {n : Nat} {xs : List AtomD} (h : ArrB AtAtom 6 w B A n xs) {i : Nat} (hi : i < n) :
    ∃ (b off : Nat) (hx : i < xs.length) (A' : Option Addr) (n' c' : Nat), A = some ⟨b, off, none⟩ ∧ b < B ∧ w.cell? ⟨b, off + i * 6, none⟩ = some (.int .i64 xs[i].kind) ∧ w.cell? ⟨b, off + i * 6 + 1, none⟩ = some (.int .i64 xs[i].a) ∧
      w.cell? ⟨b, off + i * 6 + 2, none⟩ = some (.int .i64 xs[i].b) ∧ w.cell? ⟨b, off + i * 6 + 3, none⟩ = some (.slice A' n' c') ∧ w.cell? ⟨b, off + i * 6 + 4, none⟩ = some (.int .i64 xs[i].row.kind) ∧
      w.cell? ⟨b, off + i * 6 + 5, none⟩ = some (.int .i64 xs[i].row.to_) ∧ n' ≤ c' ∧ c' ≤ maxLen ∧ IntsB w B A' n' xs[i].row.of_ ∧ I64 xs[i].row.to_ := by
  obtain ⟨b, off, hx, e, hb, ⟨h0, _⟩, ⟨h1, _⟩, ⟨h2, _⟩, ⟨A', n', c', hc, h3, h4, h5⟩, ⟨h6, _⟩, ⟨h7, h8⟩⟩ := Arr.get h hi
  exact ⟨b, off, hx, A', n', c', e, hb, h0, h1, h2, hc, h6, h7, h3, h4, h5, h8⟩

/-- a form whose four slices are as told, in blocks below B -/
structure FormB (w : World) (B : Nat) (A1 A2 A3 A4 : Option Addr) (n1 n2 n3 n4 : Nat) (F : FormD) : Prop where
  terms : ArrB AtTerm 2 w B A1 n1 F.terms
  ints : ArrB AtBool 1 w B A2 n2 F.ints
  atoms : ArrB AtAtom 6 w B A3 n3 F.atoms
  clauses : ArrB (AtArr AtInt 1) 1 w B A4 n4 F.clauses
  m1 : n1 ≤ 9223372036854775807
  m2 : n2 ≤ 9223372036854775807
  m3 : n3 ≤ 9223372036854775807
  m4 : n4 ≤ 9223372036854775807
theorem FormB.below {w w' : World} {B B' : Nat} {A1 A2 A3 A4 : Option Addr} {n1 n2 n3 n4 : Nat} {F : FormD} (h : FormB w B A1 A2 A3 A4 n1 n2 n3 n4 F) (hb : Below B w w') (hB : B ≤ B') : FormB w' B' A1 A2 A3 A4 n1 n2 n3 n4 F :=
  ⟨h.terms.below stays_term hb hB, h.ints.below stays_bool hb hB, h.atoms.below stays_atom hb hB, h.clauses.below (stays_arr stays_int) hb hB, h.m1, h.m2, h.m3, h.m4⟩
end Go.Proofs.Ytdncchlfeanlmaa
