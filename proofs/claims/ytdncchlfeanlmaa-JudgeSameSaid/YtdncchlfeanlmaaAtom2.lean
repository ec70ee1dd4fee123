/- Walks: what is wrong with an atom, in the program and in the reference. · Walk: what is wrong with an atom: the program. -/
import Derived.Test.YtdncchlfeanlmaaRow2
namespace Go.Proofs.Ytdncchlfeanlmaa
open Go.RowKit

def atomCode (x : AtomD) (nt ni : Int) : Int :=
  if x.kind < 1 ∨ 3 < x.kind then 4
  else if (¬ x.kind = 2 ∧ (¬ x.a = 0 ∨ ¬ x.b = 0)) ∨ (¬ x.kind = 3 ∧ (0 < x.row.of_.length ∨ ¬ x.row.kind = 0 ∨ ¬ x.row.to_ = 0)) then 5
  else if x.kind = 2 ∧ (x.a < 0 ∨ x.b ≤ x.a ∨ nt ≤ x.b) then 3
  else if x.kind = 3 then rowCode x.row ni else 0
/-- what the reference says first: -1: the row is to be asked -/
def atomPre (x : AtomD) (nt : Int) : Int :=
  if x.kind < 1 ∨ 3 < x.kind then 4
  else if (¬ x.kind = 2 ∧ (¬ x.a = 0 ∨ ¬ x.b = 0)) ∨ (¬ x.kind = 3 ∧ (0 < x.row.of_.length ∨ ¬ x.row.kind = 0 ∨ ¬ x.row.to_ = 0)) then 5
  else if x.kind = 2 ∧ (x.a < 0 ∨ x.b ≤ x.a ∨ nt ≤ x.b) then 3
  else if x.kind = 3 then -1 else 0

set_option maxRecDepth 100000 in
set_option maxHeartbeats 4000000 in
theorem atomFault_any (kind a b rk tt : Int) (A : Option Addr) (n c : Nat) (xs : List Int) (nt : Int) (R : Int) (w : World) (hlen : xs.length = n) (hR : atomPre ⟨kind, a, b, ⟨xs, rk, tt⟩⟩ nt = R) (hn : n ≤ maxLen) :
    Calls Try.prog 14 #[.agg #[.int .i64 kind, .int .i64 a, .int .i64 b, .slice A n c, .int .i64 rk, .int .i64 tt], .int .i64 nt] w fun e w' => e = .returned (.int .i64 R) ∧ Below w.heap.size w w' := by
  unfold maxLen at hn
  simp only [atomPre, hlen] at hR
  have HR := Lib.hid hR
  clear hR hlen
  go_enter Try.func14, Try.ntmps14
  go_wp2_with fail
  all_goals go_ret
  all_goals refine ⟨ret_int ?_, (Below.refl _ _).alloc (Nat.le_refl _) _⟩
  all_goals have e := HR.out
  all_goals clear HR
  all_goals first | grind | skip
end Go.Proofs.Ytdncchlfeanlmaa
namespace Go.Proofs.Ytdncchlfeanlmaa
open Go.RowKit

theorem field_code (a b : Int) (w : World) : (Instr.field 29 (.agg #[.int .i64 a, .int .i64 b]) 0).run Try.prog w = .ok (.int .i64 a) w := by kernel_rfl

set_option maxRecDepth 100000 in
set_option maxHeartbeats 8000000 in
theorem checkAtom_any (kind a b rk tt : Int) (A : Option Addr) (n c : Nat) (xs : List Int) (A1 A2 A3 A4 : Option Addr) (nt c1 ni c2 n3 c3 n4 c4 : Nat) (R : Int) (w : World) (hxs : IntsB w w.heap.size A n xs) (hI : I64 tt) (hn : n ≤ maxLen) (hni : ni ≤ 12)
    (hR : atomCode ⟨kind, a, b, ⟨xs, rk, tt⟩⟩ nt ni = R) :
    Calls Try.prog 11 #[.agg #[.slice A1 nt c1, .slice A2 ni c2, .slice A3 n3 c3, .slice A4 n4 c4], .agg #[.int .i64 kind, .int .i64 a, .int .i64 b, .slice A n c, .int .i64 rk, .int .i64 tt]] w fun e w' => e = .returned (.int .i64 R) ∧ Below w.heap.size w w' := by
  have hlen := hxs.len
  rcases hrf : rowF ⟨xs, rk, tt⟩ ni with ⟨qc, qa⟩
  have hrc : rowCode ⟨xs, rk, tt⟩ ni = qc := by rw [rowCode, hrf]
  have HC := Lib.hid (fun W (hb : Below w.heap.size w W) => rowCheck_any A n c ⟨xs, rk, tt⟩ ni qc qa W (hxs.below stays_int hb hb.size) hI hn (by omega) (by omega) hrf)
  simp only [atomCode, hlen, hrc] at hR
  have HR := Lib.hid hR
  unfold maxLen at hn
  clear hR hlen hrf hrc hxs
  have hzc : (((n : Int) == 0) = false) ∨ (((n : Int) == 0) = true ∧ (rk == 0) = false) ∨ (((n : Int) == 0) = true ∧ (rk == 0) = true ∧ (tt == 0) = false) ∨ (((n : Int) == 0) = true ∧ (rk == 0) = true ∧ (tt == 0) = true) := by
    by_cases h1 : (n : Int) = 0 <;> by_cases h2 : rk = 0 <;> by_cases h3 : tt = 0 <;> simp [h1, h2, h3] <;> omega
  have hkc : kind < 1 ∨ 3 < kind ∨ kind = 1 ∨ kind = 2 ∨ kind = 3 := by omega
  have HZ := Lib.hid hzc
  clear hzc
  have hbase : ∀ o1 o2 : Obj, Below w.heap.size w ((w.alloc o1).alloc o2) := fun o1 o2 => ((Below.refl _ _).alloc (Nat.le_refl _) _).alloc (by simp) _
  have HBA := Lib.hid hbase
  clear hbase
  rcases hkc with h | h | rfl | rfl | rfl
  rotate_left
  rotate_left
  rotate_left
  rotate_left
  · have hzc := HZ.out
    clear HZ
    have hfd := fun W => field_code qc qa W
    rcases hzc with q1 | ⟨q1, q2⟩ | ⟨q1, q2, q3⟩ | ⟨q1, q2, q3⟩
    all_goals
      go_enter Try.func11, Try.ntmps11
      go_wp2_with fail
      · refine (HC.out _ (HBA.out _ _)).mono ?_
        rintro e w1 ⟨rfl, hb1⟩
        go_wp2_with fail
        go_ret
        refine ⟨ret_int ?_, (HBA.out _ _).trans (hb1.mono (by simp; omega))⟩
        have e := HR.out
        clear HR HC hfd
        grind
      all_goals go_ret
      all_goals refine ⟨ret_int ?_, HBA.out _ _⟩
      all_goals have e := HR.out
      all_goals clear HR HC hfd
      all_goals grind
  all_goals have hzc := HZ.out
  all_goals clear HZ HC
  all_goals rcases hzc with q1 | ⟨q1, q2⟩ | ⟨q1, q2, q3⟩ | ⟨q1, q2, q3⟩
  all_goals
    go_enter Try.func11, Try.ntmps11
    go_wp2_with fail
    all_goals go_ret
    all_goals refine ⟨ret_int ?_, HBA.out _ _⟩
    all_goals have e := HR.out
    all_goals clear HR
    all_goals grind
end Go.Proofs.Ytdncchlfeanlmaa
