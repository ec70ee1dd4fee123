/- Walk: the law FormCheckSays. -/
import Derived.Test.YtpceiifacendfaaFormB
namespace Go.Proofs.Ytpceiifacendfaa
open Go.RowKit

theorem arr_one {α : Type} {E : Ent α} {sz : Nat} {w : World} {S : Nat → Prop} {g : Nat} {x : α} (hg : S g) (h : E w S g 0 x) : Arr E sz w S (some ⟨g, 0, none⟩) 1 [x] :=
  ⟨rfl, fun i y hy => by
    match i, hy with
    | 0, hy =>
      obtain rfl : x = y := by simpa using hy
      exact ⟨g, 0, rfl, hg, by rw [Nat.zero_mul]; exact h⟩
    | i + 1, hy => simp at hy⟩

def zeroAtom : AtomD := ⟨0, 0, 0, ⟨[], 0, 0⟩⟩
theorem zero_i64 : I64 0 := ⟨by omega, by omega⟩
theorem at_zeroAtom {w : World} {S : Nat → Prop} {g : Nat} (h : Blk w g 35 #[.int .i64 0, .int .i64 0, .int .i64 0, .slice none 0 0, .int .i64 0, .int .i64 0]) : AtAtom w S g 0 zeroAtom :=
  ⟨⟨h.cell 0, zero_i64⟩, ⟨h.cell 1, zero_i64⟩, ⟨h.cell 2, zero_i64⟩, ⟨none, 0, 0, h.cell 3, Nat.le_refl _, Nat.zero_le _, Arr.nil_⟩, ⟨h.cell 4, zero_i64⟩, ⟨h.cell 5, zero_i64⟩⟩
theorem form_zero : formF ⟨[], [], [zeroAtom], []⟩ = (4, 0) := by decide +kernel

set_option maxRecDepth 100000 in
set_option maxHeartbeats 2000000 in
theorem formCheckSays_any (A1 A2 A3 A4 : Option Addr) (n1 c1 n2 c2 n3 c3 n4 c4 : Nat) (F : FormD) (w : World) (hF : FormB w w.heap.size A1 A2 A3 A4 n1 n2 n3 n4 F) :
    Calls Try.prog 3 #[.agg #[.slice A1 n1 c1, .slice A2 n2 c2, .slice A3 n3 c3, .slice A4 n4 c4]] w fun e w' => e = .returned (.bool true) ∧ Below w.heap.size w w' := by
  rcases hq : formF F with ⟨qc, qa⟩
  have HC := Lib.hid (fun W (hb : Below w.heap.size w W) => formCheck_any A1 A2 A3 A4 n1 c1 n2 c2 n3 c3 n4 c4 F qc qa W (hF.below hb hb.size) hq)
  have HD := Lib.hid (fun W (hb : Below w.heap.size w W) => formFault_any A1 A2 A3 A4 n1 c1 n2 c2 n3 c3 n4 c4 F qc qa W (hF.below hb hb.size) hq)
  obtain ⟨hb0, hbk0, hba0, hs0⟩ := two_boxes w 27 35 #[.slice A1 n1 c1, .slice A2 n2 c2, .slice A3 n3 c3, .slice A4 n4 c4] #[.int .i64 0, .int .i64 0, .int .i64 0, .slice none 0 0, .int .i64 0, .int .i64 0]
  have hF0 : FormB ((w.alloc (.cells #[.slice A1 n1 c1, .slice A2 n2 c2, .slice A3 n3 c3, .slice A4 n4 c4] 27)).alloc (.cells #[.int .i64 0, .int .i64 0, .int .i64 0, .slice none 0 0, .int .i64 0, .int .i64 0] 35)) (w.heap.size + 2) none none (some ⟨w.heap.size + 1, 0, none⟩) none 0 0 1 0 ⟨[], [], [zeroAtom], []⟩ :=
    ⟨Arr.nil_, Arr.nil_, arr_one (by omega) (at_zeroAtom hba0), Arr.nil_, by omega, by omega, by omega, by omega⟩
  have HE := Lib.hid (formCheck_any none none (some ⟨w.heap.size + 1, 0, none⟩) none 0 0 0 0 1 1 0 0 _ 4 0 _ (by rw [hs0]; exact hF0) form_zero)
  have HW := Lib.hid (And.intro hb0 (And.intro hbk0 hs0))
  clear hq hF hb0 hbk0 hba0 hs0 hF0
  go_enter Try.func3, Try.ntmps3
  go_wp2_with fail
  refine HE.out.mono ?_
  rintro e w0 ⟨rfl, hbx⟩
  obtain ⟨hb0, hbk0, hs0⟩ := HW.out
  have hbel := hb0.trans (hbx.mono (by omega))
  have hbk := hbk0.below hbx (by omega)
  have hz : w.heap.size < w0.heap.size := hbk.lt
  have hbel2 : Below w.heap.size w (w0.alloc (.cells #[.int .i64 4, .int .i64 0] 29)) := hbel.alloc (by omega) _
  have hbk2 := hbk.alloc (.cells #[.int .i64 4, .int .i64 0] 29)
  have hbf2 := Blk.new w0 29 #[.int .i64 4, .int .i64 0]
  have hs2 : (w0.alloc (.cells #[.int .i64 4, .int .i64 0] 29)).heap.size = w0.heap.size + 1 := by simp
  clear hb0 hbk0 hs0 hbx hbel hbk HW HE
  go_wp2_with fail
  generalize w0.alloc (.cells #[.int .i64 4, .int .i64 0] 29) = W at hbel2 hbk2 hbf2 hs2 ⊢
  have hzG : w0.heap.size < W.heap.size := by omega
  generalize w0.heap.size = G at hbf2 hzG hz ⊢
  have k0 : W.cell? ⟨w.heap.size, 0, none⟩ = some (.slice A1 n1 c1) := hbk2.cell 0
  have k1 : W.cell? ⟨w.heap.size, 1, none⟩ = some (.slice A2 n2 c2) := hbk2.cell 1
  have k2 : W.cell? ⟨w.heap.size, 2, none⟩ = some (.slice A3 n3 c3) := hbk2.cell 2
  have k3 : W.cell? ⟨w.heap.size, 3, none⟩ = some (.slice A4 n4 c4) := hbk2.cell 3
  have f0 : W.cell? ⟨G, 0, none⟩ = some (.int .i64 4) := hbf2.cell 0
  have f1 : W.cell? ⟨G, 1, none⟩ = some (.int .i64 0) := hbf2.cell 1
  have HB0 : Hid (Below w.heap.size w W.drew) := below_drewN hbel2 1
  clear hbel2 hbk2 hbf2 hs2
  go_region_held3 (fun w' => w'.cell? ⟨w.heap.size, 0, none⟩ = some (.slice A1 n1 c1) ∧ w'.cell? ⟨w.heap.size, 1, none⟩ = some (.slice A2 n2 c2) ∧ w'.cell? ⟨w.heap.size, 2, none⟩ = some (.slice A3 n3 c3) ∧ w'.cell? ⟨w.heap.size, 3, none⟩ = some (.slice A4 n4 c4) ∧ w'.cell? ⟨G, 0, none⟩ = some (.int .i64 4) ∧ w'.cell? ⟨G, 1, none⟩ = some (.int .i64 0))
    (go_keep)
    (first
      | (go_simp
         go_at_call 7
         refine (HC.out _ (by first | exact HB0.out | exact B2)).mono ?_
         rintro e w1 ⟨rfl, hb1⟩
         have B1 : Below w.heap.size w w1 := by first | exact HB0.out.trans (hb1.mono (by first | omega | (simp; omega))) | exact B2.trans (hb1.mono (by first | omega | (simp; omega)))
         have zw1 : G < w1.heap.size := by have := hb1.size; first | omega | (simp at this; omega)
         have pk0 : w1.cell? ⟨w.heap.size, 0, none⟩ = some (.slice A1 n1 c1) := by rw [hb1.cell (p := ⟨w.heap.size, 0, none⟩) (by first | omega | (simp; omega))]; first | exact k0 | exact pk0 | exact rk0
         have pk1 : w1.cell? ⟨w.heap.size, 1, none⟩ = some (.slice A2 n2 c2) := by rw [hb1.cell (p := ⟨w.heap.size, 1, none⟩) (by first | omega | (simp; omega))]; first | exact k1 | exact pk1 | exact rk1
         have pk2 : w1.cell? ⟨w.heap.size, 2, none⟩ = some (.slice A3 n3 c3) := by rw [hb1.cell (p := ⟨w.heap.size, 2, none⟩) (by first | omega | (simp; omega))]; first | exact k2 | exact pk2 | exact rk2
         have pk3 : w1.cell? ⟨w.heap.size, 3, none⟩ = some (.slice A4 n4 c4) := by rw [hb1.cell (p := ⟨w.heap.size, 3, none⟩) (by first | omega | (simp; omega))]; first | exact k3 | exact pk3 | exact rk3
         have pf0 : w1.cell? ⟨G, 0, none⟩ = some (.int .i64 4) := by rw [hb1.cell (p := ⟨G, 0, none⟩) (by first | omega | (simp; omega))]; first | exact f0 | exact pf0 | exact rf0
         have pf1 : w1.cell? ⟨G, 1, none⟩ = some (.int .i64 0) := by rw [hb1.cell (p := ⟨G, 1, none⟩) (by first | omega | (simp; omega))]; first | exact f1 | exact pf1 | exact rf1)
      | (go_simp
         go_at_call 8
         refine (HD.out _ (by first | exact HB0.out | exact B1)).mono ?_
         rintro e w2 ⟨rfl, hb2⟩
         have B2 : Below w.heap.size w w2 := by first | exact HB0.out.trans (hb2.mono (by first | omega | (simp; omega))) | exact B1.trans (hb2.mono (by first | omega | (simp; omega)))
         have zw2 : G < w2.heap.size := by have := hb2.size; first | omega | (simp at this; omega)
         have rk0 : w2.cell? ⟨w.heap.size, 0, none⟩ = some (.slice A1 n1 c1) := by rw [hb2.cell (p := ⟨w.heap.size, 0, none⟩) (by first | omega | (simp; omega))]; first | exact k0 | exact pk0 | exact rk0
         have rk1 : w2.cell? ⟨w.heap.size, 1, none⟩ = some (.slice A2 n2 c2) := by rw [hb2.cell (p := ⟨w.heap.size, 1, none⟩) (by first | omega | (simp; omega))]; first | exact k1 | exact pk1 | exact rk1
         have rk2 : w2.cell? ⟨w.heap.size, 2, none⟩ = some (.slice A3 n3 c3) := by rw [hb2.cell (p := ⟨w.heap.size, 2, none⟩) (by first | omega | (simp; omega))]; first | exact k2 | exact pk2 | exact rk2
         have rk3 : w2.cell? ⟨w.heap.size, 3, none⟩ = some (.slice A4 n4 c4) := by rw [hb2.cell (p := ⟨w.heap.size, 3, none⟩) (by first | omega | (simp; omega))]; first | exact k3 | exact pk3 | exact rk3
         have rf0 : w2.cell? ⟨G, 0, none⟩ = some (.int .i64 4) := by rw [hb2.cell (p := ⟨G, 0, none⟩) (by first | omega | (simp; omega))]; first | exact f0 | exact pf0 | exact rf0
         have rf1 : w2.cell? ⟨G, 1, none⟩ = some (.int .i64 0) := by rw [hb2.cell (p := ⟨G, 1, none⟩) (by first | omega | (simp; omega))]; first | exact f1 | exact pf1 | exact rf1)
      | fail)
  all_goals
    go_wp2_with fail
    go_ret
    refine ⟨ret_bool (by simp), ?_⟩
    first | exact B1 | exact B2
end Go.Proofs.Ytpceiifacendfaa
