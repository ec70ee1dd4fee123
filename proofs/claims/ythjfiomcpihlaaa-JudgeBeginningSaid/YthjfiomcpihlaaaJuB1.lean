/- Walk: the law JudgeBeginning. -/
import Derived.Test.YthjfiomcpihlaaaJuTS
import Derived.Test.YthjfiomcpihlaaaJuEP
import Derived.Test.YthjfiomcpihlaaaKitAB
import Derived.Deep.RegionLaw
namespace Go.Proofs.Ythjfiomcpihlaaa
open Go.RowKit

theorem begin_law {F : FormD} {l : List StepD} {k : Nat} (hk : k ≤ l.length) {q qa m ma : Int} (h1 : whyJ F l = (q, 0, qa)) (h2 : whyJ F (l.take k) = (m, 0, ma)) :
    ((q = -1 ∨ q = l.length ∨ (k : Int) ≤ q) → (m = -1 ∨ m = k)) ∧ (¬ (q = -1 ∨ q = l.length ∨ (k : Int) ≤ q) → m = q) := by
  obtain ⟨_, _, _, e1⟩ := whyJ_fine (F := F) (l := l) (by rw [h1])
  obtain ⟨_, _, _, e2⟩ := whyJ_fine (F := F) (l := l.take k) (by rw [h2])
  rw [h1] at e1
  rw [h2] at e2
  dsimp only at e1 e2
  rcases runJ_take (ts := F.terms) (ints := F.ints) l ⟨F.atoms, F.clauses⟩ 0 k (by omega) hk with ⟨n, h3, h4, h5, h6⟩ | ⟨h3, h4⟩
  · rw [h5] at e1
    rw [h6] at e2
    refine ⟨fun h => by omega, fun _ => by omega⟩
  · rw [← e1] at h3
    rw [← e2] at h4
    refine ⟨fun _ => by omega, fun h => by omega⟩

set_option maxRecDepth 100000 in
set_option maxHeartbeats 8000000 in
theorem beginning_any (A1 A2 A3 A4 : Option Addr) (n1 c1 n2 c2 n3 c3 n4 c4 : Nat) (F : FormD) (A : Option Addr) (n c : Nat) (l : List StepD) (cut : Int) (w : World) (hF : FormB w w.heap.size A1 A2 A3 A4 n1 n2 n3 n4 F) (hc1 : n1 ≤ c1) (hc3 : n3 ≤ c3) (hc3m : c3 ≤ maxLen)
    (hl : ArrB AtStep 9 w w.heap.size A n l) (hnc : n ≤ c) (hn : n < 9223372036854775807) (hcut : I64 cut) :
    Calls Try.prog 5 #[.agg #[.slice A1 n1 c1, .slice A2 n2 c2, .slice A3 n3 c3, .slice A4 n4 c4], .slice A n c, .int .i64 cut] w fun e w' => e = .returned (.bool true) ∧ Below w.heap.size w w' := by
  have hlen := hl.len
  rcases hR : whyJ F l with ⟨q, qc, qa⟩
  have hb0 : Below w.heap.size w (w.alloc (.cells #[.slice A1 n1 c1, .slice A2 n2 c2, .slice A3 n3 c3, .slice A4 n4 c4] 27)) := (Below.refl _ _).alloc (Nat.le_refl _) _
  have hk0 := Blk.new w 27 #[.slice A1 n1 c1, .slice A2 n2 c2, .slice A3 n3 c3, .slice A4 n4 c4]
  have HC := Lib.hid (fun (W : World) (hbW : Below w.heap.size w W) => why_any A1 A2 A3 A4 n1 c1 n2 c2 n3 c3 n4 c4 F A n c l q qc qa W (hF.below hbW hbW.size) hc1 hc3 hc3m (hl.below stays_step hbW hbW.size) hR)
  have HF := Lib.hid (And.intro hF (And.intro hc1 (And.intro hc3 (And.intro hc3m (And.intro hl (And.intro hR (And.intro hlen hcut)))))))
  have HW := Lib.hid (And.intro hb0 hk0)
  clear hF hl hR hb0 hk0 hlen hc1 hc3 hc3m hcut
  go_enter Try.func5, Try.ntmps5
  go_wp2_with fail
  refine (HC.out _ HW.out.1).mono ?_
  rintro e w1 ⟨rfl, hb1⟩
  have hbw1 : Below w.heap.size w w1 := HW.out.1.trans (hb1.mono (by simp))
  have k1 : Blk w1 w.heap.size 27 #[.slice A1 n1 c1, .slice A2 n2 c2, .slice A3 n3 c3, .slice A4 n4 c4] := HW.out.2.below hb1 (by simp)
  have e0 : w1.cell? ⟨w.heap.size, 0, none⟩ = some (.slice A1 n1 c1) := k1.cell 0
  have e1 : w1.cell? ⟨w.heap.size, 1, none⟩ = some (.slice A2 n2 c2) := k1.cell 1
  have e2 : w1.cell? ⟨w.heap.size, 2, none⟩ = some (.slice A3 n3 c3) := k1.cell 2
  have e3 : w1.cell? ⟨w.heap.size, 3, none⟩ = some (.slice A4 n4 c4) := k1.cell 3
  have z0 : w.heap.size < w1.heap.size := k1.lt
  have HB1 := Lib.hid (And.intro hbw1 k1)
  clear hb1 hbw1 k1 HC HW
  go_wp2_with fail
  refine (picked_in cut ((n : Int) + 1) _ HF.out.2.2.2.2.2.2.2 (by omega) (by omega)).mono ?_
  rintro e w2 ⟨r, rfl, rfl, r0, r1⟩
  obtain ⟨k, rfl⟩ : ∃ k : Nat, r = k := ⟨r.toNat, by omega⟩
  have hkn : k ≤ n := by omega
  have hkc : (k : Int) ≤ (c : Int) := by omega
  rcases hR2 : whyJ F (l.take k) with ⟨m, mc, ma⟩
  have HC2 := Lib.hid (fun (W : World) (hbW : Below w.heap.size w W) => why_any A1 A2 A3 A4 n1 c1 n2 c2 n3 c3 n4 c4 F A k c (l.take k) m mc ma W (HF.out.1.below hbW hbW.size) HF.out.2.1 HF.out.2.2.1 HF.out.2.2.2.1 (Arr.take (HF.out.2.2.2.2.1.below stays_step hbW hbW.size) hkn) hR2)
  have HR2 := Lib.hid hR2
  clear hR2
  go_upto_region 3 with fail
  have hX1 : Below w.heap.size w (w1.alloc (.cells #[.int .i64 qc, .int .i64 qa] 29)) := HB1.out.1.alloc (Nat.le_of_lt z0) _
  have kX1 : Blk (w1.alloc (.cells #[.int .i64 qc, .int .i64 qa] 29)) w1.heap.size 29 #[.int .i64 qc, .int .i64 qa] := Blk.new _ _ _
  have kX2 : ∀ o, Blk (((w1.alloc (.cells #[.int .i64 qc, .int .i64 qa] 29)).alloc o)) w1.heap.size 29 #[.int .i64 qc, .int .i64 qa] := fun o => kX1.alloc o
  have kX3 : Blk ((w1.alloc (.cells #[.int .i64 qc, .int .i64 qa] 29)).alloc (.cells #[.int .i64 0, .int .i64 0] 29)) (w1.heap.size + 1) 29 #[.int .i64 0, .int .i64 0] := by have := Blk.new (w1.alloc (.cells #[.int .i64 qc, .int .i64 qa] 29)) 29 #[.int .i64 0, .int .i64 0]; rwa [World.size_alloc] at this
  have HX := Lib.hid (And.intro hX1 (And.intro kX1 (And.intro kX2 kX3)))
  clear hX1 kX1 kX2 kX3
  go_region_law (first
    | (go_simp
       go_at_call 16
       refine (HC2.out _ (by first | exact below_drawn HX.out.1 | exact below_drawn (HX.out.1.alloc (by simp; omega) _))).mono ?_
       rintro e w3 ⟨rfl, hb3⟩
       have hbw3 : Below w.heap.size w w3 := by first | exact (below_drawn HX.out.1).trans (hb3.mono (by simp; omega)) | exact (below_drawn (HX.out.1.alloc (by simp; omega) _)).trans (hb3.mono (by simp; omega))
       have kf : Blk w3 w1.heap.size 29 #[.int .i64 qc, .int .i64 qa] := by first | exact (HX.out.2.1.drew).below hb3 (by simp) | exact ((HX.out.2.2.1 _).drew).below hb3 (by simp; omega)
       have zf : w1.heap.size < w3.heap.size := kf.lt
       have ff : w3.cell? ⟨w1.heap.size, 0, none⟩ = some (.int .i64 qc) := kf.cell 0
       have zf1 : w.heap.size < w3.heap.size := by omega
       first
       | (have kb : Blk w3 (w1.heap.size + 1) 29 #[.int .i64 0, .int .i64 0] := (HX.out.2.2.2.drew).below hb3 (by simp)
          have zb : w1.heap.size + 1 < w3.heap.size := kb.lt
          have fb0 : w3.cell? ⟨w1.heap.size + 1, 0, none⟩ = some (.int .i64 0) := kb.cell 0
          have fb1 : w3.cell? ⟨w1.heap.size + 1, 1, none⟩ = some (.int .i64 0) := kb.cell 1
          have fb2 : w3.frozen? ⟨w1.heap.size + 1, 0, none⟩ = false := kb.frozen 0
          have fb3 : w3.frozen? ⟨w1.heap.size + 1, 1, none⟩ = false := kb.frozen 1
          clear kb)
       | skip
       have HB3 := Lib.hid hbw3
       clear hb3 hbw3 kf)
    | fail)
  all_goals
    by_cases hqc : qc = 0
    · subst hqc
      by_cases hmc : mc = 0
      · subst hmc
        obtain ⟨hy, hn'⟩ := begin_law (F := F) (l := l) (k := k) (by rw [HF.out.2.2.2.2.2.2.1]; exact hkn) HF.out.2.2.2.2.2.1 HR2.out
        rw [HF.out.2.2.2.2.2.2.1] at hy hn'
        clear HC2
        by_cases h1 : q = -1
        · have hm : m = -1 ∨ (¬ m = -1 ∧ m = k) := by have := hy (.inl h1); omega
          subst h1
          clear hy hn'
          rcases hm with rfl | ⟨hm, rfl⟩
          · go_wp2_with fail
            refine (judgeSure_any _).mono ?_
            rintro e w5 ⟨rfl, hb5⟩
            have HB5 : Hid (Below w.heap.size w w5) := by
              first
              | exact (HB3.out.alloc (Nat.le_of_lt zf1) _).trans (hb5.mono (by simp; omega))
              | exact ((HB3.out.setCell (p := ⟨w1.heap.size + 1, 0, none⟩) (by show w.heap.size ≤ w1.heap.size + 1; omega) _).setCell (p := ⟨w1.heap.size + 1, 1, none⟩) (by show w.heap.size ≤ w1.heap.size + 1; omega) _).trans (hb5.mono (by simp; omega))
            clear hb5
            go_wp2_with fail
            go_ret
            exact ⟨rfl, HB5.out⟩
          · have hmb : ((k : Int) == -1) = false := by simp
            go_wp2_with fail
            refine (judgeSure_any _).mono ?_
            rintro e w5 ⟨rfl, hb5⟩
            have HB5 : Hid (Below w.heap.size w w5) := by
              first
              | exact (HB3.out.alloc (Nat.le_of_lt zf1) _).trans (hb5.mono (by simp; omega))
              | exact ((HB3.out.setCell (p := ⟨w1.heap.size + 1, 0, none⟩) (by show w.heap.size ≤ w1.heap.size + 1; omega) _).setCell (p := ⟨w1.heap.size + 1, 1, none⟩) (by show w.heap.size ≤ w1.heap.size + 1; omega) _).trans (hb5.mono (by simp; omega))
            clear hb5
            go_wp2_with fail
            go_ret
            exact ⟨ret_bool (by simp), HB5.out⟩
        · have h1b : (q == -1) = false := by simpa using h1
          by_cases h2 : q = n
          · have hm : m = -1 ∨ (¬ m = -1 ∧ m = k) := by have := hy (.inr (.inl h2)); omega
            subst h2
            clear hy hn'
            rcases hm with rfl | ⟨hm, rfl⟩
            · go_wp2_with fail
              refine (judgeSure_any _).mono ?_
              rintro e w5 ⟨rfl, hb5⟩
              have HB5 : Hid (Below w.heap.size w w5) := by
                first
                | exact (HB3.out.alloc (Nat.le_of_lt zf1) _).trans (hb5.mono (by simp; omega))
                | exact ((HB3.out.setCell (p := ⟨w1.heap.size + 1, 0, none⟩) (by show w.heap.size ≤ w1.heap.size + 1; omega) _).setCell (p := ⟨w1.heap.size + 1, 1, none⟩) (by show w.heap.size ≤ w1.heap.size + 1; omega) _).trans (hb5.mono (by simp; omega))
              clear hb5
              go_wp2_with fail
              go_ret
              exact ⟨rfl, HB5.out⟩
            · have hmb : ((k : Int) == -1) = false := by simp
              go_wp2_with fail
              refine (judgeSure_any _).mono ?_
              rintro e w5 ⟨rfl, hb5⟩
              have HB5 : Hid (Below w.heap.size w w5) := by
                first
                | exact (HB3.out.alloc (Nat.le_of_lt zf1) _).trans (hb5.mono (by simp; omega))
                | exact ((HB3.out.setCell (p := ⟨w1.heap.size + 1, 0, none⟩) (by show w.heap.size ≤ w1.heap.size + 1; omega) _).setCell (p := ⟨w1.heap.size + 1, 1, none⟩) (by show w.heap.size ≤ w1.heap.size + 1; omega) _).trans (hb5.mono (by simp; omega))
              clear hb5
              go_wp2_with fail
              go_ret
              exact ⟨ret_bool (by simp), HB5.out⟩
          · have h2b : (q == (n : Int)) = false := by simpa using h2
            by_cases h3 : (k : Int) ≤ q
            · have hm : m = -1 ∨ (¬ m = -1 ∧ m = k) := by have := hy (.inr (.inr h3)); omega
              clear hy hn'
              rcases hm with rfl | ⟨hm, rfl⟩
              · go_wp2_with fail
                refine (judgeSure_any _).mono ?_
                rintro e w5 ⟨rfl, hb5⟩
                have HB5 : Hid (Below w.heap.size w w5) := by
                  first
                  | exact (HB3.out.alloc (Nat.le_of_lt zf1) _).trans (hb5.mono (by simp; omega))
                  | exact ((HB3.out.setCell (p := ⟨w1.heap.size + 1, 0, none⟩) (by show w.heap.size ≤ w1.heap.size + 1; omega) _).setCell (p := ⟨w1.heap.size + 1, 1, none⟩) (by show w.heap.size ≤ w1.heap.size + 1; omega) _).trans (hb5.mono (by simp; omega))
                clear hb5
                go_wp2_with fail
                go_ret
                exact ⟨rfl, HB5.out⟩
              · have hmb : ((k : Int) == -1) = false := by simp
                go_wp2_with fail
                refine (judgeSure_any _).mono ?_
                rintro e w5 ⟨rfl, hb5⟩
                have HB5 : Hid (Below w.heap.size w w5) := by
                  first
                  | exact (HB3.out.alloc (Nat.le_of_lt zf1) _).trans (hb5.mono (by simp; omega))
                  | exact ((HB3.out.setCell (p := ⟨w1.heap.size + 1, 0, none⟩) (by show w.heap.size ≤ w1.heap.size + 1; omega) _).setCell (p := ⟨w1.heap.size + 1, 1, none⟩) (by show w.heap.size ≤ w1.heap.size + 1; omega) _).trans (hb5.mono (by simp; omega))
                clear hb5
                go_wp2_with fail
                go_ret
                exact ⟨ret_bool (by simp), HB5.out⟩
            · obtain rfl := hn' (by omega)
              clear hy hn'
              go_wp2_with fail
              refine (judgeSure_any _).mono ?_
              rintro e w5 ⟨rfl, hb5⟩
              have HB5 : Hid (Below w.heap.size w w5) := by
                first
                | exact (HB3.out.alloc (Nat.le_of_lt zf1) _).trans (hb5.mono (by simp; omega))
                | exact ((HB3.out.setCell (p := ⟨w1.heap.size + 1, 0, none⟩) (by show w.heap.size ≤ w1.heap.size + 1; omega) _).setCell (p := ⟨w1.heap.size + 1, 1, none⟩) (by show w.heap.size ≤ w1.heap.size + 1; omega) _).trans (hb5.mono (by simp; omega))
              clear hb5
              go_wp2_with fail
              go_ret
              exact ⟨ret_bool (by simp), HB5.out⟩
      · have hmb : (mc != 0) = true := by simpa using hmc
        clear hmc HC2
        go_wp2_with fail
        refine (judgeSure_any _).mono ?_
        rintro e w5 ⟨rfl, hb5⟩
        have HB5 : Hid (Below w.heap.size w w5) := by
          first
          | exact (HB3.out.alloc (Nat.le_of_lt zf1) _).trans (hb5.mono (by simp; omega))
          | exact ((HB3.out.setCell (p := ⟨w1.heap.size + 1, 0, none⟩) (by show w.heap.size ≤ w1.heap.size + 1; omega) _).setCell (p := ⟨w1.heap.size + 1, 1, none⟩) (by show w.heap.size ≤ w1.heap.size + 1; omega) _).trans (hb5.mono (by simp; omega))
        clear hb5
        go_wp2_with fail
        go_ret
        exact ⟨rfl, HB5.out⟩
    · have hqb : (qc != 0) = true := by simpa using hqc
      clear hqc HC2
      go_wp2_with fail
      refine (judgeSure_any _).mono ?_
      rintro e w5 ⟨rfl, hb5⟩
      have HB5 : Hid (Below w.heap.size w w5) := by
        first
        | exact (HB3.out.alloc (Nat.le_of_lt zf1) _).trans (hb5.mono (by simp; omega))
        | exact ((HB3.out.setCell (p := ⟨w1.heap.size + 1, 0, none⟩) (by show w.heap.size ≤ w1.heap.size + 1; omega) _).setCell (p := ⟨w1.heap.size + 1, 1, none⟩) (by show w.heap.size ≤ w1.heap.size + 1; omega) _).trans (hb5.mono (by simp; omega))
      clear hb5
      go_wp2_with fail
      go_ret
      exact ⟨rfl, HB5.out⟩
end Go.Proofs.Ythjfiomcpihlaaa
