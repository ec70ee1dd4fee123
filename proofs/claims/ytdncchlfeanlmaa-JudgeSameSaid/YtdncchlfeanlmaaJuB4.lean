/- Walk: the law JudgeSame (printed by genJuB4.py and genJuB8.py). -/
import Derived.Test.YtdncchlfeanlmaaJuB8
import Derived.Test.YtdncchlfeanlmaaJuB9
namespace Go.Proofs.Ytdncchlfeanlmaa
open Go.RowKit

set_option maxRecDepth 100000 in
set_option maxHeartbeats 60000000 in
theorem judgeSame_any (a b : Int) (w : World) (ha : I64 a) (hb : I64 b) :
    Calls Try.prog 4 #[.int .i64 a, .int .i64 b] w fun e w' => e = .returned (.bool true) ∧ Below w.heap.size w w' := by
  obtain ⟨X, hX⟩ : ∃ X, w.alloc (.cells #[.slice none 0 0, .slice none 0 0, .slice none 0 0, .slice none 0 0] 27) = X := ⟨_, rfl⟩
  have hbX : Below w.heap.size w X := by rw [← hX]; exact (Below.refl _ _).alloc (Nat.le_refl _) _
  have kX : Blk X w.heap.size 27 #[.slice none 0 0, .slice none 0 0, .slice none 0 0, .slice none 0 0] := by rw [← hX]; exact Blk.new _ _ _
  have hsX : w.heap.size + 1 = X.heap.size := by rw [← hX]; simp
  have HX := Lib.hid hX
  have H := Lib.hid (And.intro hbX kX)
  have HBB := Lib.hid hb
  clear hX hbX kX hb
  go_enter Try.func4, Try.ntmps4
  go_wp2_with fail
  refine (picked_in a 8 _ ha (by omega) (by omega)).mono ?_
  rintro e w9 ⟨p, rfl, rfl, p0, p1⟩
  obtain ⟨n, hn⟩ : ∃ n : Nat, 2 + p = (n : Int) := ⟨(2 + p).toNat, by omega⟩
  have hn2 : 2 ≤ n := by omega
  have hn9 : n ≤ 9 := by omega
  go_upto_region 3 with fail
  rw [HX.out]
  clear HX hn p0 p1 ha
  go_wp2_with fail
  go_loopw [7] (fun s7 wr => ∃ (i : Nat) (v1 : Value), s7 = .int .i64 (i : Int) ∧ i ≤ n ∧ Hid (Blk wr w.heap.size 27 #[v1, .slice none 0 0, .slice none 0 0, .slice none 0 0] ∧ Out VTerm 39 2 X wr w.heap.size v1 (termsK i))) (fun s7 _ => n - (intOf s7).toNat)
  case atStart => exact ⟨0, .slice none 0 0, rfl, Nat.zero_le _, H.out.2, Out.start VTerm 39 2 X H.out.2.lt⟩
  case round =>
    obtain ⟨i, v1, rfl, hi, HR⟩ := hrel
    have hGw : w.heap.size < wr.heap.size := HR.out.1.lt
    by_cases hlt : i < n
    · have hiI : (i : Int) < (n : Int) := by omega
      have hbY : Below wr.heap.size wr (wr.alloc (.cells #[.int .i64 (i : Int), .slice none 0 0] 39)) := (Below.refl _ _).alloc (Nat.le_refl _) _
      have HOY := Lib.hid (HR.out.2.step tells_term hbY)
      have HLT := Lib.hid HR.out.2.own.lt
      have HBN := Lib.hid (Blk.new wr 39 #[.int .i64 (i : Int), .slice none 0 0])
      have HGY : Hid (Blk (wr.alloc (.cells #[.int .i64 (i : Int), .slice none 0 0] 39)) w.heap.size 27 #[v1, .slice none 0 0, .slice none 0 0, .slice none 0 0]) := HR.out.1.below hbY hGw
      have q0 : wr.cell? ⟨w.heap.size, 0, none⟩ = some v1 := HR.out.1.cell 0
      have hW0 : X.heap.size ≤ (wr.alloc (.cells #[.int .i64 (i : Int), .slice none 0 0] 39)).heap.size := Nat.le_trans HR.out.2.only.size hbY.size
      clear hbY
      go_wp2_with (at_builtin; (refine wpList_append_item rfl _ _ _ rfl rowTerms tells_term (v := v1) (xs := termsK i) (base := X.heap.size) (S := SO X.heap.size (wr.alloc (.cells #[.int .i64 (i : Int), .slice none 0 0] 39)) v1) rfl HOY.out.own (g := wr.heap.size) (cs := #[.int .i64 (i : Int), .slice none 0 0]) rfl HBN.out (y := ⟨(i : Int), []⟩) ⟨none, 0, 0, rfl, (by show I64 (i : Int); unfold I64; omega), Nat.le_refl _, Nat.zero_le _, Arr.nil_⟩ (fun b h => ⟨h.2.1, h.2.2⟩) (by rw [termsK_len]; unfold maxLen; omega) (by rw [termsK_len]; omega) hW0 ?_); intro v' w6 hown6 hgrow6 hat6; obtain ⟨A6, c6, rfl, -, -⟩ := hown6.len; (have hl6 : (termsK i ++ [(⟨(i : Int), []⟩ : TermD)]).length = i + 1 := by rw [List.length_append, termsK_len]; rfl); rw [hl6] at hown6 hat6 ⊢; clear hl6; (have hgb6 : Blk w6 w.heap.size 27 #[v1, .slice none 0 0, .slice none 0 0, .slice none 0 0] := HGY.out.grown hgrow6 (fun e => by have := (HLT.out _ e.symm).1; omega)); (have q6 : w6.cell? ⟨w.heap.size, 0, none⟩ = some v1 := hgb6.cell 0); (have f6 : w6.frozen? ⟨w.heap.size, 0, none⟩ = false := hgb6.frozen 0); (have z6 : w.heap.size < w6.heap.size := hgb6.lt); (have HB6 := Lib.hid (And.intro hgb6 (And.intro hown6 (And.intro hgrow6 hat6)))); clear hgb6 hown6 hgrow6 hat6)
      go_roundw
      case rel =>
        obtain ⟨hgb6, hown6, hgrow6, hat6⟩ := HB6.out
        refine ⟨i + 1, .slice A6 (i + 1) c6, by go_num, by omega, hgb6.set_ 0 _, ?_⟩
        rw [termsK_next]
        exact Out.put tells_term HOY.out hown6 hgrow6 hat6 0 _
      case measure => simp [intOf]; omega
    · have hiI : ¬ (i : Int) < (n : Int) := by omega
      obtain rfl : n = i := by omega
      have hs7 := lay_size [(3, #[.int .i64 0]), (3, #[.int .i64 ((n : Int) - 1)]), (39, #[.int .i64 90, .slice (some ⟨wr.heap.size, 0, none⟩) 1 1, .int .i64 90, .slice (some ⟨wr.heap.size + 1, 0, none⟩) 1 1])] wr
      have hb7 := lay_below [(3, #[.int .i64 0]), (3, #[.int .i64 ((n : Int) - 1)]), (39, #[.int .i64 90, .slice (some ⟨wr.heap.size, 0, none⟩) 1 1, .int .i64 90, .slice (some ⟨wr.heap.size + 1, 0, none⟩) 1 1])] wr
      have hk7 := fun i t c h => lay_blk [(3, #[.int .i64 0]), (3, #[.int .i64 ((n : Int) - 1)]), (39, #[.int .i64 90, .slice (some ⟨wr.heap.size, 0, none⟩) 1 1, .int .i64 90, .slice (some ⟨wr.heap.size + 1, 0, none⟩) 1 1])] wr i t c h
      rw [show lay wr [(3, #[.int .i64 0]), (3, #[.int .i64 ((n : Int) - 1)]), (39, #[.int .i64 90, .slice (some ⟨wr.heap.size, 0, none⟩) 1 1, .int .i64 90, .slice (some ⟨wr.heap.size + 1, 0, none⟩) 1 1])] = (((wr.alloc (.cells #[.int .i64 0] 3)).alloc (.cells #[.int .i64 ((n : Int) - 1)] 3)).alloc (.cells #[.int .i64 90, .slice (some ⟨wr.heap.size, 0, none⟩) 1 1, .int .i64 90, .slice (some ⟨wr.heap.size + 1, 0, none⟩) 1 1] 39)) from rfl] at hs7 hb7 hk7
      simp only [List.length_cons, List.length_nil] at hs7
      have hlt7 := HR.out.2.own.lt
      have hzo := HR.out.2.only.size
      have hys : Arr AtTerm 2 (((wr.alloc (.cells #[.int .i64 0] 3)).alloc (.cells #[.int .i64 ((n : Int) - 1)] 3)).alloc (.cells #[.int .i64 90, .slice (some ⟨wr.heap.size, 0, none⟩) 1 1, .int .i64 90, .slice (some ⟨wr.heap.size + 1, 0, none⟩) 1 1] 39)) (SO X.heap.size (((wr.alloc (.cells #[.int .i64 0] 3)).alloc (.cells #[.int .i64 ((n : Int) - 1)] 3)).alloc (.cells #[.int .i64 90, .slice (some ⟨wr.heap.size, 0, none⟩) 1 1, .int .i64 90, .slice (some ⟨wr.heap.size + 1, 0, none⟩) 1 1] 39)) v1) (some ⟨wr.heap.size + 1 + 1, 0, none⟩) 2 [⟨90, [0]⟩, ⟨90, [(n : Int) - 1]⟩] := by
        have hS : ∀ k, k < 3 → SO X.heap.size (((wr.alloc (.cells #[.int .i64 0] 3)).alloc (.cells #[.int .i64 ((n : Int) - 1)] 3)).alloc (.cells #[.int .i64 90, .slice (some ⟨wr.heap.size, 0, none⟩) 1 1, .int .i64 90, .slice (some ⟨wr.heap.size + 1, 0, none⟩) 1 1] 39)) v1 (wr.heap.size + k) := fun k hk => ⟨by omega, by rw [hs7]; omega, fun e => by have := (hlt7 _ e).2; omega⟩
        exact row_two tells_term (fun _ _ _ _ _ h => atV_term h) (hk7 2 _ _ rfl) (c0 := [.int .i64 90, .slice (some ⟨wr.heap.size, 0, none⟩) 1 1]) (c1 := [.int .i64 90, .slice (some ⟨wr.heap.size + 1, 0, none⟩) 1 1]) rfl
          ⟨_, 1, 1, rfl, (show I64 90 from i64_small (by omega)), Nat.le_refl _, by decide, row_ints (xs := [0]) (hk7 0 _ _ rfl) rfl (by intro x hx; rw [List.mem_singleton] at hx; subst hx; exact i64_0) (hS 0 (by omega))⟩
          ⟨_, 1, 1, rfl, (show I64 90 from i64_small (by omega)), Nat.le_refl _, by decide, row_ints (xs := [(n : Int) - 1]) (hk7 1 _ _ rfl) rfl (by intro x hx; rw [List.mem_singleton] at hx; subst hx; unfold I64; omega) (hS 1 (by omega))⟩ (hS 2 (by omega))
      have HYS := Lib.hid hys
      have HOY := Lib.hid (HR.out.2.step tells_term hb7)
      have HLT := Lib.hid hlt7
      have HGY := Lib.hid (HR.out.1.below hb7 hGw)
      have q0 : wr.cell? ⟨w.heap.size, 0, none⟩ = some v1 := HR.out.1.cell 0
      have hW0 : X.heap.size ≤ (((wr.alloc (.cells #[.int .i64 0] 3)).alloc (.cells #[.int .i64 ((n : Int) - 1)] 3)).alloc (.cells #[.int .i64 90, .slice (some ⟨wr.heap.size, 0, none⟩) 1 1, .int .i64 90, .slice (some ⟨wr.heap.size + 1, 0, none⟩) 1 1] 39)).heap.size := by rw [hs7]; omega
      clear hs7 hb7 hk7 hlt7 hys
      go_upto_region 8 with (at_builtin; (refine wpList_append_many rfl _ _ _ rfl rowTerms tells_term (v := v1) (xs := termsK n) (base := X.heap.size) (S := SO X.heap.size (((wr.alloc (.cells #[.int .i64 0] 3)).alloc (.cells #[.int .i64 ((n : Int) - 1)] 3)).alloc (.cells #[.int .i64 90, .slice (some ⟨wr.heap.size, 0, none⟩) 1 1, .int .i64 90, .slice (some ⟨wr.heap.size + 1, 0, none⟩) 1 1] 39)) v1) rfl HOY.out.own (E := AtTerm) (fun _ _ _ _ _ h => term_toldS h) (A := some ⟨wr.heap.size + 1 + 1, 0, none⟩) (m := 2) (c := 2) rfl HYS.out (fun b h => ⟨h.2.1, h.2.2⟩) (by rw [termsK_len]; unfold maxLen; omega) (by rw [termsK_len]; omega) hW0 ?_); intro v' w6 hown6 hgrow6 hat6; obtain ⟨A6, c6, rfl, hc6, hc6m⟩ := hown6.len; (have hl6 : (termsK n ++ [(⟨90, [0]⟩ : TermD), ⟨90, [(n : Int) - 1]⟩]).length = n + 2 := by rw [List.length_append, termsK_len]; rfl); rw [hl6] at hown6 hat6 hc6 ⊢; clear hl6; (have hgb6 : Blk w6 w.heap.size 27 #[v1, .slice none 0 0, .slice none 0 0, .slice none 0 0] := HGY.out.grown hgrow6 (fun e => by have := (HLT.out _ e.symm).1; omega)); (have q6 : w6.cell? ⟨w.heap.size, 0, none⟩ = some v1 := hgb6.cell 0); (have f6 : w6.frozen? ⟨w.heap.size, 0, none⟩ = false := hgb6.frozen 0); (have z6 : w.heap.size < w6.heap.size := hgb6.lt); (have HB6 := Lib.hid (And.intro hgb6 (And.intro hown6 (And.intro hgrow6 hat6)))); clear hgb6 hown6 hgrow6 hat6)
      obtain ⟨Z, hZ⟩ : ∃ Z, w6.setCell ⟨w.heap.size, 0, none⟩ (.slice A6 (n + 2) c6) = Z := ⟨_, rfl⟩
      rw [hZ]
      have hO : Out VTerm 39 2 X Z w.heap.size (.slice A6 (n + 2) c6) (sameTerms n) := by rw [← hZ]; exact Out.put tells_term HOY.out HB6.out.2.1 HB6.out.2.2.1 HB6.out.2.2.2 0 _
      have hGZ : Blk Z w.heap.size 27 #[.slice A6 (n + 2) c6, .slice none 0 0, .slice none 0 0, .slice none 0 0] := by rw [← hZ]; exact HB6.out.1.set_ 0 _
      obtain ⟨A1, c1, e1, h1c, h1m, hT⟩ := hO.done tells_term (E := AtTerm) (fun _ _ _ _ _ h => atV_term h)
      have hTl : (sameTerms n).length = n + 2 := by simp [sameTerms]
      rw [hTl] at hT h1c e1
      injection e1 with e1 e2 e3
      subst e1 e3
      clear e2
      have hbwZ : Below w.heap.size w Z := below_then H.out.1 hO.only (by omega) (fun x hx => by injection hx; omega)
      have HZ := Lib.hid (And.intro hbwZ (And.intro hGZ (And.intro hT (And.intro h1c (And.intro h1m (And.intro hO.only hO.only.size))))))
      have zGZ : w.heap.size < Z.heap.size := hGZ.lt
      clear hZ hO hGZ hT h1c h1m hTl hbwZ hc6 hc6m HB6 q6 f6 z6 q0 HYS HOY HLT HGY hW0 HR hGw hzo hsX hiI
      go_wp2_with fail
      go_loopw [8] (fun s8 wr => ∃ (j : Nat) (vA vC : Value), s8 = .int .i64 (j : Int) ∧ j + 1 ≤ n ∧ Hid (Blk wr w.heap.size 27 #[.slice A6 (n + 2) c6, .slice none 0 0, vA, vC] ∧ Pair2 Z wr w.heap.size vA vC (atomsK j) (clsK j))) (fun s8 _ => n - (intOf s8).toNat)
      case atStart => exact ⟨0, .slice none 0 0, .slice none 0 0, rfl, by omega, HZ.out.2.1, Pair2.start Z zGZ⟩
      case round =>
        obtain ⟨j, vA, vC, rfl, hj, HR⟩ := hrel
        by_cases hlt : j + 1 < n
        · have hiI : (j : Int) + 1 < (n : Int) := by omega
          have hbY : Below wr.heap.size wr (wr.alloc (.cells #[.int .i64 2, .int .i64 (j : Int), .int .i64 ((j : Int) + 1), .slice none 0 0, .int .i64 0, .int .i64 0] 35)) := (Below.refl _ _).alloc (Nat.le_refl _) _
          have HOY := Lib.hid (HR.out.2.step hbY)
          have HLT := Lib.hid HR.out.2.a.lt
          have HBN := Lib.hid (Blk.new wr 35 #[.int .i64 2, .int .i64 (j : Int), .int .i64 ((j : Int) + 1), .slice none 0 0, .int .i64 0, .int .i64 0])
          have hGw : w.heap.size < wr.heap.size := HR.out.1.lt
          have HGY : Hid (Blk (wr.alloc (.cells #[.int .i64 2, .int .i64 (j : Int), .int .i64 ((j : Int) + 1), .slice none 0 0, .int .i64 0, .int .i64 0] 35)) w.heap.size 27 #[.slice A6 (n + 2) c6, .slice none 0 0, vA, vC]) := HR.out.1.below hbY hGw
          have q0 : wr.cell? ⟨w.heap.size, 2, none⟩ = some vA := HR.out.1.cell 2
          have hW0 : Z.heap.size ≤ (wr.alloc (.cells #[.int .i64 2, .int .i64 (j : Int), .int .i64 ((j : Int) + 1), .slice none 0 0, .int .i64 0, .int .i64 0] 35)).heap.size := Nat.le_trans HR.out.2.only.size hbY.size
          clear hbY
          go_upto_region 12 with (at_builtin; (refine wpList_append_item rfl _ _ _ rfl rowAtoms tells_atom (v := vA) (xs := atomsK j) (base := Z.heap.size) (S := fun _ => False) rfl HOY.out.a (g := wr.heap.size) (cs := #[.int .i64 2, .int .i64 (j : Int), .int .i64 ((j : Int) + 1), .slice none 0 0, .int .i64 0, .int .i64 0]) rfl HBN.out (y := ⟨2, (j : Int), ((j : Int) + 1), ⟨[], 0, 0⟩⟩) (vatom_plain (show I64 2 from i64_small (by omega)) (show I64 (j : Int) from i64_small (by omega)) (show I64 ((j : Int) + 1) from i64_small (by omega))) (fun b h => False.elim h) (by rw [atomsK_len]; unfold maxLen; omega) (by rw [atomsK_len]; omega) hW0 ?_); intro vx w6 hown6 hgrow6 hat6; obtain ⟨A7, c7, rfl, -, -⟩ := hown6.len; (have hl6 : (atomsK j ++ [(⟨2, (j : Int), ((j : Int) + 1), ⟨[], 0, 0⟩⟩ : AtomD)]).length = j + 1 := by rw [List.length_append, atomsK_len]; rfl); rw [hl6] at hown6 hat6 ⊢; clear hl6; (have hgb6 : Blk w6 w.heap.size 27 #[.slice A6 (n + 2) c6, .slice none 0 0, vA, vC] := HGY.out.grown hgrow6 (fun e => by have := (HLT.out _ e.symm).1; omega)); (have q6 : w6.cell? ⟨w.heap.size, 2, none⟩ = some vA := hgb6.cell 2); (have f6 : w6.frozen? ⟨w.heap.size, 2, none⟩ = false := hgb6.frozen 2); (have z6 : w.heap.size < w6.heap.size := hgb6.lt); (have HB6 := Lib.hid (And.intro hgb6 (And.intro hown6 (And.intro hgrow6 hat6)))); clear hgb6 hown6 hgrow6 hat6)
          obtain ⟨Z1, hZ1⟩ : ∃ Z1, w6.setCell ⟨w.heap.size, 2, none⟩ (.slice A7 (j + 1) c7) = Z1 := ⟨_, rfl⟩
          rw [hZ1]
          have HR1 : Hid (Blk Z1 w.heap.size 27 #[.slice A6 (n + 2) c6, .slice none 0 0, (.slice A7 (j + 1) c7), vC] ∧ Pair2 Z Z1 w.heap.size (.slice A7 (j + 1) c7) vC (atomsK j ++ [⟨2, (j : Int), (j : Int) + 1, ⟨[], 0, 0⟩⟩]) (clsK j)) := by
            rw [← hZ1]
            exact ⟨HB6.out.1.set_ 2 _, Pair2.atoms HOY.out HB6.out.2.1 HB6.out.2.2.1 HB6.out.2.2.2 2 _⟩
          clear hZ1 HB6 q6 f6 z6 q0 hW0 HOY HLT HBN HGY hGw
          obtain ⟨hbY, hk1, hk2, hsY⟩ := two_boxes Z1 3 31 #[.int .i64 ((j : Int) + 1)] #[.slice (some ⟨Z1.heap.size, 0, none⟩) 1 1]
          have HOY := Lib.hid (HR1.out.2.step hbY)
          have hla := HR1.out.2.a.lt
          have HLT := Lib.hid HR1.out.2.c.lt
          have hzo := HR1.out.2.only.size
          have hGw : w.heap.size < Z1.heap.size := HR1.out.1.lt
          have hvy : VArr AtInt 1 ((Z1.alloc (.cells #[.int .i64 ((j : Int) + 1)] 3)).alloc (.cells #[.slice (some ⟨Z1.heap.size, 0, none⟩) 1 1] 31)) (SC Z.heap.size ((Z1.alloc (.cells #[.int .i64 ((j : Int) + 1)] 3)).alloc (.cells #[.slice (some ⟨Z1.heap.size, 0, none⟩) 1 1] 31)) (.slice A7 (j + 1) c7) vC) (#[.slice (some ⟨Z1.heap.size, 0, none⟩) 1 1] : Array Value).toList [((j : Int) + 1)] := varr_of (row_ints (xs := [((j : Int) + 1)]) hk1 rfl (by intro x hx; rw [List.mem_singleton] at hx; subst hx; exact i64_small (by omega)) ⟨hzo, by rw [hsY]; omega, fun e => by have := (hla _ e).2; omega, fun e => by have := (HLT.out _ e).2; omega⟩) (Nat.le_refl _) (by decide)
          have HVY := Lib.hid hvy
          have HBN := Lib.hid hk2
          have HGY : Hid (Blk ((Z1.alloc (.cells #[.int .i64 ((j : Int) + 1)] 3)).alloc (.cells #[.slice (some ⟨Z1.heap.size, 0, none⟩) 1 1] 31)) w.heap.size 27 #[.slice A6 (n + 2) c6, .slice none 0 0, (.slice A7 (j + 1) c7), vC]) := HR1.out.1.below hbY hGw
          have q0 : Z1.cell? ⟨w.heap.size, 3, none⟩ = some vC := HR1.out.1.cell 3
          have hW0 : Z.heap.size ≤ ((Z1.alloc (.cells #[.int .i64 ((j : Int) + 1)] 3)).alloc (.cells #[.slice (some ⟨Z1.heap.size, 0, none⟩) 1 1] 31)).heap.size := by rw [hsY]; omega
          clear hbY hk1 hk2 hsY hla hvy hzo
          go_wp2_with (at_builtin; (refine wpList_append_item rfl _ _ _ rfl rowLits (tells_arr stays_int) (v := vC) (xs := clsK j) (base := Z.heap.size) (S := SC Z.heap.size ((Z1.alloc (.cells #[.int .i64 ((j : Int) + 1)] 3)).alloc (.cells #[.slice (some ⟨Z1.heap.size, 0, none⟩) 1 1] 31)) (.slice A7 (j + 1) c7) vC) rfl HOY.out.c (g := Z1.heap.size + 1) (cs := #[.slice (some ⟨Z1.heap.size, 0, none⟩) 1 1]) rfl HBN.out (y := [((j : Int) + 1)]) HVY.out (fun b h => ⟨h.2.1, h.2.2.2⟩) (by rw [clsK_len]; unfold maxLen; omega) (by rw [clsK_len]; omega) hW0 ?_); intro vx w6 hown6 hgrow6 hat6; obtain ⟨A8, c8, rfl, -, -⟩ := hown6.len; (have hl6 : (clsK j ++ [[((j : Int) + 1)]]).length = j + 1 := by rw [List.length_append, clsK_len]; rfl); rw [hl6] at hown6 hat6 ⊢; clear hl6; (have hgb6 : Blk w6 w.heap.size 27 #[.slice A6 (n + 2) c6, .slice none 0 0, (.slice A7 (j + 1) c7), vC] := HGY.out.grown hgrow6 (fun e => by have := (HLT.out _ e.symm).1; omega)); (have q6 : w6.cell? ⟨w.heap.size, 3, none⟩ = some vC := hgb6.cell 3); (have f6 : w6.frozen? ⟨w.heap.size, 3, none⟩ = false := hgb6.frozen 3); (have z6 : w.heap.size < w6.heap.size := hgb6.lt); (have HB6 := Lib.hid (And.intro hgb6 (And.intro hown6 (And.intro hgrow6 hat6)))); clear hgb6 hown6 hgrow6 hat6)
          go_roundw
          case rel =>
            obtain ⟨hgb6, hown6, hgrow6, hat6⟩ := HB6.out
            refine ⟨j + 1, (.slice A7 (j + 1) c7), (.slice A8 (j + 1) c8), by go_num, by omega, hgb6.set_ 3 _, ?_⟩
            rw [atomsK_next, clsK_next]
            exact Pair2.cls HOY.out hown6 hgrow6 hat6 3 _
          case measure => simp [intOf]; omega
        · have hiI : ¬ (j : Int) + 1 < (n : Int) := by omega
          have HJ : Hid (j + 1 = n) := by show _ = _; omega
          have hj9 : j ≤ 9 := by omega
          have hbY : Below wr.heap.size wr (wr.alloc (.cells #[.int .i64 2, .int .i64 (n : Int), .int .i64 ((n : Int) + 1), .slice none 0 0, .int .i64 0, .int .i64 0] 35)) := (Below.refl _ _).alloc (Nat.le_refl _) _
          have HOY := Lib.hid (HR.out.2.step hbY)
          have HLT := Lib.hid HR.out.2.a.lt
          have HBN := Lib.hid (Blk.new wr 35 #[.int .i64 2, .int .i64 (n : Int), .int .i64 ((n : Int) + 1), .slice none 0 0, .int .i64 0, .int .i64 0])
          have hGw : w.heap.size < wr.heap.size := HR.out.1.lt
          have HGY : Hid (Blk (wr.alloc (.cells #[.int .i64 2, .int .i64 (n : Int), .int .i64 ((n : Int) + 1), .slice none 0 0, .int .i64 0, .int .i64 0] 35)) w.heap.size 27 #[.slice A6 (n + 2) c6, .slice none 0 0, vA, vC]) := HR.out.1.below hbY hGw
          have q0 : wr.cell? ⟨w.heap.size, 2, none⟩ = some vA := HR.out.1.cell 2
          have hW0 : Z.heap.size ≤ (wr.alloc (.cells #[.int .i64 2, .int .i64 (n : Int), .int .i64 ((n : Int) + 1), .slice none 0 0, .int .i64 0, .int .i64 0] 35)).heap.size := Nat.le_trans HR.out.2.only.size hbY.size
          clear hbY
          go_upto_region 14 with (at_builtin; (refine wpList_append_item rfl _ _ _ rfl rowAtoms tells_atom (v := vA) (xs := atomsK j) (base := Z.heap.size) (S := fun _ => False) rfl HOY.out.a (g := wr.heap.size) (cs := #[.int .i64 2, .int .i64 (n : Int), .int .i64 ((n : Int) + 1), .slice none 0 0, .int .i64 0, .int .i64 0]) rfl HBN.out (y := ⟨2, (n : Int), ((n : Int) + 1), ⟨[], 0, 0⟩⟩) (vatom_plain (show I64 2 from i64_small (by omega)) (show I64 (n : Int) from i64_small (by omega)) (show I64 ((n : Int) + 1) from i64_small (by omega))) (fun b h => False.elim h) (by rw [atomsK_len]; unfold maxLen; omega) (by rw [atomsK_len]; omega) hW0 ?_); intro vx w6 hown6 hgrow6 hat6; obtain ⟨A7, c7, rfl, -, -⟩ := hown6.len; (have hl6 : (atomsK j ++ [(⟨2, (n : Int), ((n : Int) + 1), ⟨[], 0, 0⟩⟩ : AtomD)]).length = j + 1 := by rw [List.length_append, atomsK_len]; rfl); rw [hl6] at hown6 hat6 ⊢; clear hl6; (have hgb6 : Blk w6 w.heap.size 27 #[.slice A6 (n + 2) c6, .slice none 0 0, vA, vC] := HGY.out.grown hgrow6 (fun e => by have := (HLT.out _ e.symm).1; omega)); (have q6 : w6.cell? ⟨w.heap.size, 2, none⟩ = some vA := hgb6.cell 2); (have f6 : w6.frozen? ⟨w.heap.size, 2, none⟩ = false := hgb6.frozen 2); (have z6 : w.heap.size < w6.heap.size := hgb6.lt); (have HB6 := Lib.hid (And.intro hgb6 (And.intro hown6 (And.intro hgrow6 hat6)))); clear hgb6 hown6 hgrow6 hat6)
          obtain ⟨Z1, hZ1⟩ : ∃ Z1, w6.setCell ⟨w.heap.size, 2, none⟩ (.slice A7 (j + 1) c7) = Z1 := ⟨_, rfl⟩
          rw [hZ1]
          have HR1 : Hid (Blk Z1 w.heap.size 27 #[.slice A6 (n + 2) c6, .slice none 0 0, (.slice A7 (j + 1) c7), vC] ∧ Pair2 Z Z1 w.heap.size (.slice A7 (j + 1) c7) vC (atomsK j ++ [⟨2, (n : Int), (n : Int) + 1, ⟨[], 0, 0⟩⟩]) (clsK j)) := by
            rw [← hZ1]
            exact ⟨HB6.out.1.set_ 2 _, Pair2.atoms HOY.out HB6.out.2.1 HB6.out.2.2.1 HB6.out.2.2.2 2 _⟩
          clear hZ1 HB6 q6 f6 z6 q0 hW0 HOY HLT HBN HGY hGw
          obtain ⟨hbY, hk1, hk2, hsY⟩ := two_boxes Z1 3 31 #[.int .i64 (-(n : Int))] #[.slice (some ⟨Z1.heap.size, 0, none⟩) 1 1]
          have HOY := Lib.hid (HR1.out.2.step hbY)
          have hla := HR1.out.2.a.lt
          have HLT := Lib.hid HR1.out.2.c.lt
          have hzo := HR1.out.2.only.size
          have hGw : w.heap.size < Z1.heap.size := HR1.out.1.lt
          have hvy : VArr AtInt 1 ((Z1.alloc (.cells #[.int .i64 (-(n : Int))] 3)).alloc (.cells #[.slice (some ⟨Z1.heap.size, 0, none⟩) 1 1] 31)) (SC Z.heap.size ((Z1.alloc (.cells #[.int .i64 (-(n : Int))] 3)).alloc (.cells #[.slice (some ⟨Z1.heap.size, 0, none⟩) 1 1] 31)) (.slice A7 (j + 1) c7) vC) (#[.slice (some ⟨Z1.heap.size, 0, none⟩) 1 1] : Array Value).toList [(-(n : Int))] := varr_of (row_ints (xs := [(-(n : Int))]) hk1 rfl (by intro x hx; rw [List.mem_singleton] at hx; subst hx; exact i64_small (by omega)) ⟨hzo, by rw [hsY]; omega, fun e => by have := (hla _ e).2; omega, fun e => by have := (HLT.out _ e).2; omega⟩) (Nat.le_refl _) (by decide)
          have HVY := Lib.hid hvy
          have HBN := Lib.hid hk2
          have HGY : Hid (Blk ((Z1.alloc (.cells #[.int .i64 (-(n : Int))] 3)).alloc (.cells #[.slice (some ⟨Z1.heap.size, 0, none⟩) 1 1] 31)) w.heap.size 27 #[.slice A6 (n + 2) c6, .slice none 0 0, (.slice A7 (j + 1) c7), vC]) := HR1.out.1.below hbY hGw
          have q0 : Z1.cell? ⟨w.heap.size, 3, none⟩ = some vC := HR1.out.1.cell 3
          have hW0 : Z.heap.size ≤ ((Z1.alloc (.cells #[.int .i64 (-(n : Int))] 3)).alloc (.cells #[.slice (some ⟨Z1.heap.size, 0, none⟩) 1 1] 31)).heap.size := by rw [hsY]; omega
          clear hbY hk1 hk2 hsY hla hvy hzo
          go_upto_region 15 with (at_builtin; (refine wpList_append_item rfl _ _ _ rfl rowLits (tells_arr stays_int) (v := vC) (xs := clsK j) (base := Z.heap.size) (S := SC Z.heap.size ((Z1.alloc (.cells #[.int .i64 (-(n : Int))] 3)).alloc (.cells #[.slice (some ⟨Z1.heap.size, 0, none⟩) 1 1] 31)) (.slice A7 (j + 1) c7) vC) rfl HOY.out.c (g := Z1.heap.size + 1) (cs := #[.slice (some ⟨Z1.heap.size, 0, none⟩) 1 1]) rfl HBN.out (y := [(-(n : Int))]) HVY.out (fun b h => ⟨h.2.1, h.2.2.2⟩) (by rw [clsK_len]; unfold maxLen; omega) (by rw [clsK_len]; omega) hW0 ?_); intro vx w6 hown6 hgrow6 hat6; obtain ⟨A8, c8, rfl, -, -⟩ := hown6.len; (have hl6 : (clsK j ++ [[(-(n : Int))]]).length = j + 1 := by rw [List.length_append, clsK_len]; rfl); rw [hl6] at hown6 hat6 ⊢; clear hl6; (have hgb6 : Blk w6 w.heap.size 27 #[.slice A6 (n + 2) c6, .slice none 0 0, (.slice A7 (j + 1) c7), vC] := HGY.out.grown hgrow6 (fun e => by have := (HLT.out _ e.symm).1; omega)); (have q6 : w6.cell? ⟨w.heap.size, 3, none⟩ = some vC := hgb6.cell 3); (have f6 : w6.frozen? ⟨w.heap.size, 3, none⟩ = false := hgb6.frozen 3); (have z6 : w.heap.size < w6.heap.size := hgb6.lt); (have HB6 := Lib.hid (And.intro hgb6 (And.intro hown6 (And.intro hgrow6 hat6)))); clear hgb6 hown6 hgrow6 hat6)
          obtain ⟨Z2, hZ2⟩ : ∃ Z2, w6.setCell ⟨w.heap.size, 3, none⟩ (.slice A8 (j + 1) c8) = Z2 := ⟨_, rfl⟩
          rw [hZ2]
          have hP2 : Pair2 Z Z2 w.heap.size (.slice A7 (j + 1) c7) (.slice A8 (j + 1) c8) (atomsK j ++ [⟨2, (n : Int), (n : Int) + 1, ⟨[], 0, 0⟩⟩]) (clsK j ++ [[-(n : Int)]]) := by
            rw [← hZ2]
            exact Pair2.cls HOY.out HB6.out.2.1 HB6.out.2.2.1 HB6.out.2.2.2 3 _
          have hG2 : Blk Z2 w.heap.size 27 #[.slice A6 (n + 2) c6, .slice none 0 0, (.slice A7 (j + 1) c7), (.slice A8 (j + 1) c8)] := by rw [← hZ2]; exact HB6.out.1.set_ 3 _
          obtain ⟨A3, c3, e3, h3c, h3m, har3⟩ := hP2.a.reads tells_atom (E := AtAtom) (S' := fun b => b < Z2.heap.size) (fun _ _ _ _ _ h => atV_atom h) (fun b hb => False.elim hb) (fun g hg => (hP2.a.lt g hg).2)
          obtain ⟨A4, c4, e4, -, -, har4⟩ := hP2.c.reads (tells_arr stays_int) (E := AtArr AtInt 1) (S' := fun b => b < Z2.heap.size) (fun _ _ _ _ _ h => atV_arr.1 h) (fun b hb => hb.2.1) (fun g hg => (hP2.c.lt g hg).2)
          have hl3 : (atomsK j ++ [(⟨2, (n : Int), (n : Int) + 1, ⟨[], 0, 0⟩⟩ : AtomD)]).length = n := by rw [List.length_append, atomsK_len]; exact HJ.out
          have hl4 : (clsK j ++ [[-(n : Int)]]).length = n := by rw [List.length_append, clsK_len]; exact HJ.out
          rw [hl3] at har3 h3c e3
          rw [hl4] at har4 e4
          injection e3 with e31 e32 e33
          subst e31 e33
          injection e4 with e41 e42 e43
          subst e41 e43
          rw [e32] at hG2
          have hjn : n - 1 = j := by have := HJ.out; omega
          have hs3 : sameAtoms n = atomsK j ++ [⟨2, (n : Int), (n : Int) + 1, ⟨[], 0, 0⟩⟩] := by unfold sameAtoms; rw [hjn]; rfl
          have hs4 : sameCls n = clsK j ++ [[-(n : Int)]] := by unfold sameCls; rw [hjn]; rfl
          rw [← hs3] at har3
          rw [← hs4] at har4
          have hzZ2 := hP2.only.size
          have hFZ : FormB Z2 Z2.heap.size A6 none A7 A8 (n + 2) 0 n n (sameForm n) := ⟨HZ.out.2.2.1.keep stays_term (fun b hb => by omega) (fun b o hb => only_cell hP2.only hb.2 (by intro e; injection e with e; have := H.out.2.lt; omega)), Arr.nil_, har3, har4, by omega, by decide, by omega, by omega⟩
          have hbw2 : Below w.heap.size w Z2 := below_then HZ.out.1 hP2.only (by omega) (fun x hx => by injection hx; omega)
          have H2 := Lib.hid (And.intro hFZ (And.intro hbw2 (And.intro hG2 (And.intro HZ.out.2.2.2.1 (And.intro h3c h3m)))))
          have zG2 : w.heap.size < Z2.heap.size := hG2.lt
          rw [e32]
          clear e32 e42 hZ2 hP2 hG2 h3c h3m har3 har4 hl3 hl4 hjn hs3 hs4 hzZ2 hFZ hbw2 HB6 q6 f6 z6 q0 hW0 HOY HLT HBN HGY hGw HVY HR1 HR hiI hlt hj9 HJ
          go_wp2_with fail
          go_loopw [9, 10] (fun s9 s10 wr => ∃ (k : Nat), s10 = .int .i64 (k : Int) ∧ 1 ≤ k ∧ k ≤ n ∧ Hid (OwnV VInt 3 1 wr Z2.heap.size (fun _ => False) s9 (litsK (k - 1)) ∧ Below Z2.heap.size Z2 wr)) (fun _ s10 _ => n - (intOf s10).toNat)
          case atStart => exact ⟨1, rfl, Nat.le_refl _, by omega, OwnV.none_ _ _ _ _ _ _, Below.refl _ _⟩
          case round =>
            obtain ⟨k, rfl, hk1, hk, HR⟩ := hrel
            by_cases hlt : k < n
            · obtain ⟨A9, c9, rfl, -, -⟩ := HR.out.1.len
              have hiI : (k : Int) < (n : Int) := by omega
              have hzr := HR.out.2.size
              have HOY := Lib.hid (HR.out.1.kept tells_int (S' := fun _ => False) (only_alloc (only_refl wr none) (.cells #[.int .i64 (-(k : Int))] 3)) (by cases A9 <;> simp [Value.ownBlock]) (fun b hb => False.elim hb))
              have HLT := Lib.hid HR.out.1.lt
              have HBN := Lib.hid (Blk.new wr 3 #[.int .i64 (-(k : Int))])
              go_wp2_with (at_builtin; (refine wpList_append_item rfl _ _ _ rfl rowInts tells_int (v := .slice A9 (litsK (k - 1)).length c9) (xs := litsK (k - 1)) (base := Z2.heap.size) (S := fun _ => False) rfl HOY.out (g := wr.heap.size) (cs := #[.int .i64 (-(k : Int))]) rfl HBN.out (y := -(k : Int)) ⟨rfl, i64_small (by omega)⟩ (fun b h => False.elim h) (by rw [litsK_len]; unfold maxLen; omega) (by rw [litsK_len]; omega) (by simp; omega) ?_); intro v' w6 hown6 hgrow6 hat6; (have HB6 := Lib.hid (And.intro hown6 hgrow6)); clear hown6 hgrow6 hat6)
              go_roundw
              case rel =>
                have e : litsK (k + 1 - 1) = litsK (k - 1) ++ [-(k : Int)] := by
                  obtain ⟨j, rfl⟩ : ∃ j, k = j + 1 := ⟨k - 1, by omega⟩
                  rw [show j + 1 + 1 - 1 = j + 1 by omega, show j + 1 - 1 = j by omega, litsK_next]
                  rfl
                refine ⟨k + 1, by go_num, by omega, by omega, ?_, below_then (HR.out.2.alloc HR.out.2.size _) HB6.out.2 (by simp; omega) (fun x hx => (HLT.out x hx).1)⟩
                rw [e]
                exact HB6.out.1
              case measure => simp [intOf]; omega
            · have hiI : ¬ (k : Int) < (n : Int) := by omega
              have hkn : k = n := by omega
              obtain ⟨N, hN⟩ : ∃ N, k - 1 = N := ⟨_, rfl⟩
              have hNn : n = N + 1 := by omega
              obtain ⟨gL, cL, e9, hgL, hgLs, hcL, hcLm⟩ := HR.out.1.form (by rw [litsK_len]; omega)
              have HRL := HR.out.1
              rw [hN] at e9 hcL HRL
              rw [litsK_len] at e9 hcL
              subst e9
              have harL := HRL.reads tells_int (E := AtInt) (S' := fun b => b = gL) (fun _ _ _ _ _ h => atV_int.1 h) (fun b hb => False.elim hb) (fun g hg => by have e' : some gL = some g := hg; injection e' with e'; exact e'.symm)
              obtain ⟨A9, c9, e9, -, -, harL⟩ := harL
              rw [litsK_len] at e9 harL
              injection e9 with e91 e92 e93
              subst e91
              clear e92 e93
              obtain ⟨wo, rfl⟩ : ∃ wo : World, wo = wr := ⟨_, rfl⟩
              have hNI : (n : Int) - 1 = (N : Int) := by omega
              have hN1 : 1 ≤ N := by omega
              have hN8 : N ≤ 8 := by omega
              obtain ⟨g, hg⟩ : ∃ g : Nat, b % (N : Int) = (g : Int) := ⟨(b % (N : Int)).toNat, by have := Int.emod_nonneg b (show (N : Int) ≠ 0 by omega); omega⟩
              have hgN : g < N := by have := Int.emod_lt_of_pos b (show (0 : Int) < (N : Int) by omega); omega
              have HP := Lib.hid (fun (W : World) => picked_any b (N : Int) (g : Int) W HBB.out (by omega) (by omega) hg)
              have HT1 := Lib.hid (Arr.take harL (Nat.le_of_lt hgN))
              have HL := Lib.hid (And.intro HRL (And.intro HR.out.2 (And.intro harL (And.intro hcLm (And.intro hgL hNn)))))
              have hgc : (g : Int) ≤ (cL : Int) := by omega
              have hgw : gL < wo.heap.size := hgLs
              clear hg harL HRL HR hk1 hk hlt hkn hN hcLm hgL hgLs hNn
              obtain ⟨M, hM⟩ : ∃ M, (sameFew n g).length = M := ⟨_, rfl⟩
              have hsA : sameAll n = litsK N := by unfold sameAll litsK; rw [show n - 1 = N by have := HL.out.2.2.2.2.2; omega]
              have hsF : sameFew n g = (litsK N).take g ++ (litsK N).drop (g + 1) := by unfold sameFew; rw [hsA]
              have hM8 : M ≤ 16 := by rw [← hM, hsF, List.length_append, List.length_take, List.length_drop, litsK_len]; omega
              have HMF := Lib.hid (And.intro hM (And.intro hsA hsF))
              have hgL : Z2.heap.size ≤ gL := HL.out.2.2.2.2.1
              clear hM hsA hsF
              go_upto_region 20 with fail
              go_cut [11] (fun s11 wx => ∃ (AF : Option Addr) (cF : Nat), s11 = .slice AF M cF ∧ Hid (OwnV VInt 3 1 wx Z2.heap.size (fun _ => False) (.slice AF M cF) (sameFew n g) ∧ OwnV VInt 3 1 wx Z2.heap.size (fun _ => False) (.slice (some ⟨gL, 0, none⟩) N cL) (litsK N) ∧ Below Z2.heap.size Z2 wx ∧ (Value.slice AF M cF).ownBlock ≠ some gL))
              case first =>
                go_wp2_with fail
                refine (HP.out _).mono ?_
                rintro e w9 ⟨rfl, rfl⟩
                go_wp2_with (at_builtin; (refine wpList_append_many rfl _ _ _ rfl rowInts tells_int (v := .slice none 0 0) (xs := []) (base := wo.heap.size) (S := fun b => b = gL) rfl (OwnV.none_ _ _ _ _ _ _) (E := AtInt) (fun _ _ _ _ _ h => atV_int.2 h) (A := some ⟨gL, 0, none⟩) (m := g) (c := cL) rfl HT1.out (fun b h => ⟨by subst h; omega, by simp [Value.ownBlock]⟩) (by simp; unfold maxLen; omega) (by simp; omega) (Nat.le_refl _) ?_); intro v' w6 hown6 hgrow6 hat6; (have HB6 := Lib.hid (And.intro hown6 hgrow6)); clear hown6 hgrow6 hat6)
                refine (HP.out _).mono ?_
                rintro e w9 ⟨rfl, rfl⟩
                have hz6 : wo.heap.size ≤ w6.heap.size := HB6.out.2.size
                have hg1 : (g : Int) + 1 ≤ (N : Int) := by omega
                have hcL2 : (N : Int) ≤ (cL : Int) := by omega
                have htell : Arr AtInt 1 w6 (fun b => b = gL) (some ⟨gL, 0, none⟩) N (litsK N) := HL.out.2.2.1.keep stays_int (fun _ h => h) (fun b o hb => only_cell HB6.out.2 (by rw [hb]; exact hgw) (by simp [Value.ownBlock]))
                by_cases hcg : cL = g + 1
                rotate_left
                have hcg2 : (g : Int) + 1 < (cL : Int) := by omega
                have HT2 := Lib.hid (Arr.dropS htell (show g + 1 ≤ N by omega))
                clear htell
                rotate_left
                have HT0 : Hid (∀ A : Option Addr, Arr AtInt 1 w6 (fun b => b = gL) A (N - (g + 1)) ((litsK N).drop (g + 1))) := by
                  intro A0
                  rw [List.drop_of_length_le (by rw [litsK_len]; omega), show N - (g + 1) = 0 by omega]
                  exact ⟨rfl, fun i x hx => by simp at hx⟩
                have hcz : cL - (g + 1) = 0 := by omega
                clear htell hcg
                all_goals
                  go_wp2_with first | (at_builtin; (refine wpList_append_many rfl _ _ _ rfl rowInts tells_int (v := v') (xs := (litsK N).take g) (base := wo.heap.size) (S := fun b => b = gL) rfl HB6.out.1 (E := AtInt) (fun _ _ _ _ _ h => atV_int.2 h) (A := some ⟨gL, g + 1, none⟩) (m := N - (g + 1)) rfl (by first | exact HT2.out | exact HT0.out _) (ys := (litsK N).drop (g + 1)) (fun b h => ⟨by subst h; omega, fun e => by have := (HB6.out.1.lt _ e).1; omega⟩) (by simp; unfold maxLen; omega) (by simp; omega) hz6 ?_); intro vF w7 hown7 hgrow7 hat7; (have HB7 := Lib.hid (And.intro hown7 hgrow7)); clear hown7 hgrow7 hat7) | (at_builtin; (refine wpList_append_many rfl _ _ _ rfl rowInts tells_int (v := v') (xs := (litsK N).take g) (base := wo.heap.size) (S := fun b => b = gL) rfl HB6.out.1 (E := AtInt) (fun _ _ _ _ _ h => atV_int.2 h) (A := some ⟨gL, 0, none⟩) (m := 0) rfl (by have h0 := HT0.out (some ⟨gL, 0, none⟩); rwa [show N - (g + 1) = 0 by omega] at h0) (ys := (litsK N).drop (g + 1)) (fun b h => ⟨by subst h; omega, fun e => by have := (HB6.out.1.lt _ e).1; omega⟩) (by simp; unfold maxLen; omega) (by simp; omega) hz6 ?_); intro vF w7 hown7 hgrow7 hat7; (have HB7 := Lib.hid (And.intro hown7 hgrow7)); clear hown7 hgrow7 hat7) | (at_builtin; (refine wpList_append_many rfl _ _ _ rfl rowInts tells_int (v := v') (xs := (litsK N).take g) (base := wo.heap.size) (S := fun b => b = gL) rfl HB6.out.1 (E := AtInt) (fun _ _ _ _ _ h => atV_int.2 h) (A := some ⟨gL, 0, none⟩) (m := N - (g + 1)) rfl (by first | exact HT2.out | exact HT0.out _) (ys := (litsK N).drop (g + 1)) (fun b h => ⟨by subst h; omega, fun e => by have := (HB6.out.1.lt _ e).1; omega⟩) (by simp; unfold maxLen; omega) (by simp; omega) hz6 ?_); intro vF w7 hown7 hgrow7 hat7; (have HB7 := Lib.hid (And.intro hown7 hgrow7)); clear hown7 hgrow7 hat7) | (at_builtin; (refine wpList_append_many rfl _ _ _ rfl rowInts tells_int (v := v') (xs := (litsK N).take g) (base := wo.heap.size) (S := fun b => b = gL) rfl HB6.out.1 (E := AtInt) (fun _ _ _ _ _ h => atV_int.2 h) (A := some ⟨gL, g + 1, none⟩) (m := 0) rfl (by have h0 := HT0.out (some ⟨gL, g + 1, none⟩); rwa [show N - (g + 1) = 0 by omega] at h0) (ys := (litsK N).drop (g + 1)) (fun b h => ⟨by subst h; omega, fun e => by have := (HB6.out.1.lt _ e).1; omega⟩) (by simp; unfold maxLen; omega) (by simp; omega) hz6 ?_); intro vF w7 hown7 hgrow7 hat7; (have HB7 := Lib.hid (And.intro hown7 hgrow7)); clear hown7 hgrow7 hat7)
                  have hzo := HL.out.2.1.size
                  have hl7 := HB7.out.1.lt
                  have hl6 := HB6.out.1.lt
                  have hF7 : OwnV VInt 3 1 w7 Z2.heap.size (fun _ => False) vF (sameFew n g) := by rw [HMF.out.2.2]; exact own_intS HB7.out.1 hzo
                  have hL7 : OwnV VInt 3 1 w7 Z2.heap.size (fun _ => False) (.slice (some ⟨gL, 0, none⟩) N cL) (litsK N) := (HL.out.1.kept tells_int (S' := fun _ => False) HB6.out.2 (by simp [Value.ownBlock]) (fun b hb => False.elim hb)).kept tells_int HB7.out.2 (.inr (fun e => by have e' : v'.ownBlock = some gL := e.symm; have := (hl6 _ e').1; omega)) (fun b hb => False.elim hb)
                  have hb7 : Below Z2.heap.size Z2 w7 := below_then (below_then HL.out.2.1 HB6.out.2 hzo (fun x hx => by simp [Value.ownBlock] at hx)) HB7.out.2 (by omega) (fun x hx => by have := (hl6 x hx).1; omega)
                  have hFne : vF.ownBlock ≠ some gL := fun e => by have := (hl7 _ e).1; omega
                  obtain ⟨AF, cF, rfl, -, -⟩ := hF7.len
                  rw [HMF.out.1] at hF7 hFne ⊢
                  go_meet
                  exact ⟨AF, cF, rfl, hF7, hL7, hb7, hFne⟩
              case rest =>
                obtain ⟨w7, rfl⟩ : ∃ w7 : World, w7 = wc := ⟨_, rfl⟩
                obtain ⟨AF, cF, rfl, HCUT⟩ := hcut
                have hNn := HL.out.2.2.2.2.2
                have hlaw := same_law (n := n) (g := g) hn2 hn9 (by omega)
                rw [HMF.out.2.1] at hlaw
                have HLAW := Lib.hid hlaw
                have H7 := Lib.hid (And.intro HCUT.out.1 (And.intro HCUT.out.2.1 (And.intro HCUT.out.2.2.1 (And.intro HCUT.out.2.2.2 HMF.out.1))))
                have hk7 := H2.out.2.2.1.below HCUT.out.2.2.1 zG2
                have HKG := Lib.hid hk7
                have hgw7 : gL < w7.heap.size := (HCUT.out.2.1.lt gL rfl).2
                have hz7 : Z2.heap.size ≤ w7.heap.size := HCUT.out.2.2.1.size
                clear hNn hlaw hk7 HP HT1 hgc hgw hNI HCUT
                go_upto_region 21 with fail
                go_cut [12, 13] (fun s12 s13 wx => ∃ e13 : Nat, s12 = .bool true ∧ s13 = .pointer (some ⟨e13, 0, none⟩) ∧ e13 < wx.heap.size ∧ wx.cell? ⟨e13, 0, none⟩ = some (.int .i64 0) ∧ Hid (Below Z2.heap.size Z2 wx ∧ OwnV VInt 3 1 wx Z2.heap.size (fun _ => False) (.slice AF M cF) (sameFew n g) ∧ (Value.slice AF M cF).ownBlock ≠ some e13))
                case first =>
                  rename_i J K2 hJ hK
                  refine wp_mono (same21 w Z2 n A6 A7 A8 AF c6 c7 c8 cF M hn2 hn9 H2 zG2 w7 N gL cL (sameFew n g) hN1 hN8 hgL (Lib.hid HLAW.out.1) H7 HKG hgw7 hz7 _ _ _ _ _ _ _ _ _ _ _ _ _ _ _ _ _ _ _ _ _ _ _ _ _ _ _ _ _ _ _ _ _ _ _ _ _ _ _ _ _ _ _ _ _ _ _ _ _ _ _ _ _ _ _ _ _ _ _ _ _ _ _ _ _ _ _ _ _ _ _ _ _ _ _ _ _ _ _ _ _ _ _ _ _ _ _ _ _ _ _ _ _ _ _ _ _ _ _ _ _ _ _ _ _ _ _ _ _ _ _ _ _ _ _ _ _ _ _ _ _ _ _ _ _ _ _ _ _ _ _ _ _ _ _ _ _ _ _ _ _ _ _) ?_
                  intro ex a2 wx hq
                  cases ex with
                  | normal =>
                    obtain ⟨e13, _, _, _, _, _, _, _, _, _, _, _, _, hr, rfl⟩ := hq
                    refine hK _ _ (Met.intro (hJ _ _ ?_))
                    repeat apply Exists.intro
                    exact ⟨⟨e13, rfl, rfl, hr⟩, rfl⟩
                  | exit _ => exact False.elim hq
                  | goto _ => exact False.elim hq
                  | ret => exact False.elim hq
                  | panic _ => exact False.elim hq
                  | outgrown => exact False.elim hq
                case rest =>
                obtain ⟨wb, rfl⟩ : ∃ wb : World, wb = wc := ⟨_, rfl⟩
                obtain ⟨e13, rfl, rfl, he13, hc13, HCUT2⟩ := hcut
                have hk8 := H2.out.2.2.1.below HCUT2.out.1 zG2
                have HKG := Lib.hid hk8
                have HLF := Lib.hid HCUT2.out.2.1.lt
                have hzb : Z2.heap.size ≤ wb.heap.size := HCUT2.out.1.size
                clear hk8
                go_upto_region 22 with fail
                go_cut [14, 15] (fun s14 s15 wx => ∃ e15 : Nat, s14 = .int .i64 0 ∧ s15 = .pointer (some ⟨e15, 0, none⟩) ∧ e15 < wx.heap.size ∧ wx.cell? ⟨e15, 0, none⟩ = some (.int .i64 0) ∧ wx.cell? ⟨e13, 0, none⟩ = some (.int .i64 0) ∧ e13 < wx.heap.size ∧ Hid (Below Z2.heap.size Z2 wx))
                case first =>
                  rename_i J K2 hJ hK
                  refine wp_mono (same22 w Z2 n A6 A7 A8 AF c6 c7 c8 cF M hn2 hn9 hM8 H2 zG2 wb (sameFew n g) e13 he13 hc13 HMF.out.1 (Lib.hid HLAW.out.2) HCUT2 HKG HLF hzb _ _ _ _ _ _ _ _ _ _ _ _ _ _ _ _ _ _ _ _ _ _ _ _ _ _ _ _ _ _ _ _ _ _ _ _ _ _ _ _ _ _ _ _ _ _ _ _ _ _ _ _ _ _ _ _ _ _ _ _ _ _ _ _ _ _ _ _ _ _ _ _ _ _ _ _ _ _ _ _ _ _ _ _ _ _ _ _ _ _ _ _ _ _ _ _ _ _ _ _ _ _ _ _ _ _ _ _ _ _ _ _ _ _ _ _ _ _ _ _ _ _ _ _ _ _ _ _ _ _ _ _ _ _ _ _ _ _ _ _ _ _ _ _) ?_
                  intro ex a2 wx hq
                  cases ex with
                  | normal =>
                    obtain ⟨e15, _, _, _, _, _, _, _, _, _, _, _, _, hr, rfl⟩ := hq
                    refine hK _ _ (Met.intro (hJ _ _ ?_))
                    repeat apply Exists.intro
                    exact ⟨⟨e15, rfl, rfl, hr⟩, rfl⟩
                  | exit _ => exact False.elim hq
                  | goto _ => exact False.elim hq
                  | ret => exact False.elim hq
                  | panic _ => exact False.elim hq
                  | outgrown => exact False.elim hq
                case rest =>
                  obtain ⟨wd, rfl⟩ : ∃ wd : World, wd = wc := ⟨_, rfl⟩
                  obtain ⟨e15, rfl, rfl, he15, hc15, hc13, he13, HCUT3⟩ := hcut
                  go_wp2_with fail
                  go_ret
                  exact ⟨rfl, H2.out.2.1.trans (HCUT3.out.mono H2.out.2.1.size)⟩
end Go.Proofs.Ytdncchlfeanlmaa
