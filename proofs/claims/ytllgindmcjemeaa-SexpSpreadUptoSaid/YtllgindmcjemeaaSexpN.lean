/- Walk: Text of the program. -/
import Derived.Test.YtllgindmcjemeaaSexpM
import Derived.Test.YtllgindmcjemeaaSexpE
import Derived.RegionTactic
namespace Go.Proofs.Ytllgindmcjemeaa
open Go.RowKit

theorem chk_zero (f : Fo) (h : (chk f).1 = 0) : (chk f).2 = 0 ∧ (flt f 0 0).1 = 0 ∧ f.cnt ≤ 4000 := by
  unfold chk at h ⊢
  by_cases hm : 4000 < f.cnt
  · rw [if_pos hm] at h; simp at h
  · rw [if_neg hm] at h ⊢
    exact ⟨flt_zero f 0 0 h, h, by omega⟩
/-- what Text tells of a forest: the text, the fault's code and place -/
def txtR (f : Fo) : List UInt8 × Int × Int := if (chk f).1 = 0 then (if 4000 < (lns f).length then ([], 10, 0) else (lns f, 0, 0)) else ([], (chk f).1, (chk f).2)

set_option maxHeartbeats 2000000 in
theorem text_any (f : Fo) (A : Option Addr) (n c : Nat) (w : World) (hf : LiesB w w.heap.size f A 0 n) (hm : f.cnt ≤ 2000000) (t : List UInt8) (rc ra : Int) (hq : txtR f = (t, rc, ra)) :
    Calls Try.prog 18 #[.slice A n c] w fun e w' => e = .returned (.tuple #[.string ⟨t.toArray⟩, .agg #[.int .i64 rc, .int .i64 ra]]) ∧ Below w.heap.size w w' := by
  have hn := Lies.len _ _ _ _ hf
  have hn2 := Fo.len_le f
  have hn3 : n ≤ 4000000 := by omega
  have HQ := Lib.hid hq
  have hl1 : LiesB (w.alloc (.cells #[.int .i64 0, .int .i64 0] 24)) (w.heap.size + 1) f A 0 n := LiesB.below hf ((Below.refl _ _).alloc (Nat.le_refl _) _) (Nat.le_succ _)
  rcases hck : chk f with ⟨qc, qa⟩
  have HCK := Lib.hid hck
  clear hq hn hn2 hck
  go_enter Try.func18, Try.ntmps18
  go_wp2_with fail
  refine (check_any f A n c _ (by simpa using hl1) hm qc qa HCK.out).mono ?_
  rintro e w1 ⟨rfl, hb1⟩
  have hblk := (Blk.new w 24 #[.int .i64 0, .int .i64 0]).below hb1 (by simp)
  have hbel : Below w.heap.size w w1 := ((Below.refl _ _).alloc (Nat.le_refl _) _).trans (hb1.mono (by simp))
  have hz : w.heap.size < w1.heap.size := hblk.lt
  have c0 : w1.cell? ⟨w.heap.size, 0, none⟩ = some (.int .i64 0) := hblk.cell 0
  have c1 : w1.cell? ⟨w.heap.size, 1, none⟩ = some (.int .i64 0) := hblk.cell 1
  have z0 : w1.frozen? ⟨w.heap.size, 0, none⟩ = false := hblk.frozen 0
  have z1 : w1.frozen? ⟨w.heap.size, 1, none⟩ = false := hblk.frozen 1
  by_cases hqc : qc = 0
  · subst hqc
    have hck0 := chk_zero f (by rw [HCK.out])
    rw [HCK.out] at hck0
    obtain ⟨hqa, hgood, h4000⟩ := hck0
    simp only at hqa
    subst hqa
    have hts := tsz_good f 0 0 hgood
    have hll := lns_le f
    have hlf : (lns f).length ≤ 27 * 4000 := by omega
    have HT : Hid ((if 4000 < (lns f).length then ([], 10, 0) else (lns f, 0, 0)) = (t, rc, ra)) := by
      have := HQ.out
      rw [txtR, if_pos (by rw [HCK.out])] at this
      exact this
    have hfl : LiesB w1 w.heap.size f A 0 n := LiesB.below hf hbel (Nat.le_refl _)
    have hfl2 : LiesB ((w1.alloc (.cells #[.int .i64 0, .int .i64 0] 24)).alloc (.cells #[.pointer none, .slice none 0 0] 90)) (w1.heap.size + 1) f A 0 n := LiesB.below hfl (((Below.refl _ _).alloc (by omega) _).alloc (by simp; omega) _) (by omega)
    have hblkB := Blk.new (w1.alloc (.cells #[.int .i64 0, .int .i64 0] 24)) 90 #[.pointer none, .slice none 0 0]
    rw [World.size_alloc] at hblkB
    have hB : IsB (w1.heap.size + 1) (w1.heap.size + 1) (Lib.byteCells []) ((w1.alloc (.cells #[.int .i64 0, .int .i64 0] 24)).alloc (.cells #[.pointer none, .slice none 0 0] 90)) := by
      refine .inl ⟨Nat.le_refl _, .slice none 0 0, hblkB, ?_, by simp [Value.ownBlock]⟩
      exact ⟨rfl, .inl ⟨rfl, rfl⟩⟩
    have hblkF := (hblk.alloc (.cells #[.int .i64 0, .int .i64 0] 24)).alloc (.cells #[.pointer none, .slice none 0 0] 90)
    have hbel2 := (hbel.alloc (by omega) (.cells #[.int .i64 0, .int .i64 0] 24)).alloc (by simp; omega) (.cells #[.pointer none, .slice none 0 0] 90)
    have HX := Lib.hid (And.intro hB (And.intro hfl2 (And.intro hblkF (And.intro hbel2 hblkB))))
    clear hb1 hblk hbel hf hl1 hfl hfl2 hblkB hB hblkF hbel2 hts hll hgood HQ HCK c0 c1 z0 z1
    go_wp2_with fail
    go_loopw [16] (fun i wr => ∃ (f' : Fo) (j : Nat) (ac : List UInt8), i = .int .i64 j ∧ f'.cnt ≤ f.cnt ∧ Hid (ac ++ lns f' = lns f) ∧ IsB (w1.heap.size + 1) (w1.heap.size + 1) (Lib.byteCells ac) wr ∧ LiesB wr (w1.heap.size + 1) f' A j n ∧ Below w.heap.size w wr ∧ Blk wr w.heap.size 24 #[.int .i64 0, .int .i64 0] ∧ w1.heap.size + 1 < wr.heap.size ∧ Hid (ac = [] → Blk wr (w1.heap.size + 1) 90 #[.pointer none, .slice none 0 0])) (fun i _ => n - (intOf i).toNat)
    case atStart => exact ⟨f, 0, [], rfl, Nat.le_refl _, rfl, HX.out.1, HX.out.2.1, HX.out.2.2.2.1, HX.out.2.2.1, by simp, fun _ => HX.out.2.2.2.2⟩
    case round =>
      obtain ⟨f', j, ac, rfl, hc, HA, hB, hl, hbel, hblk, hz2, HF⟩ := hrel
      clear HX
      have hlen : ac.length + (lns f').length = (lns f).length := by
        have := congrArg List.length HA.out; simpa using this
      cases f' with
      | nil =>
        obtain rfl : j = n := hl
        have hac : ac = lns f := by have := HA.out; simpa [lns] using this
        have HAC := Lib.hid hac
        have HB := Lib.hid hB
        clear hB hac HA hlen
        go_wp2_with fail
        refine (bLen_any _ _ _ _ HB.out).mono ?_
        rintro e w2 ⟨rfl, rfl⟩
        rw [Lib.byteCells_length]
        have c0 : wr.cell? ⟨w.heap.size, 0, none⟩ = some (.int .i64 0) := hblk.cell 0
        have c1 : wr.cell? ⟨w.heap.size, 1, none⟩ = some (.int .i64 0) := hblk.cell 1
        have z0 : wr.frozen? ⟨w.heap.size, 0, none⟩ = false := hblk.frozen 0
        have z1 : wr.frozen? ⟨w.heap.size, 1, none⟩ = false := hblk.frozen 1
        by_cases hbig : 4000 < ac.length
        · have e := HT.out
          rw [← HAC.out, if_pos hbig] at e
          simp only [Prod.mk.injEq] at e
          obtain ⟨rfl, rfl, rfl⟩ := e
          go_wp2_with fail
          refine bodyPost_ret (v := .tuple #[.string ⟨#[]⟩, .agg #[.int .i64 10, .int .i64 0]]) (by simp [results, Try.results18, go_sem, c0, c1]) rfl ⟨rfl, ?_⟩
          exact (hbel.setCell (p := ⟨w.heap.size, 0, none⟩) (Nat.le_refl _) _).setCell (p := ⟨w.heap.size, 1, none⟩) (Nat.le_refl _) _
        · have e := HT.out
          rw [← HAC.out, if_neg hbig] at e
          simp only [Prod.mk.injEq] at e
          obtain ⟨rfl, rfl, rfl⟩ := e
          clear HT HAC c0 c1 z0 z1
          have hstr : Calls Try.prog 43 #[.pointer (some ⟨w1.heap.size + 1, 0, none⟩)] wr fun e w' => e = .returned (.string ⟨ac.toArray⟩) ∧ Wrote (w1.heap.size + 1) (w1.heap.size + 1) wr w' := by
            by_cases hnil : ac = []
            · subst hnil
              exact bString_none _ _ _ (HF.out rfl)
            · exact bString_some _ _ _ _ HB.out hnil
          have HS := Lib.hid hstr
          clear hstr HB HF
          go_wp2_with fail
          refine HS.out.mono ?_
          rintro e w3 ⟨rfl, hw3⟩
          have hblk3 := hblk.below hw3.1 (by omega)
          have hbel3 : Below w.heap.size w w3 := hbel.trans (hw3.1.mono (by omega))
          have c0 : w3.cell? ⟨w.heap.size, 0, none⟩ = some (.int .i64 0) := hblk3.cell 0
          have c1 : w3.cell? ⟨w.heap.size, 1, none⟩ = some (.int .i64 0) := hblk3.cell 1
          have z0 : w3.frozen? ⟨w.heap.size, 0, none⟩ = false := hblk3.frozen 0
          have z1 : w3.frozen? ⟨w.heap.size, 1, none⟩ = false := hblk3.frozen 1
          clear hblk3 hw3 hblk hbel HS
          go_wp2_with fail
          refine bodyPost_ret (v := .tuple #[.string ⟨ac.toArray⟩, .agg #[.int .i64 0, .int .i64 0]]) (by simp [results, Try.results18, go_sem, c0, c1]) rfl ⟨rfl, ?_⟩
          exact (hbel3.setCell (p := ⟨w.heap.size, 0, none⟩) (Nat.le_refl _) _).setCell (p := ⟨w.heap.size, 1, none⟩) (Nat.le_refl _) _
      | cons wd' ls' ks' nx =>
        obtain ⟨hi, p, off, A', n', c', rfl, hb, h0, h1, h2, hsz, hks, hnx⟩ := hl
        have hcnt : (Fo.cons wd' ls' ks' nx).cnt = 1 + ks'.cnt + nx.cnt := rfl
        have e6 : nx.cnt ≤ f.cnt := by omega
        have e7 : ks'.cnt ≤ 4000000 := by omega
        have HJ : Hid (ac ++ one wd' ls' ks' ++ [10] ++ lns nx = lns f) := by
          have := HA.out
          show _ = _
          rw [← this]; simp [lns]
        simp [lns] at hlen
        have hB5 := Lib.IsBuilderF.alloc hB (.cells #[.string wd', .bool ls', .slice A' n' c'] 86)
        have hks5 : LiesB (wr.alloc (.cells #[.string wd', .bool ls', .slice A' n' c'] 86)) (w1.heap.size + 1) ks' A' 0 n' := LiesB.alloc hks (by omega) _
        have hnx5 : LiesB (wr.alloc (.cells #[.string wd', .bool ls', .slice A' n' c'] 86)) (w1.heap.size + 1) nx (some ⟨p, off, none⟩) (j + 1) n := LiesB.alloc hnx (by omega) _
        have hbel5 := hbel.alloc (by omega) (.cells #[.string wd', .bool ls', .slice A' n' c'] 86)
        have hblk5 := hblk.alloc (.cells #[.string wd', .bool ls', .slice A' n' c'] 86)
        have hcall := write_any (ks'.cnt + 1) wd' ls' ks' A' n' c' _ _ ac _ (by omega) hks5 e7 hB5 (by simp; omega) (by simp; omega) hsz (by omega)
        have HZ := Lib.hid (And.intro hcall (And.intro hbel5 (And.intro hblk5 hnx5)))
        clear hB hks hnx hcnt HA hB5 hks5 hnx5 hbel5 hblk5 hcall hbel hblk HF
        go_wp2_with fail
        refine HZ.out.1.mono ?_
        rintro e w6 ⟨rfl, hB6, hw6⟩
        have hz6 : wr.heap.size + 1 ≤ w6.heap.size := by have := hw6.1.size; simpa using this
        go_wp2_with fail
        refine (writeByte_any _ _ _ 10 _ hB6 (by rw [Lib.byteCells_length]; simp; omega) (by omega)).mono ?_
        rintro e w7 ⟨rfl, hB7, hw7⟩
        have hz7 := hw7.1.size
        obtain ⟨_, hbel5, hblk5, hnx5⟩ := HZ.out
        have hw8 := hw6.trans hw7
        have hnx8 := hnx5.below hw8.1 (Nat.le_refl _)
        have hbel8 : Below w.heap.size w w7 := hbel5.trans (hw8.1.mono (by omega))
        have hblk8 := hblk5.below hw8.1 (by omega)
        have hB8 : IsB (w1.heap.size + 1) (w1.heap.size + 1) (Lib.byteCells (ac ++ one wd' ls' ks' ++ [10])) w7 := by rw [Lib.byteCells_append]; exact hB7
        clear hB6 hw6 hB7 hw7 hbel5 hblk5 hnx5 hw8 HZ
        go_wp2_with fail
        go_roundw
        case rel => exact ⟨nx, j + 1, _, by go_num, e6, HJ, hB8, hnx8, hbel8, hblk8, by omega, fun h => by simp at h⟩
        case measure => simp [intOf]; omega
  · have hqb : (qc != 0) = true := by rw [bne_iff_ne]; exact hqc
    have e : ([], qc, qa) = (t, rc, ra) := by
      rw [← HQ.out, txtR, if_neg (by rw [HCK.out]; exact hqc), HCK.out]
    simp only [Prod.mk.injEq] at e
    obtain ⟨rfl, rfl, rfl⟩ := e
    clear hb1 hblk hf hl1 hqc HQ HCK
    go_wp2_with fail
    go_region
    go_wp2_with fail
    refine bodyPost_ret (v := .tuple #[.string ⟨#[]⟩, .agg #[.int .i64 qc, .int .i64 qa]]) (by simp [results, Try.results18, go_sem, c0, c1, hz]) rfl ⟨rfl, ?_⟩
    exact (((hbel.setCell (p := ⟨w.heap.size, 0, none⟩) (Nat.le_refl _) _).setCell (p := ⟨w.heap.size, 1, none⟩) (Nat.le_refl _) _).alloc (by simp; omega) _).drew
end Go.Proofs.Ytllgindmcjemeaa
