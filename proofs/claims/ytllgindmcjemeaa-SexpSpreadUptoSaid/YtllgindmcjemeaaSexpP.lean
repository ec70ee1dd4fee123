/- Walks: the reference's text of expressions; the law that compares the two texts. -/
import Derived.Test.YtllgindmcjemeaaSexpN
namespace Go.Proofs.Ytllgindmcjemeaa
open Go.RowKit

theorem app_data (a b : ByteArray) : (a ++ b).data.toList = a.data.toList ++ b.data.toList := by simp [ByteArray.data_append]
theorem app_size (a b : ByteArray) : (a ++ b).size = a.size + b.size := by simp
theorem bytes_eq {a b : ByteArray} (h : a.data.toList = b.data.toList) : a = b := Go.WideShapes.bytes_inj h
theorem size_data (s : ByteArray) : s.data.toList.length = s.size := rfl

set_option maxHeartbeats 2000000 in
theorem sexpOf_any (k : Nat) : ∀ (wd : ByteArray) (ls : Bool) (ks : Fo) (A : Option Addr) (n c : Nat) (w : World), ks.cnt < k → LiesB w w.heap.size ks A 0 n → ks.cnt ≤ 4000000 → (one wd ls ks).length ≤ 1000000000000 →
    Calls Try.prog 44 #[.agg #[.string wd, .bool ls, .slice A n c]] w fun e w' => (∃ s : ByteArray, s.data.toList = one wd ls ks ∧ e = .returned (.string s)) ∧ Below w.heap.size w w' := by
  induction k with
  | zero => intro wd ls ks A n c w hk; omega
  | succ k ih =>
    intro wd ls ks A n c w hk hl hm htot
    have IH := Lib.hid ih
    have hn := Lies.len _ _ _ _ hl
    have hn2 := Fo.len_le ks
    have hn3 : n ≤ 4000000 := by omega
    clear ih hn hn2
    cases ls with
    | false =>
      go_enter Try.func44, Try.ntmps44
      go_wp2_with fail
      go_ret
      exact ⟨⟨wd, rfl, rfl⟩, (Below.refl _ _).alloc (Nat.le_refl _) _⟩
    | true =>
      have HE : Hid (one wd true ks = [40] ++ rst false ks ++ [41]) := by show _ = _; simp [one]
      have hrl : (rst false ks).length + 2 ≤ 1000000000000 := by rw [HE.out] at htot; simp at htot; omega
      have hbox : Blk (w.alloc (.cells #[.string wd, .bool true, .slice A n c] 86)) w.heap.size 86 #[.string wd, .bool true, .slice A n c] := Blk.new _ _ _
      have hl1 : LiesB (w.alloc (.cells #[.string wd, .bool true, .slice A n c] 86)) w.heap.size ks A 0 n := LiesB.alloc hl (Nat.le_refl _) _
      have HX := Lib.hid (And.intro hbox hl1)
      clear hbox hl1 hl htot
      go_enter Try.func44, Try.ntmps44
      go_wp2_with fail
      go_loopw [3, 4] (fun o i wr => ∃ (f' : Fo) (j : Nat) (s : ByteArray), o = .string s ∧ i = .int .i64 j ∧ f'.cnt ≤ ks.cnt ∧ Hid (s.data.toList ++ rst (decide (0 < j)) f' = [40] ++ rst false ks) ∧ LiesB wr w.heap.size f' A j n ∧ Below w.heap.size w wr ∧ Blk wr w.heap.size 86 #[.string wd, .bool true, .slice A n c]) (fun _ i _ => n - (intOf i).toNat)
      case atStart => exact ⟨ks, 0, ⟨#[40]⟩, rfl, rfl, Nat.le_refl _, rfl, HX.out.2, (Below.refl _ _).alloc (Nat.le_refl _) _, HX.out.1⟩
      case round =>
        obtain ⟨f', j, s, rfl, rfl, hc, HA, hl, hbel, hblk⟩ := hrel
        clear HX
        have hlen : s.size + (rst (decide (0 < j)) f').length = 1 + (rst false ks).length := by
          have := congrArg List.length HA.out; rw [List.length_append, size_data] at this; simp at this; omega
        have hz : w.heap.size < wr.heap.size := hblk.lt
        have x2 : wr.cell? ⟨w.heap.size, 2, none⟩ = some (.slice A n c) := hblk.cell 2
        cases f' with
        | nil =>
          obtain rfl : j = n := hl
          have hb1 : ¬ s.size + 1 > 9223372036854775807 := by omega
          go_wp2_with fail
          go_ret
          refine ⟨⟨_, ?_, rfl⟩, hbel⟩
          have := HA.out
          simp only [rst, List.append_nil] at this
          rw [HE.out, app_data, this]
        | cons wd' ls' ks' nx =>
          obtain ⟨hi, p, off, A', n', c', rfl, hb, h0, h1, h2, hsz, hks, hnx⟩ := hl
          have hcnt : (Fo.cons wd' ls' ks' nx).cnt = 1 + ks'.cnt + nx.cnt := rfl
          have e3 : ks'.cnt < k := by omega
          have e6 : nx.cnt ≤ ks.cnt := by omega
          have e7 : ks'.cnt ≤ 4000000 := by omega
          by_cases hj : 0 < j
          · skip
            have HJ : Hid (s.data.toList ++ [32] ++ one wd' ls' ks' ++ rst true nx = [40] ++ rst false ks) := by
              have := HA.out
              rw [rst_cons, show decide (0 < j) = true from by simpa using hj] at this
              show _ = _
              rw [← this]; simp
            rw [rst_cons, show decide (0 < j) = true from by simpa using hj] at hlen
            simp at hlen
            have hb1 : ¬ s.size + 1 > 9223372036854775807 := by omega
            have hcall := IH.out wd' ls' ks' A' n' c' wr e3 (Lies.keep (fun b hb => Nat.lt_trans hb hz) (fun _ _ _ => rfl) _ _ _ _ hks) e7 (by omega)
            have HC := Lib.hid hcall
            clear hcall HA hcnt
            go_wp2_with fail
            refine HC.out.mono ?_
            rintro e w2 ⟨⟨t, ht, rfl⟩, hb2⟩
            have HT := Lib.hid ht
            have htl : t.size = (one wd' ls' ks').length := by rw [← ht]; rfl
            have hb3 : ¬ (s ++ ⟨#[32]⟩).size + t.size > 9223372036854775807 := by rw [app_size]; show ¬ s.size + 1 + t.size > _; omega
            have hnx2 : LiesB w2 w.heap.size nx (some ⟨p, off, none⟩) (j + 1) n := LiesB.below hnx (hb2.mono (by omega)) (Nat.le_refl _)
            have hbel2 : Below w.heap.size w w2 := hbel.trans (hb2.mono (by omega))
            have hblk2 := hblk.below hb2 hz
            clear ht htl hb2 hnx hbel hblk h0 h1 h2 x2 hks HC
            go_wp2_with fail
            go_roundw
            case rel => exact ⟨nx, j + 1, _, rfl, by go_num, e6, by show _ = _; rw [show decide (0 < j + 1) = true from by simp, app_data, app_data, HT.out]; exact HJ.out, hnx2, hbel2, hblk2⟩
            case measure => simp [intOf]; omega
          · skip
            have HJ : Hid (s.data.toList ++ one wd' ls' ks' ++ rst true nx = [40] ++ rst false ks) := by
              have := HA.out
              rw [rst_cons, show decide (0 < j) = false from by simpa using hj] at this
              show _ = _
              rw [← this]; simp
            rw [rst_cons, show decide (0 < j) = false from by simpa using hj] at hlen
            simp at hlen
            have hcall := IH.out wd' ls' ks' A' n' c' wr e3 (Lies.keep (fun b hb => Nat.lt_trans hb hz) (fun _ _ _ => rfl) _ _ _ _ hks) e7 (by omega)
            have HC := Lib.hid hcall
            clear hcall HA hcnt
            go_wp2_with fail
            refine HC.out.mono ?_
            rintro e w2 ⟨⟨t, ht, rfl⟩, hb2⟩
            have HT := Lib.hid ht
            have htl : t.size = (one wd' ls' ks').length := by rw [← ht]; rfl
            have hb3 : ¬ s.size + t.size > 9223372036854775807 := by omega
            have hnx2 : LiesB w2 w.heap.size nx (some ⟨p, off, none⟩) (j + 1) n := LiesB.below hnx (hb2.mono (by omega)) (Nat.le_refl _)
            have hbel2 : Below w.heap.size w w2 := hbel.trans (hb2.mono (by omega))
            have hblk2 := hblk.below hb2 hz
            clear ht htl hb2 hnx hbel hblk h0 h1 h2 x2 hks HC
            go_wp2_with fail
            go_roundw
            case rel => exact ⟨nx, j + 1, _, rfl, by go_num, e6, by show _ = _; rw [show decide (0 < j + 1) = true from by simp, app_data, HT.out]; exact HJ.out, hnx2, hbel2, hblk2⟩
            case measure => simp [intOf]; omega

set_option maxHeartbeats 2000000 in
theorem sexpText_any (f : Fo) (A : Option Addr) (n c : Nat) (w : World) (hf : LiesB w w.heap.size f A 0 n) (hm : f.cnt ≤ 2000000) (t : List UInt8) (rc ra : Int) (hq : txtR f = (t, rc, ra)) :
    Calls Try.prog 19 #[.slice A n c] w fun e w' => e = .returned (.tuple #[.string ⟨t.toArray⟩, .agg #[.int .i64 rc, .int .i64 ra]]) ∧ Below w.heap.size w w' := by
  have hn := Lies.len _ _ _ _ hf
  have hn2 := Fo.len_le f
  have hn3 : n ≤ 4000000 := by omega
  have HQ := Lib.hid hq
  have hl1 : LiesB (w.alloc (.cells #[.int .i64 0, .int .i64 0] 24)) (w.heap.size + 1) f A 0 n := LiesB.below hf ((Below.refl _ _).alloc (Nat.le_refl _) _) (Nat.le_succ _)
  rcases hck : chk f with ⟨qc, qa⟩
  have HCK := Lib.hid hck
  clear hq hn hn2 hck
  go_enter Try.func19, Try.ntmps19
  go_wp2_with fail
  refine (sexpCheck_any f A n c _ (by simpa using hl1) hm qc qa HCK.out).mono ?_
  rintro e w1 ⟨rfl, hb1⟩
  have hblk := (Blk.new w 24 #[.int .i64 0, .int .i64 0]).below hb1 (by simp)
  have hbel : Below w.heap.size w w1 := ((Below.refl _ _).alloc (Nat.le_refl _) _).trans (hb1.mono (by simp))
  have hz : w.heap.size < w1.heap.size := hblk.lt
  have c0 : w1.cell? ⟨w.heap.size, 0, none⟩ = some (.int .i64 0) := hblk.cell 0
  have c1 : w1.cell? ⟨w.heap.size, 1, none⟩ = some (.int .i64 0) := hblk.cell 1
  have z0 : w1.frozen? ⟨w.heap.size, 0, none⟩ = false := hblk.frozen 0
  have z1 : w1.frozen? ⟨w.heap.size, 1, none⟩ = false := hblk.frozen 1
  by_cases hqc : qc = 0
  · subst hqc
    have hck0 := chk_zero f (by rw [HCK.out])
    rw [HCK.out] at hck0
    obtain ⟨hqa, hgood, h4000⟩ := hck0
    simp only at hqa
    subst hqa
    have hts := tsz_good f 0 0 hgood
    have hll := lns_le f
    have hlf : (lns f).length ≤ 27 * 4000 := by omega
    have HT : Hid ((if 4000 < (lns f).length then ([], 10, 0) else (lns f, 0, 0)) = (t, rc, ra)) := by
      have := HQ.out
      rw [txtR, if_pos (by rw [HCK.out])] at this
      exact this
    have hfl : LiesB (w1.alloc (.cells #[.int .i64 0, .int .i64 0] 24)) w.heap.size f A 0 n := LiesB.alloc (LiesB.below hf hbel (Nat.le_refl _)) (by omega) _
    have hblkF := hblk.alloc (.cells #[.int .i64 0, .int .i64 0] 24)
    have hbel2 := hbel.alloc (by omega) (.cells #[.int .i64 0, .int .i64 0] 24)
    have HX := Lib.hid (And.intro hfl (And.intro hblkF hbel2))
    clear hb1 hblk hbel hf hl1 hfl hblkF hbel2 hts hll hgood HQ HCK c0 c1 z0 z1
    go_wp2_with fail
    go_loopw [5, 6] (fun o i wr => ∃ (f' : Fo) (j : Nat) (s : ByteArray), o = .string s ∧ i = .int .i64 j ∧ f'.cnt ≤ f.cnt ∧ Hid (s.data.toList ++ lns f' = lns f) ∧ LiesB wr w.heap.size f' A j n ∧ Below w.heap.size w wr ∧ Blk wr w.heap.size 24 #[.int .i64 0, .int .i64 0]) (fun _ i _ => n - (intOf i).toNat)
    case atStart => exact ⟨f, 0, ⟨#[]⟩, rfl, rfl, Nat.le_refl _, rfl, HX.out.1, HX.out.2.2, HX.out.2.1⟩
    case round =>
      obtain ⟨f', j, s, rfl, rfl, hc, HA, hl, hbel, hblk⟩ := hrel
      clear HX
      have hlen : s.size + (lns f').length = (lns f).length := by
        have := congrArg List.length HA.out; rw [List.length_append, size_data] at this; exact this
      have hz1 : w.heap.size < wr.heap.size := hblk.lt
      cases f' with
      | nil =>
        obtain rfl : j = n := hl
        have hac : s.data.toList = lns f := by have := HA.out; simpa [lns] using this
        have HAC := Lib.hid hac
        have c0 : wr.cell? ⟨w.heap.size, 0, none⟩ = some (.int .i64 0) := hblk.cell 0
        have c1 : wr.cell? ⟨w.heap.size, 1, none⟩ = some (.int .i64 0) := hblk.cell 1
        have z0 : wr.frozen? ⟨w.heap.size, 0, none⟩ = false := hblk.frozen 0
        have z1 : wr.frozen? ⟨w.heap.size, 1, none⟩ = false := hblk.frozen 1
        simp only [lns, List.length_nil] at hlen
        by_cases hbig : 4000 < s.size
        · have e := HT.out
          rw [if_pos (by omega)] at e
          simp only [Prod.mk.injEq] at e
          obtain ⟨rfl, rfl, rfl⟩ := e
          clear hac HA hlen HT HAC
          go_wp2_with fail
          refine bodyPost_ret (v := .tuple #[.string ⟨#[]⟩, .agg #[.int .i64 10, .int .i64 0]]) (by simp [results, Try.results19, go_sem, c0, c1]) rfl ⟨rfl, ?_⟩
          exact (hbel.setCell (p := ⟨w.heap.size, 0, none⟩) (Nat.le_refl _) _).setCell (p := ⟨w.heap.size, 1, none⟩) (Nat.le_refl _) _
        · have e := HT.out
          rw [if_neg (by omega)] at e
          simp only [Prod.mk.injEq] at e
          obtain ⟨e1, rfl, rfl⟩ := e
          have HS : Hid ((⟨t.toArray⟩ : ByteArray) = s) := bytes_eq (by show t = _; rw [← e1, hac])
          clear hac HA hlen HT HAC e1
          go_wp2_with fail
          refine bodyPost_ret (v := .tuple #[.string s, .agg #[.int .i64 0, .int .i64 0]]) (by simp [results, Try.results19, go_sem, c0, c1]) rfl ⟨by rw [HS.out], ?_⟩
          exact (hbel.setCell (p := ⟨w.heap.size, 0, none⟩) (Nat.le_refl _) _).setCell (p := ⟨w.heap.size, 1, none⟩) (Nat.le_refl _) _
      | cons wd' ls' ks' nx =>
        obtain ⟨hi, p, off, A', n', c', rfl, hb, h0, h1, h2, hsz, hks, hnx⟩ := hl
        have hcnt : (Fo.cons wd' ls' ks' nx).cnt = 1 + ks'.cnt + nx.cnt := rfl
        have e6 : nx.cnt ≤ f.cnt := by omega
        have e7 : ks'.cnt ≤ 4000000 := by omega
        have HJ : Hid (s.data.toList ++ (one wd' ls' ks' ++ [10]) ++ lns nx = lns f) := by
          have := HA.out
          show _ = _
          rw [← this]; simp [lns]
        simp [lns] at hlen
        have hcall := sexpOf_any (ks'.cnt + 1) wd' ls' ks' A' n' c' wr (by omega) (Lies.keep (fun b hb => Nat.lt_trans hb hz1) (fun _ _ _ => rfl) _ _ _ _ hks) e7 (by omega)
        have HC := Lib.hid hcall
        clear hcall HA hcnt
        go_wp2_with fail
        refine HC.out.mono ?_
        rintro e w2 ⟨⟨t', ht, rfl⟩, hb2⟩
        have HT2 := Lib.hid ht
        have htl : t'.size = (one wd' ls' ks').length := by rw [← ht]; rfl
        have hb3 : ¬ t'.size + 1 > 9223372036854775807 := by omega
        have hb4 : ¬ s.size + (t'.size + 1) > 9223372036854775807 := by omega
        have hb5 : ¬ s.size + (t' ++ ⟨#[10]⟩ : ByteArray).size > 9223372036854775807 := by rw [app_size]; exact hb4
        have hnx2 : LiesB w2 w.heap.size nx (some ⟨p, off, none⟩) (j + 1) n := LiesB.below hnx (hb2.mono (by omega)) (Nat.le_refl _)
        have hbel2 : Below w.heap.size w w2 := hbel.trans (hb2.mono (by omega))
        have hblk2 := hblk.below hb2 hz1
        clear ht htl hb2 hnx hbel hblk h0 h1 h2 hks HC
        go_wp2_with fail
        go_roundw
        case rel => exact ⟨nx, j + 1, _, rfl, by go_num, e6, by show _ = _; rw [app_data, app_data, HT2.out]; exact HJ.out, hnx2, hbel2, hblk2⟩
        case measure => simp [intOf]; omega
  · have hqb : (qc != 0) = true := by rw [bne_iff_ne]; exact hqc
    have e : ([], qc, qa) = (t, rc, ra) := by
      rw [← HQ.out, txtR, if_neg (by rw [HCK.out]; exact hqc), HCK.out]
    simp only [Prod.mk.injEq] at e
    obtain ⟨rfl, rfl, rfl⟩ := e
    clear hb1 hblk hf hl1 hqc HQ HCK
    go_wp2_with fail
    go_region
    go_wp2_with fail
    refine bodyPost_ret (v := .tuple #[.string ⟨#[]⟩, .agg #[.int .i64 qc, .int .i64 qa]]) (by simp [results, Try.results19, go_sem, c0, c1, hz]) rfl ⟨rfl, ?_⟩
    exact (((hbel.setCell (p := ⟨w.heap.size, 0, none⟩) (Nat.le_refl _) _).setCell (p := ⟨w.heap.size, 1, none⟩) (Nat.le_refl _) _).alloc (by simp; omega) _).drew

set_option maxHeartbeats 1000000 in
theorem sexpTextSays_any (f : Fo) (A : Option Addr) (n c : Nat) (w : World) (hf : LiesB w w.heap.size f A 0 n) (hm : f.cnt ≤ 2000000) :
    Calls Try.prog 5 #[.slice A n c] w fun e w' => e = .returned (.bool true) ∧ Below w.heap.size w w' := by
  rcases hq : txtR f with ⟨t, rc, ra⟩
  have HQ := Lib.hid hq
  clear hq
  go_enter Try.func5, Try.ntmps5
  go_wp2_with fail
  refine (text_any f A n c _ hf hm t rc ra HQ.out).mono ?_
  rintro e w1 ⟨rfl, hb1⟩
  have hz1 := hb1.size
  have hf1 : LiesB (w1.alloc (.cells #[.int .i64 rc, .int .i64 ra] 24)) (w1.heap.size + 1) f A 0 n := LiesB.below hf (hb1.alloc hz1 _) (by omega)
  generalize hs : (⟨t.toArray⟩ : ByteArray) = s
  have HS := Lib.hid hs
  clear hs
  go_wp2_with fail
  refine (sexpText_any f A n c _ (by simpa using hf1) hm t rc ra HQ.out).mono ?_
  rintro e w2 ⟨rfl, hb2⟩
  have hz2 : w1.heap.size < w2.heap.size := by have := hb2.size; simp at this; omega
  have hblk := (Blk.new w1 24 #[.int .i64 rc, .int .i64 ra]).below hb2 (by simp)
  have x0 : w2.cell? ⟨w1.heap.size, 0, none⟩ = some (.int .i64 rc) := hblk.cell 0
  have x1 : w2.cell? ⟨w1.heap.size, 1, none⟩ = some (.int .i64 ra) := hblk.cell 1
  have hbel : Below w.heap.size w w2 := (hb1.alloc hz1 _).trans (hb2.mono (by simp; omega))
  rw [HS.out]
  clear hf hf1 hb1 hb2 hblk HQ HS
  go_wp2_with fail
  go_ret
  exact ⟨ret_bool (by simp), hbel.alloc (by omega) _⟩
end Go.Proofs.Ytllgindmcjemeaa
