/- Walk: the law that expressions come back from their text. -/
import Derived.Test.YtllgindmcjemeaaSexpS
namespace Go.Proofs.Ytllgindmcjemeaa
open Go.RowKit

set_option maxHeartbeats 2000000 in
theorem sexpBack_any (A0 : Option Addr) (n0 c0 : Nat) (w : World) (hin : IntsAt w w.heap.size A0 n0) (hnc : n0 ≤ c0) (hc0 : c0 ≤ 9223372036854775807) (hn0 : n0 ≤ 1048576) :
    Calls Try.prog 8 #[.slice A0 n0 c0] w fun e w' => e = .returned (.bool true) ∧ Below w.heap.size w w' := by
  go_enter Try.func8, Try.ntmps8
  go_wp2_with fail
  refine (things_any (n0 + 1) A0 n0 c0 6 w.heap.size _ (by omega) hc0 hin hnc (Nat.le_refl _) hn0 (by omega) (by omega) trivial).mono ?_
  rintro e w1 ⟨f, A, cap, A', n', c', rfl, hgd, hcn, _, _, _, hl, hb1⟩
  have hz1 := hb1.size
  have hlen := Fo.len_le f
  have hg : Good f 0 := hgd 0 (by omega) (by omega)
  have hl1 : LiesB w1 w1.heap.size f A 0 f.len := Lies.keep (fun b hb => hb.2) (fun _ _ _ => rfl) _ _ _ _ hl
  clear hgd hin
  by_cases hmany : 4000 < f.cnt
  · have HT := Lib.hid (txt_many hmany)
    have HL := Lib.hid hl1
    clear hl hl1 hg
    go_wp2_with fail
    refine (text_any f A f.len cap _ HL.out (by omega) _ 2 0 HT.out).mono ?_
    rintro e w2 ⟨rfl, hb2⟩
    have hz2 := hb2.size
    have hbel2 : Below w.heap.size w w2 := hb1.trans (hb2.mono (by omega))
    clear hb2 hb1
    go_wp2_with fail
    refine (sexpSure_any _).mono ?_
    rintro e w3 ⟨rfl, hb3⟩
    go_wp2_with fail
    go_ret
    exact ⟨rfl, (hbel2.alloc (by omega) _).trans (hb3.mono (by simp; omega))⟩
  · have hcnt : f.cnt ≤ 4000 := by omega
    have htx := txt_good hg hcnt
    by_cases hbig : 4000 < (lns f).length
    · rw [if_pos hbig] at htx
      have HT := Lib.hid htx
      have HL := Lib.hid hl1
      clear htx hl1 hl hg
      go_wp2_with fail
      refine (text_any f A f.len cap _ HL.out (by omega) _ 10 0 HT.out).mono ?_
      rintro e w2 ⟨rfl, hb2⟩
      have hz2 := hb2.size
      have hbel2 : Below w.heap.size w w2 := hb1.trans (hb2.mono (by omega))
      clear hb2 hb1
      go_wp2_with fail
      refine (sexpSure_any _).mono ?_
      rintro e w3 ⟨rfl, hb3⟩
      go_wp2_with fail
      go_ret
      exact ⟨rfl, (hbel2.alloc (by omega) _).trans (hb3.mono (by simp; omega))⟩
    · rw [if_neg hbig] at htx
      have hpl := pres_lns hg hcnt hbig
      have hls : (⟨(lns f).toArray⟩ : ByteArray).size ≤ maxLen := by show (lns f).toArray.size ≤ maxLen; simp [maxLen]; omega
      generalize hst : (⟨(lns f).toArray⟩ : ByteArray) = st at hpl hls
      have HST := Lib.hid hst
      have HT := Lib.hid htx
      have HL := Lib.hid (And.intro hl1 hpl)
      clear htx hl1 hg hpl hst hl
      go_wp2_with fail
      refine (text_any f A f.len cap _ HL.out.1 (by omega) _ 0 0 HT.out).mono ?_
      rintro e w2 ⟨rfl, hb2⟩
      rw [HST.out]
      have hz2 := hb2.size
      have hbel2 : Below w.heap.size w w2 := hb1.trans (hb2.mono (by omega))
      have hl2 : LiesB (w2.alloc (.cells #[.int .i64 0, .int .i64 0] 24)) w1.heap.size f A 0 f.len :=
        Lies.keep (fun b hb => hb) (fun b o hb => by rw [World.cell?_alloc_lt _ _ _ (by simp; omega), hb2.cell (p := ⟨b, o, none⟩) (by simp; omega)]) _ _ _ _ HL.out.1
      have HL2 := Lib.hid hl2
      clear hb2 hl2 hb1
      go_wp2_with fail
      refine (parse_any st _ hls).mono ?_
      rintro e w3 ⟨f', c', a', A', cap', hp', rfl, hl', hb3⟩
      obtain ⟨rfl, rfl, rfl⟩ := HL.out.2.one hp'
      have hz3 : w2.heap.size + 1 ≤ w3.heap.size := by have := hb3.size; simpa using this
      have hz3' : w2.heap.size < w3.heap.size := by omega
      have hblk3 := (Blk.new w2 24 #[.int .i64 0, .int .i64 0]).below hb3 (by simp)
      have x0 : w3.cell? ⟨w2.heap.size, 0, none⟩ = some (.int .i64 0) := hblk3.cell 0
      have hbel3 : Below w.heap.size w w3 := (hbel2.alloc (by omega) _).trans (hb3.mono (by simp; omega))
      have hlA : Lies (w3.alloc (.cells #[.int .i64 0, .int .i64 0] 24)) (fun b => b < w3.heap.size) f A' 0 f.len :=
        Lies.keep (fun b hb => hb.2) (fun b o hb => World.cell?_alloc_lt _ _ _ hb.2) _ _ _ _ hl'
      have hlB : Lies (w3.alloc (.cells #[.int .i64 0, .int .i64 0] 24)) (fun b => b < w3.heap.size) f A 0 f.len :=
        Lies.keep (fun b hb => by omega) (fun b o hb => by rw [World.cell?_alloc_lt _ _ _ (by simp; omega), hb3.cell (p := ⟨b, o, none⟩) (by simp; omega)]) _ _ _ _ HL2.out
      have HX := Lib.hid (And.intro hlA hlB)
      clear hlA hlB hl' hb3 hblk3 hp' HL HL2 HT hbel2 HST
      go_wp2_with fail
      refine (sexpSure_any _).mono ?_
      rintro e w4 ⟨rfl, hb4⟩
      have hlA4 : Lies w4 (fun b => b < w3.heap.size) f A' 0 f.len := Lies.keep (fun _ h => h) (fun b o hb => hb4.cell (p := ⟨b, o, none⟩) (by simp; omega)) _ _ _ _ HX.out.1
      have hlB4 : Lies w4 (fun b => b < w3.heap.size) f A 0 f.len := Lies.keep (fun _ h => h) (fun b o hb => hb4.cell (p := ⟨b, o, none⟩) (by simp; omega)) _ _ _ _ HX.out.2
      have hbel4 : Below w.heap.size w w4 := (hbel3.alloc (by omega) _).trans (hb4.mono (by simp; omega))
      have HC := Lib.hid (sameSexps_any (f.cnt + 1) f A' A f.len cap' cap _ w4 (by omega) hlA4 hlB4 (by omega) (by omega))
      clear hlA4 hlB4 HX hb4 x0 hbel3
      go_wp2_with fail
      refine HC.out.mono ?_
      rintro e w5 ⟨rfl, m, rfl⟩
      go_wp2_with fail
      go_ret
      exact ⟨rfl, below_drewN hbel4 _⟩
end Go.Proofs.Ytllgindmcjemeaa
