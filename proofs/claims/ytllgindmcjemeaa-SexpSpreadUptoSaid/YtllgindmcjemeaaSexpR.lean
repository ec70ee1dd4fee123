/- Walks: the laws' own sure case; the law that what is read is written in one way. -/
import Derived.Test.YtllgindmcjemeaaSexpQ
namespace Go.Proofs.Ytllgindmcjemeaa
open Go.RowKit

def sureFo : Fo := .cons ByteArray.empty true (.cons ⟨#[97]⟩ false .nil .nil) .nil
theorem sure_txt : txtR sureFo = ([40, 97, 41, 10], 0, 0) := by decide +kernel

set_option maxHeartbeats 1000000 in
theorem sexpSure_any (w : World) : Calls Try.prog 26 #[] w fun e w' => e = .returned (.bool true) ∧ Below w.heap.size w w' := by
  have b0 := (Blk.new w 86 #[.string ⟨#[97]⟩, .bool false, .slice none 0 0]).alloc (.cells #[.string ByteArray.empty, .bool true, .slice (some ⟨w.heap.size, 0, none⟩) 1 1] 86)
  have b1 := Blk.new (w.alloc (.cells #[.string ⟨#[97]⟩, .bool false, .slice none 0 0] 86)) 86 #[.string ByteArray.empty, .bool true, .slice (some ⟨w.heap.size, 0, none⟩) 1 1]
  rw [World.size_alloc] at b1
  have hl : LiesB ((w.alloc (.cells #[.string ⟨#[97]⟩, .bool false, .slice none 0 0] 86)).alloc (.cells #[.string ByteArray.empty, .bool true, .slice (some ⟨w.heap.size, 0, none⟩) 1 1] 86)) (w.heap.size + 1 + 1) sureFo (some ⟨w.heap.size + 1, 0, none⟩) 0 1 := by
    refine ⟨by omega, w.heap.size + 1, 0, some ⟨w.heap.size, 0, none⟩, 1, 1, rfl, by omega, b1.cell 0, b1.cell 1, b1.cell 2, by decide, ?_, rfl⟩
    exact ⟨by omega, w.heap.size, 0, none, 0, 0, rfl, by omega, b0.cell 0, b0.cell 1, b0.cell 2, by decide, rfl, rfl⟩
  have HL := Lib.hid hl
  clear b0 b1 hl
  go_enter Try.func26, Try.ntmps26
  go_wp2_with fail
  refine (text_any sureFo _ 1 1 _ (by have h := HL.out; simp only [World.size_alloc]; exact h) (by decide) _ 0 0 sure_txt).mono ?_
  rintro e w1 ⟨rfl, hb1⟩
  have hz : w.heap.size + 1 + 1 ≤ w1.heap.size := by have := hb1.size; simpa using this
  have hbel : Below w.heap.size w w1 := (((Below.refl _ _).alloc (Nat.le_refl _) _).alloc (by simp) _).trans (hb1.mono (by simp; omega))
  clear hb1 HL
  go_wp2_with fail
  go_ret
  exact ⟨ret_bool (by decide), hbel.alloc (by omega) _⟩

set_option maxHeartbeats 2000000 in
theorem sexpFixed_any (s : ByteArray) (w : World) (hmax : s.size ≤ maxLen) : Calls Try.prog 10 #[.string s] w fun e w' => e = .returned (.bool true) ∧ Below w.heap.size w w' := by
  go_enter Try.func10, Try.ntmps10
  go_wp2_with fail
  refine (parse_any s _ hmax).mono ?_
  rintro e w1 ⟨f, c, a, A, cap, hp, rfl, hl, hb1⟩
  have hz1 := hb1.size
  have hcnt := hp.cnt
  have hlen := Fo.len_le f
  by_cases hc : c = 0
  · subst hc
    obtain ⟨hg, ha⟩ : Good f 0 ∧ a = 0 := by
      rcases hp with ⟨_, _, h, _⟩ | ⟨h1, _, e, h⟩
      · cases h
      · exact ⟨h.good rfl, ((h.ends (by omega) (by omega)).2.2 rfl).1⟩
    subst ha
    have hl1 : LiesB (w1.alloc (.cells #[.int .i64 0, .int .i64 0] 24)) (w1.heap.size + 1) f A 0 f.len :=
      Lies.keep (fun b hb => by have := hb.2; omega) (fun b o hb => World.cell?_alloc_lt _ _ _ hb.2) _ _ _ _ hl
    have htx := txt_good hg hcnt
    have hbel1 := hb1.alloc hz1 (.cells #[.int .i64 0, .int .i64 0] 24)
    by_cases hbig : 4000 < (lns f).length
    · rw [if_pos hbig] at htx
      have HT := Lib.hid htx
      have HL := Lib.hid hl1
      clear htx hl1 hl hg hp hb1
      go_wp2_with fail
      refine (text_any f A f.len cap _ (by simpa using HL.out) (by omega) _ 10 0 HT.out).mono ?_
      rintro e w2 ⟨rfl, hb2⟩
      have hz2 : w1.heap.size + 1 ≤ w2.heap.size := by have := hb2.size; simpa using this
      have hbel2 : Below w.heap.size w w2 := hbel1.trans (hb2.mono (by simp; omega))
      clear hb2 hbel1
      go_wp2_with fail
      refine (sexpSure_any _).mono ?_
      rintro e w3 ⟨rfl, hb3⟩
      go_wp2_with fail
      go_ret
      exact ⟨rfl, (hbel2.alloc (by omega) _).trans (hb3.mono (by simp; omega))⟩
    · rw [if_neg hbig] at htx
      have hpl := pres_lns hg hcnt hbig
      have hls : (⟨(lns f).toArray⟩ : ByteArray).size ≤ maxLen := by show (lns f).toArray.size ≤ maxLen; simp [maxLen]; omega
      generalize hst : (⟨(lns f).toArray⟩ : ByteArray) = st at hpl hls
      have HST := Lib.hid hst
      have HT := Lib.hid htx
      have HL := Lib.hid (And.intro hl1 hpl)
      clear htx hl1 hg hp hb1 hpl hst
      go_wp2_with fail
      refine (text_any f A f.len cap _ (by simpa using HL.out.1) (by omega) _ 0 0 HT.out).mono ?_
      rintro e w2 ⟨rfl, hb2⟩
      rw [HST.out]
      have hz2 : w1.heap.size + 1 ≤ w2.heap.size := by have := hb2.size; simpa using this
      have hbel2 : Below w.heap.size w w2 := hbel1.trans (hb2.mono (by simp; omega))
      clear hbel1
      have hl2 : LiesB (w2.alloc (.cells #[.int .i64 0, .int .i64 0] 24)) w1.heap.size f A 0 f.len :=
        Lies.keep (fun b hb => hb.2) (fun b o hb => by rw [World.cell?_alloc_lt _ _ _ (by have := hb.2; simp; omega), hb2.cell (p := ⟨b, o, none⟩) (by have := hb.2; simp; omega), World.cell?_alloc_lt _ _ _ hb.2]) _ _ _ _ hl
      have HL2 := Lib.hid hl2
      clear hl hb2 hl2
      go_wp2_with fail
      refine (parse_any st _ hls).mono ?_
      rintro e w3 ⟨f', c', a', A', cap', hp', rfl, hl', hb3⟩
      obtain ⟨rfl, rfl, rfl⟩ := HL.out.2.one hp'
      have hz3 : w2.heap.size + 1 ≤ w3.heap.size := by have := hb3.size; simpa using this
      have hz3' : w2.heap.size < w3.heap.size := by omega
      have hblk3 := (Blk.new w2 24 #[.int .i64 0, .int .i64 0]).below hb3 (by simp)
      have x0 : w3.cell? ⟨w2.heap.size, 0, none⟩ = some (.int .i64 0) := hblk3.cell 0
      have hbel3 : Below w.heap.size w w3 := (hbel2.alloc (by omega) _).trans (hb3.mono (by simp; omega))
      have hlA : Lies (w3.alloc (.cells #[.int .i64 0, .int .i64 0] 24)) (fun b => b < w3.heap.size) f A' 0 f.len :=
        Lies.keep (fun b hb => hb.2) (fun b o hb => World.cell?_alloc_lt _ _ _ hb.2) _ _ _ _ hl'
      have hlB : Lies (w3.alloc (.cells #[.int .i64 0, .int .i64 0] 24)) (fun b => b < w3.heap.size) f A 0 f.len :=
        Lies.keep (fun b hb => by omega) (fun b o hb => by rw [World.cell?_alloc_lt _ _ _ (by simp; omega), hb3.cell (p := ⟨b, o, none⟩) (by simp; omega)]) _ _ _ _ HL2.out
      have HX := Lib.hid (And.intro hlA hlB)
      clear hlA hlB hl' hb3 hblk3 hp' HL HL2 HT hbel2 HST
      go_wp2_with fail
      refine (sexpSure_any _).mono ?_
      rintro e w4 ⟨rfl, hb4⟩
      have hlA4 : Lies w4 (fun b => b < w3.heap.size) f A' 0 f.len := Lies.keep (fun _ h => h) (fun b o hb => hb4.cell (p := ⟨b, o, none⟩) (by simp; omega)) _ _ _ _ HX.out.1
      have hlB4 : Lies w4 (fun b => b < w3.heap.size) f A 0 f.len := Lies.keep (fun _ h => h) (fun b o hb => hb4.cell (p := ⟨b, o, none⟩) (by simp; omega)) _ _ _ _ HX.out.2
      have hbel4 : Below w.heap.size w w4 := (hbel3.alloc (by omega) _).trans (hb4.mono (by simp; omega))
      have HC := Lib.hid (sameSexps_any (f.cnt + 1) f A' A f.len cap' cap _ w4 (by omega) hlA4 hlB4 (by omega) (by omega))
      clear hlA4 hlB4 HX hb4 x0 hbel3
      go_wp2_with fail
      refine HC.out.mono ?_
      rintro e w5 ⟨rfl, m, rfl⟩
      go_wp2_with fail
      go_ret
      exact ⟨rfl, below_drewN hbel4 _⟩
  · have hcb : (c != 0) = true := by rw [bne_iff_ne]; exact hc
    have hf : f = .nil := by
      rcases hp with ⟨_, h, _, _⟩ | ⟨_, _, e, h⟩
      · exact h
      · exact h.bad hc
    subst hf
    have hbel1 := hb1.alloc hz1 (.cells #[.int .i64 c, .int .i64 a] 24)
    clear hp hl hc hb1
    go_wp2_with fail
    refine (sexpSure_any _).mono ?_
    rintro e w3 ⟨rfl, hb3⟩
    go_wp2_with fail
    go_ret
    exact ⟨rfl, hbel1.trans (hb3.mono (by simp; omega))⟩
end Go.Proofs.Ytllgindmcjemeaa
