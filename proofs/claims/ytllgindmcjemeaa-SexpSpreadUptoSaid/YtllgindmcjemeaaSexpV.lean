/- Walk: the law that further blanks and remarks do not change what is read. -/
import Derived.Test.YtllgindmcjemeaaSexpS
import Derived.Test.YtllgindmcjemeaaSexpU
import Derived.Deep.RegionWith
import Derived.IntWalk
namespace Go.Proofs.Ytllgindmcjemeaa
open Go.RowKit

def PickPost (n : Int) (w : World) (e : Ending) (w' : World) : Prop := ∃ p : Int, e = .returned (.int .i64 p) ∧ 0 ≤ p ∧ p < n ∧ w = w'
theorem picked_some (a n : Int) (w : World) (h0 : 0 < n) (h1 : n ≤ 1000000) : Calls Try.prog 27 #[.int .i64 a, .int .i64 n] w (PickPost n w) :=
  (picked_any a n w h0 h1).mono fun _ _ ⟨he, hw⟩ => ⟨_, he, Int.emod_nonneg a (by omega), Int.emod_lt_of_pos a h0, hw⟩

theorem picked_eq (a n p : Int) (w : World) (h0 : 0 < n) (h1 : n ≤ 1000000) (hp : a % n = p) : Calls Try.prog 27 #[.int .i64 a, .int .i64 n] w fun e w' => e = .returned (.int .i64 p) ∧ w = w' := by
  rw [← hp]; exact picked_any a n w h0 h1

theorem picked_two (a p : Int) (w : World) (hp : a % 2 = p) : Calls Try.prog 27 #[.int .i64 a, .int .i64 2] w fun e w' => e = .returned (.int .i64 p) ∧ w = w' :=
  picked_eq a 2 p w (by omega) (by omega) hp

theorem add_data (x y : ByteArray) : (x ++ y).data.toList = x.data.toList ++ y.data.toList := by simp
theorem below_drew {B : Nat} {a w : World} (h : Below B a w) : Below B a w.drew := ⟨h.os, h.tape, h.output, h.size, h.block⟩
theorem one_data (s : ByteArray) (k : Nat) (h : k < s.size) : (s.extract k (k + 1)).data.toList = [s[k]] := by
  rw [Lib.extract_data, drop_at s k h, Nat.add_sub_cancel_left]; rfl

set_option maxRecDepth 100000 in
set_option maxHeartbeats 8000000 in
theorem sexpSpread_any (A0 : Option Addr) (n0 c0 : Nat) (gap : Int) (w : World) (hin : IntsAt w w.heap.size A0 n0) (hnc : n0 ≤ c0) (hc0 : c0 ≤ 9223372036854775807) (hn0 : n0 ≤ 1048576) (hg0 : -9223372036854775808 ≤ gap) (hg1 : gap ≤ 9223372036854775807) :
    Calls Try.prog 9 #[.slice A0 n0 c0, .int .i64 gap] w fun e w' => e = .returned (.bool true) ∧ Below w.heap.size w w' := by
  go_enter Try.func9, Try.ntmps9
  go_wp2_with fail
  refine (things_any (n0 + 1) A0 n0 c0 5 w.heap.size _ (by omega) hc0 hin hnc (Nat.le_refl _) hn0 (by omega) (by omega) trivial).mono ?_
  rintro e w1 ⟨f, A, cap, A', n', c', rfl, hgd, hcn, _, _, _, hl, hb1⟩
  have hz1 := hb1.size
  have hlen := Fo.len_le f
  have hg : Good f 0 := hgd 0 (by omega) (by omega)
  have hl1 : LiesB w1 w1.heap.size f A 0 f.len := Lies.keep (fun b hb => hb.2) (fun _ _ _ => rfl) _ _ _ _ hl
  clear hgd hin
  by_cases hmany : 4000 < f.cnt
  · have HT := Lib.hid (txt_many hmany)
    have HL := Lib.hid hl1
    clear hl hl1 hg
    go_wp2_with fail
    refine (text_any f A f.len cap _ HL.out (by omega) _ 2 0 HT.out).mono ?_
    rintro e w2 ⟨rfl, hb2⟩
    have hz2 := hb2.size
    have hbel2 : Below w.heap.size w w2 := hb1.trans (hb2.mono (by omega))
    clear hb2 hb1
    go_wp2_with fail
    refine (sexpSure_any _).mono ?_
    rintro e w3 ⟨rfl, hb3⟩
    go_wp2_with fail
    go_ret
    exact ⟨rfl, (hbel2.alloc (by omega) _).trans (hb3.mono (by simp; omega))⟩
  · have hcnt : f.cnt ≤ 4000 := by omega
    have htx := txt_good hg hcnt
    by_cases hbig : 4000 < (lns f).length
    · rw [if_pos hbig] at htx
      have HT := Lib.hid htx
      have HL := Lib.hid hl1
      clear htx hl1 hl hg
      go_wp2_with fail
      refine (text_any f A f.len cap _ HL.out (by omega) _ 10 0 HT.out).mono ?_
      rintro e w2 ⟨rfl, hb2⟩
      have hz2 := hb2.size
      have hbel2 : Below w.heap.size w w2 := hb1.trans (hb2.mono (by omega))
      clear hb2 hb1
      go_wp2_with fail
      refine (sexpSure_any _).mono ?_
      rintro e w3 ⟨rfl, hb3⟩
      go_wp2_with fail
      go_ret
      exact ⟨rfl, (hbel2.alloc (by omega) _).trans (hb3.mono (by simp; omega))⟩
    · rw [if_neg hbig] at htx
      have hls : (⟨(lns f).toArray⟩ : ByteArray).size ≤ 4000 := by show (lns f).toArray.size ≤ 4000; simp; omega
      have hld : (⟨(lns f).toArray⟩ : ByteArray).data.toList = lns f := by simp
      generalize hst : (⟨(lns f).toArray⟩ : ByteArray) = st at hls hld
      have HST := Lib.hid hst
      have HT := Lib.hid htx
      have HL := Lib.hid (And.intro hl1 (And.intro hld hg))
      clear htx hl1 hg hst hl hld
      go_wp2_with fail
      refine (text_any f A f.len cap _ HL.out.1 (by omega) _ 0 0 HT.out).mono ?_
      rintro e w2 ⟨rfl, hb2⟩
      rw [HST.out]
      have hz2 := hb2.size
      have hbel2 : Below w.heap.size w w2 := hb1.trans (hb2.mono (by omega))
      have hl2 : LiesB (w2.alloc (.cells #[.int .i64 0, .int .i64 0] 24)) w1.heap.size f A 0 f.len :=
        Lies.keep (fun b hb => hb) (fun b o hb => by rw [World.cell?_alloc_lt _ _ _ (by simp; omega), hb2.cell (p := ⟨b, o, none⟩) (by simp; omega)]) _ _ _ _ HL.out.1
      have HL2 := Lib.hid hl2
      clear hb2 hl2 hb1
      go_wp2_with fail
      refine (picked_some _ 3 _ (by omega) (by omega)).mono ?_
      rintro e w' ⟨p, rfl, hp0, hp1, rfl⟩
      have hstart : ∀ x : ByteArray, GapH x.data.toList → x.size ≤ 8 → Hid (WideTo (lns f) x.data.toList (st.data.toList.drop 0) ∧ x.size ≤ 8) := fun x hx hs => ⟨by rw [List.drop_zero, HL.out.2.1]; exact WideTo.start hx, hs⟩
      obtain ⟨x, HX, hxp⟩ : ∃ x : ByteArray, Hid (WideTo (lns f) x.data.toList (st.data.toList.drop 0) ∧ x.size ≤ 8) ∧ (p = 0 ∧ x = ⟨#[]⟩ ∨ p = 1 ∧ x = ⟨#[32]⟩ ∨ p = 2 ∧ x = ⟨#[59, 32, 40, 10]⟩) := by
        obtain rfl | rfl | rfl : p = 0 ∨ p = 1 ∨ p = 2 := by omega
        · exact ⟨_, hstart ⟨#[]⟩ (.inl rfl) (by decide), .inl ⟨rfl, rfl⟩⟩
        · exact ⟨_, hstart ⟨#[32]⟩ (.inr (.inl rfl)) (by decide), .inr (.inl ⟨rfl, rfl⟩)⟩
        · exact ⟨_, hstart ⟨#[59, 32, 40, 10]⟩ (.inr (.inr rfl)) (by decide), .inr (.inr ⟨rfl, rfl⟩)⟩
      clear hstart
      have hx8 := HX.out.2
      rcases hxp with ⟨rfl, rfl⟩ | ⟨rfl, rfl⟩ | ⟨rfl, rfl⟩
      all_goals clear hp0 hp1
      all_goals go_wp2_with fail
      all_goals go_loopw [9, 10] (fun v i wr => ∃ (x : ByteArray) (k : Nat), v = .string x ∧ i = .int .i64 k ∧ k ≤ st.size ∧ x.size ≤ 8 + 6 * k ∧ Hid (WideTo (lns f) x.data.toList (st.data.toList.drop k)) ∧ Below (w2.heap.size + 1) (w2.alloc (.cells #[.int .i64 0, .int .i64 0] 24)) wr) (fun _ i _ => st.size - (intOf i).toNat)
      case atStart => exact ⟨_, 0, rfl, rfl, Nat.zero_le _, by omega, HX.out.1, (Below.refl _ _).alloc (by simp) _⟩
      case atStart => exact ⟨_, 0, rfl, rfl, Nat.zero_le _, by omega, HX.out.1, (Below.refl _ _).alloc (by simp) _⟩
      case atStart => exact ⟨_, 0, rfl, rfl, Nat.zero_le _, by omega, HX.out.1, (Below.refl _ _).alloc (by simp) _⟩
      case round =>
        clear HX hx8
        obtain ⟨x, k, rfl, rfl, hk, hxs, HW, hbel⟩ := hrel
        have hz3 : w2.heap.size + 1 ≤ wr.heap.size := by have := hbel.size; simpa using this
        by_cases hlt : k < st.size
        · have hrest : WideTo (lns f) x.data.toList (st[k] :: st.data.toList.drop (k + 1)) := by rw [← drop_at st k hlt]; exact HW.out
          have HR := Lib.hid hrest
          clear hrest HW
          by_cases c32 : st[k].toNat = 32
          · have hcc : st[k] = 32 ∨ st[k] = 10 := by left; exact UInt8.toNat_inj.1 c32
            have HR2 := Lib.hid (fun g hg => HR.out.blank hcc (g := g) hg)
            have q1 : ((st[k].toNat : Int) == 32) = true := by rw [beq_iff_eq]; omega
            have HS := Lib.hid hxs
            clear c32 hcc
            go_wp2_with fail
            refine (picked_some _ 3 _ (by omega) (by omega)).mono ?_
            rintro e w' ⟨p, rfl, hp0, hp1, rfl⟩
            obtain rfl | rfl | rfl : p = 0 ∨ p = 1 ∨ p = 2 := by omega
            all_goals go_wp2_with fail
            all_goals go_roundw
            case measure => simp [intOf]; omega
            case measure => simp [intOf]; omega
            case measure => simp [intOf]; omega
            case rel => exact ⟨_, k + 1, rfl, by go_num, by omega, by rw [ByteArray.size_append]; have := HS.out; show _ + 2 ≤ _; omega, by show WideTo _ _ _; rw [add_data]; exact HR2.out _ (.inl rfl), hbel.alloc hz3 _⟩
            case rel => exact ⟨_, k + 1, rfl, by go_num, by omega, by rw [ByteArray.size_append]; have := HS.out; show _ + 3 ≤ _; omega, by show WideTo _ _ _; rw [add_data]; exact HR2.out _ (.inr (.inl rfl)), hbel.alloc hz3 _⟩
            case rel => exact ⟨_, k + 1, rfl, by go_num, by omega, by rw [ByteArray.size_append]; have := HS.out; show _ + 5 ≤ _; omega, by show WideTo _ _ _; rw [add_data]; exact HR2.out _ (.inr (.inr rfl)), hbel.alloc hz3 _⟩
          by_cases c10 : st[k].toNat = 10
          · have hcc : st[k] = 32 ∨ st[k] = 10 := by right; exact UInt8.toNat_inj.1 c10
            have HR2 := Lib.hid (fun g hg => HR.out.blank hcc (g := g) hg)
            have q1 : ((st[k].toNat : Int) == 32) = false := by rw [beq_eq_false_iff_ne]; omega
            have q2 : ((st[k].toNat : Int) == 10) = true := by rw [beq_iff_eq]; omega
            have HS := Lib.hid hxs
            clear c32 c10 hcc
            go_wp2_with fail
            refine (picked_some _ 3 _ (by omega) (by omega)).mono ?_
            rintro e w' ⟨p, rfl, hp0, hp1, rfl⟩
            obtain rfl | rfl | rfl : p = 0 ∨ p = 1 ∨ p = 2 := by omega
            all_goals go_wp2_with fail
            all_goals go_roundw
            case measure => simp [intOf]; omega
            case measure => simp [intOf]; omega
            case measure => simp [intOf]; omega
            case rel => exact ⟨_, k + 1, rfl, by go_num, by omega, by rw [ByteArray.size_append]; have := HS.out; show _ + 2 ≤ _; omega, by show WideTo _ _ _; rw [add_data]; exact HR2.out _ (.inl rfl), hbel.alloc hz3 _⟩
            case rel => exact ⟨_, k + 1, rfl, by go_num, by omega, by rw [ByteArray.size_append]; have := HS.out; show _ + 3 ≤ _; omega, by show WideTo _ _ _; rw [add_data]; exact HR2.out _ (.inr (.inl rfl)), hbel.alloc hz3 _⟩
            case rel => exact ⟨_, k + 1, rfl, by go_num, by omega, by rw [ByteArray.size_append]; have := HS.out; show _ + 5 ≤ _; omega, by show WideTo _ _ _; rw [add_data]; exact HR2.out _ (.inr (.inr rfl)), hbel.alloc hz3 _⟩
          by_cases c40 : st[k].toNat = 40
          · have hcc : st[k] = 40 ∨ st[k] = 41 := by left; exact UInt8.toNat_inj.1 c40
            have HR2 := Lib.hid (fun g hg => HR.out.brack hcc (g := g) hg)
            have q1 : ((st[k].toNat : Int) == 32) = false := by rw [beq_eq_false_iff_ne]; omega
            have q2 : ((st[k].toNat : Int) == 10) = false := by rw [beq_eq_false_iff_ne]; omega
            have q3 : ((st[k].toNat : Int) == 40) = true := by rw [beq_iff_eq]; omega
            clear c32 c10 c40 hcc HR
            obtain ⟨p, hp, hp0, hp1⟩ : ∃ p : Int, IntKind.i64.wrap (IntKind.i64.wrap (gap.tdiv 9) + ↑k) % 2 = p ∧ 0 ≤ p ∧ p < 2 := ⟨_, rfl, by omega, by omega⟩
            have HP := Lib.hid hp
            clear hp
            have hc8 : wr.cell? ⟨w2.heap.size, 0, none⟩ = some (.int .i64 0) := by rw [(bcell hbel).1 _ _ (by omega)]; exact (Blk.new w2 24 #[.int .i64 0, .int .i64 0]).cell 0
            go_wp2_with fail
            obtain rfl | rfl : p = 0 ∨ p = 1 := by omega
            all_goals clear hp0 hp1
            · have c1 : (9223372036854775807 < 1 + (min (k + 1) st.size - k)) = False := eq_false (by omega)
              have c2 : (9223372036854775807 < 1 + (min (k + 1) st.size - k)) = False := eq_false (by omega)
              have c3 : (9223372036854775807 < x.size + (1 + (min (k + 1) st.size - k))) = False := eq_false (by omega)
              have HH := Lib.hid (And.intro hbel (And.intro hz3 hxs))
              clear hbel hz3 hxs
              have r2 : (0 : Int) ≤ ↑k + 1 := by omega
              have r3 : ((k : Int) + 1).toNat = k + 1 := by omega
              have r1 : IntKind.i64.wrap (↑k + 1) = ↑k + 1 := IntWalk.i64_in _ (by omega)
              have i1 : (0 : Int) ≤ ↑k := by omega
              have i2 : (k : Int) ≤ ↑k + 1 := by omega
              have i3 : (k : Int) + 1 ≤ (st.size : Int) := by omega
              go_region_with ((go_at_call 27; refine (picked_two _ 0 _ HP.out).mono ?_; rintro e w' ⟨rfl, rfl⟩))
              all_goals clear r1 r2 r3 c1 c2 c3 i1 i2 i3
              all_goals obtain ⟨hbel, hz3, hxs⟩ := HH.out
              all_goals have HS := Lib.hid hxs
              all_goals clear hxs
              all_goals go_wp2_with fail
              all_goals go_roundw
              all_goals first | (simp [intOf]; omega) | exact ⟨_, k + 1, rfl, by go_num, by omega, by have := HS.out; simp only [ByteArray.size_append, ByteArray.size_extract]; show _ + (1 + _ + 0) ≤ _; omega, by show WideTo _ _ _; rw [add_data, add_data, add_data, one_data st k hlt]; exact HR2.out _ (.inl rfl), below_drew (hbel.alloc hz3 _)⟩
            · have c1 : (9223372036854775807 < 1 + (min (k + 1) st.size - k)) = False := eq_false (by omega)
              have c2 : (9223372036854775807 < 1 + (min (k + 1) st.size - k) + 1) = False := eq_false (by omega)
              have c3 : (9223372036854775807 < x.size + (1 + (min (k + 1) st.size - k) + 1)) = False := eq_false (by omega)
              have HH := Lib.hid (And.intro hbel (And.intro hz3 hxs))
              clear hbel hz3 hxs
              have r2 : (0 : Int) ≤ ↑k + 1 := by omega
              have r3 : ((k : Int) + 1).toNat = k + 1 := by omega
              have r1 : IntKind.i64.wrap (↑k + 1) = ↑k + 1 := IntWalk.i64_in _ (by omega)
              have i1 : (0 : Int) ≤ ↑k := by omega
              have i2 : (k : Int) ≤ ↑k + 1 := by omega
              have i3 : (k : Int) + 1 ≤ (st.size : Int) := by omega
              go_region_with ((go_at_call 27; refine (picked_two _ 1 _ HP.out).mono ?_; rintro e w' ⟨rfl, rfl⟩))
              all_goals clear r1 r2 r3 c1 c2 c3 i1 i2 i3
              all_goals obtain ⟨hbel, hz3, hxs⟩ := HH.out
              all_goals have HS := Lib.hid hxs
              all_goals clear hxs
              all_goals go_wp2_with fail
              all_goals go_roundw
              all_goals first | (simp [intOf]; omega) | exact ⟨_, k + 1, rfl, by go_num, by omega, by have := HS.out; simp only [ByteArray.size_append, ByteArray.size_extract]; show _ + (1 + _ + 1) ≤ _; omega, by show WideTo _ _ _; rw [add_data, add_data, add_data, one_data st k hlt]; exact HR2.out _ (.inr rfl), below_drew (hbel.alloc hz3 _)⟩
          by_cases c41 : st[k].toNat = 41
          · have hcc : st[k] = 40 ∨ st[k] = 41 := by right; exact UInt8.toNat_inj.1 c41
            have HR2 := Lib.hid (fun g hg => HR.out.brack hcc (g := g) hg)
            have q1 : ((st[k].toNat : Int) == 32) = false := by rw [beq_eq_false_iff_ne]; omega
            have q2 : ((st[k].toNat : Int) == 10) = false := by rw [beq_eq_false_iff_ne]; omega
            have q3 : ((st[k].toNat : Int) == 40) = false := by rw [beq_eq_false_iff_ne]; omega
            have q4 : ((st[k].toNat : Int) == 41) = true := by rw [beq_iff_eq]; omega
            clear c32 c10 c40 c41 hcc HR
            obtain ⟨p, hp, hp0, hp1⟩ : ∃ p : Int, IntKind.i64.wrap (IntKind.i64.wrap (gap.tdiv 9) + ↑k) % 2 = p ∧ 0 ≤ p ∧ p < 2 := ⟨_, rfl, by omega, by omega⟩
            have HP := Lib.hid hp
            clear hp
            have hc8 : wr.cell? ⟨w2.heap.size, 0, none⟩ = some (.int .i64 0) := by rw [(bcell hbel).1 _ _ (by omega)]; exact (Blk.new w2 24 #[.int .i64 0, .int .i64 0]).cell 0
            go_wp2_with fail
            obtain rfl | rfl : p = 0 ∨ p = 1 := by omega
            all_goals clear hp0 hp1
            · have c1 : (9223372036854775807 < 1 + (min (k + 1) st.size - k)) = False := eq_false (by omega)
              have c2 : (9223372036854775807 < 1 + (min (k + 1) st.size - k)) = False := eq_false (by omega)
              have c3 : (9223372036854775807 < x.size + (1 + (min (k + 1) st.size - k))) = False := eq_false (by omega)
              have HH := Lib.hid (And.intro hbel (And.intro hz3 hxs))
              clear hbel hz3 hxs
              have r2 : (0 : Int) ≤ ↑k + 1 := by omega
              have r3 : ((k : Int) + 1).toNat = k + 1 := by omega
              have r1 : IntKind.i64.wrap (↑k + 1) = ↑k + 1 := IntWalk.i64_in _ (by omega)
              have i1 : (0 : Int) ≤ ↑k := by omega
              have i2 : (k : Int) ≤ ↑k + 1 := by omega
              have i3 : (k : Int) + 1 ≤ (st.size : Int) := by omega
              go_region_with ((go_at_call 27; refine (picked_two _ 0 _ HP.out).mono ?_; rintro e w' ⟨rfl, rfl⟩))
              all_goals clear r1 r2 r3 c1 c2 c3 i1 i2 i3
              all_goals obtain ⟨hbel, hz3, hxs⟩ := HH.out
              all_goals have HS := Lib.hid hxs
              all_goals clear hxs
              all_goals go_wp2_with fail
              all_goals go_roundw
              all_goals first | (simp [intOf]; omega) | exact ⟨_, k + 1, rfl, by go_num, by omega, by have := HS.out; simp only [ByteArray.size_append, ByteArray.size_extract]; show _ + (1 + _ + 0) ≤ _; omega, by show WideTo _ _ _; rw [add_data, add_data, add_data, one_data st k hlt]; exact HR2.out _ (.inl rfl), below_drew (hbel.alloc hz3 _)⟩
            · have c1 : (9223372036854775807 < 1 + (min (k + 1) st.size - k)) = False := eq_false (by omega)
              have c2 : (9223372036854775807 < 1 + (min (k + 1) st.size - k) + 1) = False := eq_false (by omega)
              have c3 : (9223372036854775807 < x.size + (1 + (min (k + 1) st.size - k) + 1)) = False := eq_false (by omega)
              have HH := Lib.hid (And.intro hbel (And.intro hz3 hxs))
              clear hbel hz3 hxs
              have r2 : (0 : Int) ≤ ↑k + 1 := by omega
              have r3 : ((k : Int) + 1).toNat = k + 1 := by omega
              have r1 : IntKind.i64.wrap (↑k + 1) = ↑k + 1 := IntWalk.i64_in _ (by omega)
              have i1 : (0 : Int) ≤ ↑k := by omega
              have i2 : (k : Int) ≤ ↑k + 1 := by omega
              have i3 : (k : Int) + 1 ≤ (st.size : Int) := by omega
              go_region_with ((go_at_call 27; refine (picked_two _ 1 _ HP.out).mono ?_; rintro e w' ⟨rfl, rfl⟩))
              all_goals clear r1 r2 r3 c1 c2 c3 i1 i2 i3
              all_goals obtain ⟨hbel, hz3, hxs⟩ := HH.out
              all_goals have HS := Lib.hid hxs
              all_goals clear hxs
              all_goals go_wp2_with fail
              all_goals go_roundw
              all_goals first | (simp [intOf]; omega) | exact ⟨_, k + 1, rfl, by go_num, by omega, by have := HS.out; simp only [ByteArray.size_append, ByteArray.size_extract]; show _ + (1 + _ + 1) ≤ _; omega, by show WideTo _ _ _; rw [add_data, add_data, add_data, one_data st k hlt]; exact HR2.out _ (.inr rfl), below_drew (hbel.alloc hz3 _)⟩
          have HR2 := Lib.hid (HR.out.byte (fun h => h.elim (fun h => c32 (by rw [h]; rfl)) (fun h => c10 (by rw [h]; rfl))) (fun h => h.elim (fun h => c40 (by rw [h]; rfl)) (fun h => c41 (by rw [h]; rfl))))
          have q1 : ((st[k].toNat : Int) == 32) = false := by rw [beq_eq_false_iff_ne]; omega
          have q2 : ((st[k].toNat : Int) == 10) = false := by rw [beq_eq_false_iff_ne]; omega
          have q3 : ((st[k].toNat : Int) == 40) = false := by rw [beq_eq_false_iff_ne]; omega
          have q4 : ((st[k].toNat : Int) == 41) = false := by rw [beq_eq_false_iff_ne]; omega
          have HS := Lib.hid hxs
          clear c32 c10 c40 c41 HR
          go_wp2_with fail
          go_roundw
          case measure => simp [intOf]; omega
          case rel => exact ⟨_, k + 1, rfl, by go_num, by omega, by have := HS.out; simp only [ByteArray.size_append, ByteArray.size_extract]; omega, by show WideTo _ _ _; rw [add_data, one_data st k hlt]; exact HR2.out, hbel⟩
        · have hwide : Wide (lns f) x.data.toList := by
            have := HW.out
            rw [List.drop_eq_nil_of_le (by show st.data.toList.length ≤ k; simp; omega)] at this
            exact this.done
          have c8 : wr.cell? ⟨w2.heap.size, 0, none⟩ = some (.int .i64 0) := by rw [(bcell hbel).1 _ _ (by omega)]; exact (Blk.new w2 24 #[.int .i64 0, .int .i64 0]).cell 0
          have hbel3 : Below w.heap.size w wr := (hbel2.alloc (by omega) _).trans (hbel.mono (by omega))
          by_cases hwb : 4000 < x.size
          · clear hwide HW HL HL2 HT
            go_wp2_with fail
            refine (sexpSure_any _).mono ?_
            rintro e w3 ⟨rfl, hb3⟩
            go_wp2_with fail
            go_ret
            exact ⟨rfl, hbel3.trans (hb3.mono (by omega))⟩
          · have hpl := pres_wide HL.out.2.2 hcnt hwide (by omega)
            have hxm : x.size ≤ maxLen := by unfold maxLen; omega
            have HPL := Lib.hid hpl
            have hl3 : LiesB wr w1.heap.size f A 0 f.len := Lies.keep (fun b hb => hb) (fun b o hb => hbel.cell (p := ⟨b, o, none⟩) (by simp; omega)) _ _ _ _ HL2.out
            have HL3 := Lib.hid hl3
            clear hwide HW hpl hl3
            go_wp2_with fail
            refine (parse_any x _ hxm).mono ?_
            rintro e w3 ⟨f', c', a', A', cap', hp', rfl, hl', hb3⟩
            obtain ⟨rfl, rfl, rfl⟩ := HPL.out.one hp'
            have hz4 := hb3.size
            have hz5 : w2.heap.size < w3.heap.size := by omega
            have x0 : w3.cell? ⟨w2.heap.size, 0, none⟩ = some (.int .i64 0) := by rw [(bcell hb3).1 _ _ (by omega)]; exact c8
            have hbel4 : Below w.heap.size w w3 := hbel3.trans (hb3.mono (by omega))
            have hlA : Lies (w3.alloc (.cells #[.int .i64 0, .int .i64 0] 24)) (fun b => b < w3.heap.size) f A' 0 f.len :=
              Lies.keep (fun b hb => hb.2) (fun b o hb => World.cell?_alloc_lt _ _ _ hb.2) _ _ _ _ hl'
            have hlB : Lies (w3.alloc (.cells #[.int .i64 0, .int .i64 0] 24)) (fun b => b < w3.heap.size) f A 0 f.len :=
              Lies.keep (fun b hb => by omega) (fun b o hb => by rw [World.cell?_alloc_lt _ _ _ (by simp; omega), hb3.cell (p := ⟨b, o, none⟩) (by simp; omega)]) _ _ _ _ HL3.out
            have HX := Lib.hid (And.intro hlA hlB)
            clear hlA hlB hl' hb3 hp' HL HL2 HL3 HT hbel2 HST c8 HPL hbel
            go_wp2_with fail
            refine (sexpSure_any _).mono ?_
            rintro e w4 ⟨rfl, hb4⟩
            have hlA4 : Lies w4 (fun b => b < w3.heap.size) f A' 0 f.len := Lies.keep (fun _ h => h) (fun b o hb => hb4.cell (p := ⟨b, o, none⟩) (by simp; omega)) _ _ _ _ HX.out.1
            have hlB4 : Lies w4 (fun b => b < w3.heap.size) f A 0 f.len := Lies.keep (fun _ h => h) (fun b o hb => hb4.cell (p := ⟨b, o, none⟩) (by simp; omega)) _ _ _ _ HX.out.2
            have hbel5 : Below w.heap.size w w4 := (hbel4.alloc (by omega) _).trans (hb4.mono (by simp; omega))
            have HC := Lib.hid (sameSexps_any (f.cnt + 1) f A' A f.len cap' cap _ w4 (by omega) hlA4 hlB4 (by omega) (by omega))
            clear hlA4 hlB4 HX hb4 x0 hbel4
            go_wp2_with fail
            refine HC.out.mono ?_
            rintro e w5 ⟨rfl, m, rfl⟩
            go_wp2_with fail
            go_ret
            exact ⟨rfl, below_drewN hbel5 _⟩
      case round =>
        clear HX hx8
        obtain ⟨x, k, rfl, rfl, hk, hxs, HW, hbel⟩ := hrel
        have hz3 : w2.heap.size + 1 ≤ wr.heap.size := by have := hbel.size; simpa using this
        by_cases hlt : k < st.size
        · have hrest : WideTo (lns f) x.data.toList (st[k] :: st.data.toList.drop (k + 1)) := by rw [← drop_at st k hlt]; exact HW.out
          have HR := Lib.hid hrest
          clear hrest HW
          by_cases c32 : st[k].toNat = 32
          · have hcc : st[k] = 32 ∨ st[k] = 10 := by left; exact UInt8.toNat_inj.1 c32
            have HR2 := Lib.hid (fun g hg => HR.out.blank hcc (g := g) hg)
            have q1 : ((st[k].toNat : Int) == 32) = true := by rw [beq_iff_eq]; omega
            have HS := Lib.hid hxs
            clear c32 hcc
            go_wp2_with fail
            refine (picked_some _ 3 _ (by omega) (by omega)).mono ?_
            rintro e w' ⟨p, rfl, hp0, hp1, rfl⟩
            obtain rfl | rfl | rfl : p = 0 ∨ p = 1 ∨ p = 2 := by omega
            all_goals go_wp2_with fail
            all_goals go_roundw
            case measure => simp [intOf]; omega
            case measure => simp [intOf]; omega
            case measure => simp [intOf]; omega
            case rel => exact ⟨_, k + 1, rfl, by go_num, by omega, by rw [ByteArray.size_append]; have := HS.out; show _ + 2 ≤ _; omega, by show WideTo _ _ _; rw [add_data]; exact HR2.out _ (.inl rfl), hbel.alloc hz3 _⟩
            case rel => exact ⟨_, k + 1, rfl, by go_num, by omega, by rw [ByteArray.size_append]; have := HS.out; show _ + 3 ≤ _; omega, by show WideTo _ _ _; rw [add_data]; exact HR2.out _ (.inr (.inl rfl)), hbel.alloc hz3 _⟩
            case rel => exact ⟨_, k + 1, rfl, by go_num, by omega, by rw [ByteArray.size_append]; have := HS.out; show _ + 5 ≤ _; omega, by show WideTo _ _ _; rw [add_data]; exact HR2.out _ (.inr (.inr rfl)), hbel.alloc hz3 _⟩
          by_cases c10 : st[k].toNat = 10
          · have hcc : st[k] = 32 ∨ st[k] = 10 := by right; exact UInt8.toNat_inj.1 c10
            have HR2 := Lib.hid (fun g hg => HR.out.blank hcc (g := g) hg)
            have q1 : ((st[k].toNat : Int) == 32) = false := by rw [beq_eq_false_iff_ne]; omega
            have q2 : ((st[k].toNat : Int) == 10) = true := by rw [beq_iff_eq]; omega
            have HS := Lib.hid hxs
            clear c32 c10 hcc
            go_wp2_with fail
            refine (picked_some _ 3 _ (by omega) (by omega)).mono ?_
            rintro e w' ⟨p, rfl, hp0, hp1, rfl⟩
            obtain rfl | rfl | rfl : p = 0 ∨ p = 1 ∨ p = 2 := by omega
            all_goals go_wp2_with fail
            all_goals go_roundw
            case measure => simp [intOf]; omega
            case measure => simp [intOf]; omega
            case measure => simp [intOf]; omega
            case rel => exact ⟨_, k + 1, rfl, by go_num, by omega, by rw [ByteArray.size_append]; have := HS.out; show _ + 2 ≤ _; omega, by show WideTo _ _ _; rw [add_data]; exact HR2.out _ (.inl rfl), hbel.alloc hz3 _⟩
            case rel => exact ⟨_, k + 1, rfl, by go_num, by omega, by rw [ByteArray.size_append]; have := HS.out; show _ + 3 ≤ _; omega, by show WideTo _ _ _; rw [add_data]; exact HR2.out _ (.inr (.inl rfl)), hbel.alloc hz3 _⟩
            case rel => exact ⟨_, k + 1, rfl, by go_num, by omega, by rw [ByteArray.size_append]; have := HS.out; show _ + 5 ≤ _; omega, by show WideTo _ _ _; rw [add_data]; exact HR2.out _ (.inr (.inr rfl)), hbel.alloc hz3 _⟩
          by_cases c40 : st[k].toNat = 40
          · have hcc : st[k] = 40 ∨ st[k] = 41 := by left; exact UInt8.toNat_inj.1 c40
            have HR2 := Lib.hid (fun g hg => HR.out.brack hcc (g := g) hg)
            have q1 : ((st[k].toNat : Int) == 32) = false := by rw [beq_eq_false_iff_ne]; omega
            have q2 : ((st[k].toNat : Int) == 10) = false := by rw [beq_eq_false_iff_ne]; omega
            have q3 : ((st[k].toNat : Int) == 40) = true := by rw [beq_iff_eq]; omega
            clear c32 c10 c40 hcc HR
            obtain ⟨p, hp, hp0, hp1⟩ : ∃ p : Int, IntKind.i64.wrap (IntKind.i64.wrap (gap.tdiv 9) + ↑k) % 2 = p ∧ 0 ≤ p ∧ p < 2 := ⟨_, rfl, by omega, by omega⟩
            have HP := Lib.hid hp
            clear hp
            have hc8 : wr.cell? ⟨w2.heap.size, 0, none⟩ = some (.int .i64 0) := by rw [(bcell hbel).1 _ _ (by omega)]; exact (Blk.new w2 24 #[.int .i64 0, .int .i64 0]).cell 0
            go_wp2_with fail
            obtain rfl | rfl : p = 0 ∨ p = 1 := by omega
            all_goals clear hp0 hp1
            · have c1 : (9223372036854775807 < 1 + (min (k + 1) st.size - k)) = False := eq_false (by omega)
              have c2 : (9223372036854775807 < 1 + (min (k + 1) st.size - k)) = False := eq_false (by omega)
              have c3 : (9223372036854775807 < x.size + (1 + (min (k + 1) st.size - k))) = False := eq_false (by omega)
              have HH := Lib.hid (And.intro hbel (And.intro hz3 hxs))
              clear hbel hz3 hxs
              have r2 : (0 : Int) ≤ ↑k + 1 := by omega
              have r3 : ((k : Int) + 1).toNat = k + 1 := by omega
              have r1 : IntKind.i64.wrap (↑k + 1) = ↑k + 1 := IntWalk.i64_in _ (by omega)
              have i1 : (0 : Int) ≤ ↑k := by omega
              have i2 : (k : Int) ≤ ↑k + 1 := by omega
              have i3 : (k : Int) + 1 ≤ (st.size : Int) := by omega
              go_region_with ((go_at_call 27; refine (picked_two _ 0 _ HP.out).mono ?_; rintro e w' ⟨rfl, rfl⟩))
              all_goals clear r1 r2 r3 c1 c2 c3 i1 i2 i3
              all_goals obtain ⟨hbel, hz3, hxs⟩ := HH.out
              all_goals have HS := Lib.hid hxs
              all_goals clear hxs
              all_goals go_wp2_with fail
              all_goals go_roundw
              all_goals first | (simp [intOf]; omega) | exact ⟨_, k + 1, rfl, by go_num, by omega, by have := HS.out; simp only [ByteArray.size_append, ByteArray.size_extract]; show _ + (1 + _ + 0) ≤ _; omega, by show WideTo _ _ _; rw [add_data, add_data, add_data, one_data st k hlt]; exact HR2.out _ (.inl rfl), below_drew (hbel.alloc hz3 _)⟩
            · have c1 : (9223372036854775807 < 1 + (min (k + 1) st.size - k)) = False := eq_false (by omega)
              have c2 : (9223372036854775807 < 1 + (min (k + 1) st.size - k) + 1) = False := eq_false (by omega)
              have c3 : (9223372036854775807 < x.size + (1 + (min (k + 1) st.size - k) + 1)) = False := eq_false (by omega)
              have HH := Lib.hid (And.intro hbel (And.intro hz3 hxs))
              clear hbel hz3 hxs
              have r2 : (0 : Int) ≤ ↑k + 1 := by omega
              have r3 : ((k : Int) + 1).toNat = k + 1 := by omega
              have r1 : IntKind.i64.wrap (↑k + 1) = ↑k + 1 := IntWalk.i64_in _ (by omega)
              have i1 : (0 : Int) ≤ ↑k := by omega
              have i2 : (k : Int) ≤ ↑k + 1 := by omega
              have i3 : (k : Int) + 1 ≤ (st.size : Int) := by omega
              go_region_with ((go_at_call 27; refine (picked_two _ 1 _ HP.out).mono ?_; rintro e w' ⟨rfl, rfl⟩))
              all_goals clear r1 r2 r3 c1 c2 c3 i1 i2 i3
              all_goals obtain ⟨hbel, hz3, hxs⟩ := HH.out
              all_goals have HS := Lib.hid hxs
              all_goals clear hxs
              all_goals go_wp2_with fail
              all_goals go_roundw
              all_goals first | (simp [intOf]; omega) | exact ⟨_, k + 1, rfl, by go_num, by omega, by have := HS.out; simp only [ByteArray.size_append, ByteArray.size_extract]; show _ + (1 + _ + 1) ≤ _; omega, by show WideTo _ _ _; rw [add_data, add_data, add_data, one_data st k hlt]; exact HR2.out _ (.inr rfl), below_drew (hbel.alloc hz3 _)⟩
          by_cases c41 : st[k].toNat = 41
          · have hcc : st[k] = 40 ∨ st[k] = 41 := by right; exact UInt8.toNat_inj.1 c41
            have HR2 := Lib.hid (fun g hg => HR.out.brack hcc (g := g) hg)
            have q1 : ((st[k].toNat : Int) == 32) = false := by rw [beq_eq_false_iff_ne]; omega
            have q2 : ((st[k].toNat : Int) == 10) = false := by rw [beq_eq_false_iff_ne]; omega
            have q3 : ((st[k].toNat : Int) == 40) = false := by rw [beq_eq_false_iff_ne]; omega
            have q4 : ((st[k].toNat : Int) == 41) = true := by rw [beq_iff_eq]; omega
            clear c32 c10 c40 c41 hcc HR
            obtain ⟨p, hp, hp0, hp1⟩ : ∃ p : Int, IntKind.i64.wrap (IntKind.i64.wrap (gap.tdiv 9) + ↑k) % 2 = p ∧ 0 ≤ p ∧ p < 2 := ⟨_, rfl, by omega, by omega⟩
            have HP := Lib.hid hp
            clear hp
            have hc8 : wr.cell? ⟨w2.heap.size, 0, none⟩ = some (.int .i64 0) := by rw [(bcell hbel).1 _ _ (by omega)]; exact (Blk.new w2 24 #[.int .i64 0, .int .i64 0]).cell 0
            go_wp2_with fail
            obtain rfl | rfl : p = 0 ∨ p = 1 := by omega
            all_goals clear hp0 hp1
            · have c1 : (9223372036854775807 < 1 + (min (k + 1) st.size - k)) = False := eq_false (by omega)
              have c2 : (9223372036854775807 < 1 + (min (k + 1) st.size - k)) = False := eq_false (by omega)
              have c3 : (9223372036854775807 < x.size + (1 + (min (k + 1) st.size - k))) = False := eq_false (by omega)
              have HH := Lib.hid (And.intro hbel (And.intro hz3 hxs))
              clear hbel hz3 hxs
              have r2 : (0 : Int) ≤ ↑k + 1 := by omega
              have r3 : ((k : Int) + 1).toNat = k + 1 := by omega
              have r1 : IntKind.i64.wrap (↑k + 1) = ↑k + 1 := IntWalk.i64_in _ (by omega)
              have i1 : (0 : Int) ≤ ↑k := by omega
              have i2 : (k : Int) ≤ ↑k + 1 := by omega
              have i3 : (k : Int) + 1 ≤ (st.size : Int) := by omega
              go_region_with ((go_at_call 27; refine (picked_two _ 0 _ HP.out).mono ?_; rintro e w' ⟨rfl, rfl⟩))
              all_goals clear r1 r2 r3 c1 c2 c3 i1 i2 i3
              all_goals obtain ⟨hbel, hz3, hxs⟩ := HH.out
              all_goals have HS := Lib.hid hxs
              all_goals clear hxs
              all_goals go_wp2_with fail
              all_goals go_roundw
              all_goals first | (simp [intOf]; omega) | exact ⟨_, k + 1, rfl, by go_num, by omega, by have := HS.out; simp only [ByteArray.size_append, ByteArray.size_extract]; show _ + (1 + _ + 0) ≤ _; omega, by show WideTo _ _ _; rw [add_data, add_data, add_data, one_data st k hlt]; exact HR2.out _ (.inl rfl), below_drew (hbel.alloc hz3 _)⟩
            · have c1 : (9223372036854775807 < 1 + (min (k + 1) st.size - k)) = False := eq_false (by omega)
              have c2 : (9223372036854775807 < 1 + (min (k + 1) st.size - k) + 1) = False := eq_false (by omega)
              have c3 : (9223372036854775807 < x.size + (1 + (min (k + 1) st.size - k) + 1)) = False := eq_false (by omega)
              have HH := Lib.hid (And.intro hbel (And.intro hz3 hxs))
              clear hbel hz3 hxs
              have r2 : (0 : Int) ≤ ↑k + 1 := by omega
              have r3 : ((k : Int) + 1).toNat = k + 1 := by omega
              have r1 : IntKind.i64.wrap (↑k + 1) = ↑k + 1 := IntWalk.i64_in _ (by omega)
              have i1 : (0 : Int) ≤ ↑k := by omega
              have i2 : (k : Int) ≤ ↑k + 1 := by omega
              have i3 : (k : Int) + 1 ≤ (st.size : Int) := by omega
              go_region_with ((go_at_call 27; refine (picked_two _ 1 _ HP.out).mono ?_; rintro e w' ⟨rfl, rfl⟩))
              all_goals clear r1 r2 r3 c1 c2 c3 i1 i2 i3
              all_goals obtain ⟨hbel, hz3, hxs⟩ := HH.out
              all_goals have HS := Lib.hid hxs
              all_goals clear hxs
              all_goals go_wp2_with fail
              all_goals go_roundw
              all_goals first | (simp [intOf]; omega) | exact ⟨_, k + 1, rfl, by go_num, by omega, by have := HS.out; simp only [ByteArray.size_append, ByteArray.size_extract]; show _ + (1 + _ + 1) ≤ _; omega, by show WideTo _ _ _; rw [add_data, add_data, add_data, one_data st k hlt]; exact HR2.out _ (.inr rfl), below_drew (hbel.alloc hz3 _)⟩
          have HR2 := Lib.hid (HR.out.byte (fun h => h.elim (fun h => c32 (by rw [h]; rfl)) (fun h => c10 (by rw [h]; rfl))) (fun h => h.elim (fun h => c40 (by rw [h]; rfl)) (fun h => c41 (by rw [h]; rfl))))
          have q1 : ((st[k].toNat : Int) == 32) = false := by rw [beq_eq_false_iff_ne]; omega
          have q2 : ((st[k].toNat : Int) == 10) = false := by rw [beq_eq_false_iff_ne]; omega
          have q3 : ((st[k].toNat : Int) == 40) = false := by rw [beq_eq_false_iff_ne]; omega
          have q4 : ((st[k].toNat : Int) == 41) = false := by rw [beq_eq_false_iff_ne]; omega
          have HS := Lib.hid hxs
          clear c32 c10 c40 c41 HR
          go_wp2_with fail
          go_roundw
          case measure => simp [intOf]; omega
          case rel => exact ⟨_, k + 1, rfl, by go_num, by omega, by have := HS.out; simp only [ByteArray.size_append, ByteArray.size_extract]; omega, by show WideTo _ _ _; rw [add_data, one_data st k hlt]; exact HR2.out, hbel⟩
        · have hwide : Wide (lns f) x.data.toList := by
            have := HW.out
            rw [List.drop_eq_nil_of_le (by show st.data.toList.length ≤ k; simp; omega)] at this
            exact this.done
          have c8 : wr.cell? ⟨w2.heap.size, 0, none⟩ = some (.int .i64 0) := by rw [(bcell hbel).1 _ _ (by omega)]; exact (Blk.new w2 24 #[.int .i64 0, .int .i64 0]).cell 0
          have hbel3 : Below w.heap.size w wr := (hbel2.alloc (by omega) _).trans (hbel.mono (by omega))
          by_cases hwb : 4000 < x.size
          · clear hwide HW HL HL2 HT
            go_wp2_with fail
            refine (sexpSure_any _).mono ?_
            rintro e w3 ⟨rfl, hb3⟩
            go_wp2_with fail
            go_ret
            exact ⟨rfl, hbel3.trans (hb3.mono (by omega))⟩
          · have hpl := pres_wide HL.out.2.2 hcnt hwide (by omega)
            have hxm : x.size ≤ maxLen := by unfold maxLen; omega
            have HPL := Lib.hid hpl
            have hl3 : LiesB wr w1.heap.size f A 0 f.len := Lies.keep (fun b hb => hb) (fun b o hb => hbel.cell (p := ⟨b, o, none⟩) (by simp; omega)) _ _ _ _ HL2.out
            have HL3 := Lib.hid hl3
            clear hwide HW hpl hl3
            go_wp2_with fail
            refine (parse_any x _ hxm).mono ?_
            rintro e w3 ⟨f', c', a', A', cap', hp', rfl, hl', hb3⟩
            obtain ⟨rfl, rfl, rfl⟩ := HPL.out.one hp'
            have hz4 := hb3.size
            have hz5 : w2.heap.size < w3.heap.size := by omega
            have x0 : w3.cell? ⟨w2.heap.size, 0, none⟩ = some (.int .i64 0) := by rw [(bcell hb3).1 _ _ (by omega)]; exact c8
            have hbel4 : Below w.heap.size w w3 := hbel3.trans (hb3.mono (by omega))
            have hlA : Lies (w3.alloc (.cells #[.int .i64 0, .int .i64 0] 24)) (fun b => b < w3.heap.size) f A' 0 f.len :=
              Lies.keep (fun b hb => hb.2) (fun b o hb => World.cell?_alloc_lt _ _ _ hb.2) _ _ _ _ hl'
            have hlB : Lies (w3.alloc (.cells #[.int .i64 0, .int .i64 0] 24)) (fun b => b < w3.heap.size) f A 0 f.len :=
              Lies.keep (fun b hb => by omega) (fun b o hb => by rw [World.cell?_alloc_lt _ _ _ (by simp; omega), hb3.cell (p := ⟨b, o, none⟩) (by simp; omega)]) _ _ _ _ HL3.out
            have HX := Lib.hid (And.intro hlA hlB)
            clear hlA hlB hl' hb3 hp' HL HL2 HL3 HT hbel2 HST c8 HPL hbel
            go_wp2_with fail
            refine (sexpSure_any _).mono ?_
            rintro e w4 ⟨rfl, hb4⟩
            have hlA4 : Lies w4 (fun b => b < w3.heap.size) f A' 0 f.len := Lies.keep (fun _ h => h) (fun b o hb => hb4.cell (p := ⟨b, o, none⟩) (by simp; omega)) _ _ _ _ HX.out.1
            have hlB4 : Lies w4 (fun b => b < w3.heap.size) f A 0 f.len := Lies.keep (fun _ h => h) (fun b o hb => hb4.cell (p := ⟨b, o, none⟩) (by simp; omega)) _ _ _ _ HX.out.2
            have hbel5 : Below w.heap.size w w4 := (hbel4.alloc (by omega) _).trans (hb4.mono (by simp; omega))
            have HC := Lib.hid (sameSexps_any (f.cnt + 1) f A' A f.len cap' cap _ w4 (by omega) hlA4 hlB4 (by omega) (by omega))
            clear hlA4 hlB4 HX hb4 x0 hbel4
            go_wp2_with fail
            refine HC.out.mono ?_
            rintro e w5 ⟨rfl, m, rfl⟩
            go_wp2_with fail
            go_ret
            exact ⟨rfl, below_drewN hbel5 _⟩
      case round =>
        clear HX hx8
        obtain ⟨x, k, rfl, rfl, hk, hxs, HW, hbel⟩ := hrel
        have hz3 : w2.heap.size + 1 ≤ wr.heap.size := by have := hbel.size; simpa using this
        by_cases hlt : k < st.size
        · have hrest : WideTo (lns f) x.data.toList (st[k] :: st.data.toList.drop (k + 1)) := by rw [← drop_at st k hlt]; exact HW.out
          have HR := Lib.hid hrest
          clear hrest HW
          by_cases c32 : st[k].toNat = 32
          · have hcc : st[k] = 32 ∨ st[k] = 10 := by left; exact UInt8.toNat_inj.1 c32
            have HR2 := Lib.hid (fun g hg => HR.out.blank hcc (g := g) hg)
            have q1 : ((st[k].toNat : Int) == 32) = true := by rw [beq_iff_eq]; omega
            have HS := Lib.hid hxs
            clear c32 hcc
            go_wp2_with fail
            refine (picked_some _ 3 _ (by omega) (by omega)).mono ?_
            rintro e w' ⟨p, rfl, hp0, hp1, rfl⟩
            obtain rfl | rfl | rfl : p = 0 ∨ p = 1 ∨ p = 2 := by omega
            all_goals go_wp2_with fail
            all_goals go_roundw
            case measure => simp [intOf]; omega
            case measure => simp [intOf]; omega
            case measure => simp [intOf]; omega
            case rel => exact ⟨_, k + 1, rfl, by go_num, by omega, by rw [ByteArray.size_append]; have := HS.out; show _ + 2 ≤ _; omega, by show WideTo _ _ _; rw [add_data]; exact HR2.out _ (.inl rfl), hbel.alloc hz3 _⟩
            case rel => exact ⟨_, k + 1, rfl, by go_num, by omega, by rw [ByteArray.size_append]; have := HS.out; show _ + 3 ≤ _; omega, by show WideTo _ _ _; rw [add_data]; exact HR2.out _ (.inr (.inl rfl)), hbel.alloc hz3 _⟩
            case rel => exact ⟨_, k + 1, rfl, by go_num, by omega, by rw [ByteArray.size_append]; have := HS.out; show _ + 5 ≤ _; omega, by show WideTo _ _ _; rw [add_data]; exact HR2.out _ (.inr (.inr rfl)), hbel.alloc hz3 _⟩
          by_cases c10 : st[k].toNat = 10
          · have hcc : st[k] = 32 ∨ st[k] = 10 := by right; exact UInt8.toNat_inj.1 c10
            have HR2 := Lib.hid (fun g hg => HR.out.blank hcc (g := g) hg)
            have q1 : ((st[k].toNat : Int) == 32) = false := by rw [beq_eq_false_iff_ne]; omega
            have q2 : ((st[k].toNat : Int) == 10) = true := by rw [beq_iff_eq]; omega
            have HS := Lib.hid hxs
            clear c32 c10 hcc
            go_wp2_with fail
            refine (picked_some _ 3 _ (by omega) (by omega)).mono ?_
            rintro e w' ⟨p, rfl, hp0, hp1, rfl⟩
            obtain rfl | rfl | rfl : p = 0 ∨ p = 1 ∨ p = 2 := by omega
            all_goals go_wp2_with fail
            all_goals go_roundw
            case measure => simp [intOf]; omega
            case measure => simp [intOf]; omega
            case measure => simp [intOf]; omega
            case rel => exact ⟨_, k + 1, rfl, by go_num, by omega, by rw [ByteArray.size_append]; have := HS.out; show _ + 2 ≤ _; omega, by show WideTo _ _ _; rw [add_data]; exact HR2.out _ (.inl rfl), hbel.alloc hz3 _⟩
            case rel => exact ⟨_, k + 1, rfl, by go_num, by omega, by rw [ByteArray.size_append]; have := HS.out; show _ + 3 ≤ _; omega, by show WideTo _ _ _; rw [add_data]; exact HR2.out _ (.inr (.inl rfl)), hbel.alloc hz3 _⟩
            case rel => exact ⟨_, k + 1, rfl, by go_num, by omega, by rw [ByteArray.size_append]; have := HS.out; show _ + 5 ≤ _; omega, by show WideTo _ _ _; rw [add_data]; exact HR2.out _ (.inr (.inr rfl)), hbel.alloc hz3 _⟩
          by_cases c40 : st[k].toNat = 40
          · have hcc : st[k] = 40 ∨ st[k] = 41 := by left; exact UInt8.toNat_inj.1 c40
            have HR2 := Lib.hid (fun g hg => HR.out.brack hcc (g := g) hg)
            have q1 : ((st[k].toNat : Int) == 32) = false := by rw [beq_eq_false_iff_ne]; omega
            have q2 : ((st[k].toNat : Int) == 10) = false := by rw [beq_eq_false_iff_ne]; omega
            have q3 : ((st[k].toNat : Int) == 40) = true := by rw [beq_iff_eq]; omega
            clear c32 c10 c40 hcc HR
            obtain ⟨p, hp, hp0, hp1⟩ : ∃ p : Int, IntKind.i64.wrap (IntKind.i64.wrap (gap.tdiv 9) + ↑k) % 2 = p ∧ 0 ≤ p ∧ p < 2 := ⟨_, rfl, by omega, by omega⟩
            have HP := Lib.hid hp
            clear hp
            have hc8 : wr.cell? ⟨w2.heap.size, 0, none⟩ = some (.int .i64 0) := by rw [(bcell hbel).1 _ _ (by omega)]; exact (Blk.new w2 24 #[.int .i64 0, .int .i64 0]).cell 0
            go_wp2_with fail
            obtain rfl | rfl : p = 0 ∨ p = 1 := by omega
            all_goals clear hp0 hp1
            · have c1 : (9223372036854775807 < 1 + (min (k + 1) st.size - k)) = False := eq_false (by omega)
              have c2 : (9223372036854775807 < 1 + (min (k + 1) st.size - k)) = False := eq_false (by omega)
              have c3 : (9223372036854775807 < x.size + (1 + (min (k + 1) st.size - k))) = False := eq_false (by omega)
              have HH := Lib.hid (And.intro hbel (And.intro hz3 hxs))
              clear hbel hz3 hxs
              have r2 : (0 : Int) ≤ ↑k + 1 := by omega
              have r3 : ((k : Int) + 1).toNat = k + 1 := by omega
              have r1 : IntKind.i64.wrap (↑k + 1) = ↑k + 1 := IntWalk.i64_in _ (by omega)
              have i1 : (0 : Int) ≤ ↑k := by omega
              have i2 : (k : Int) ≤ ↑k + 1 := by omega
              have i3 : (k : Int) + 1 ≤ (st.size : Int) := by omega
              go_region_with ((go_at_call 27; refine (picked_two _ 0 _ HP.out).mono ?_; rintro e w' ⟨rfl, rfl⟩))
              all_goals clear r1 r2 r3 c1 c2 c3 i1 i2 i3
              all_goals obtain ⟨hbel, hz3, hxs⟩ := HH.out
              all_goals have HS := Lib.hid hxs
              all_goals clear hxs
              all_goals go_wp2_with fail
              all_goals go_roundw
              all_goals first | (simp [intOf]; omega) | exact ⟨_, k + 1, rfl, by go_num, by omega, by have := HS.out; simp only [ByteArray.size_append, ByteArray.size_extract]; show _ + (1 + _ + 0) ≤ _; omega, by show WideTo _ _ _; rw [add_data, add_data, add_data, one_data st k hlt]; exact HR2.out _ (.inl rfl), below_drew (hbel.alloc hz3 _)⟩
            · have c1 : (9223372036854775807 < 1 + (min (k + 1) st.size - k)) = False := eq_false (by omega)
              have c2 : (9223372036854775807 < 1 + (min (k + 1) st.size - k) + 1) = False := eq_false (by omega)
              have c3 : (9223372036854775807 < x.size + (1 + (min (k + 1) st.size - k) + 1)) = False := eq_false (by omega)
              have HH := Lib.hid (And.intro hbel (And.intro hz3 hxs))
              clear hbel hz3 hxs
              have r2 : (0 : Int) ≤ ↑k + 1 := by omega
              have r3 : ((k : Int) + 1).toNat = k + 1 := by omega
              have r1 : IntKind.i64.wrap (↑k + 1) = ↑k + 1 := IntWalk.i64_in _ (by omega)
              have i1 : (0 : Int) ≤ ↑k := by omega
              have i2 : (k : Int) ≤ ↑k + 1 := by omega
              have i3 : (k : Int) + 1 ≤ (st.size : Int) := by omega
              go_region_with ((go_at_call 27; refine (picked_two _ 1 _ HP.out).mono ?_; rintro e w' ⟨rfl, rfl⟩))
              all_goals clear r1 r2 r3 c1 c2 c3 i1 i2 i3
              all_goals obtain ⟨hbel, hz3, hxs⟩ := HH.out
              all_goals have HS := Lib.hid hxs
              all_goals clear hxs
              all_goals go_wp2_with fail
              all_goals go_roundw
              all_goals first | (simp [intOf]; omega) | exact ⟨_, k + 1, rfl, by go_num, by omega, by have := HS.out; simp only [ByteArray.size_append, ByteArray.size_extract]; show _ + (1 + _ + 1) ≤ _; omega, by show WideTo _ _ _; rw [add_data, add_data, add_data, one_data st k hlt]; exact HR2.out _ (.inr rfl), below_drew (hbel.alloc hz3 _)⟩
          by_cases c41 : st[k].toNat = 41
          · have hcc : st[k] = 40 ∨ st[k] = 41 := by right; exact UInt8.toNat_inj.1 c41
            have HR2 := Lib.hid (fun g hg => HR.out.brack hcc (g := g) hg)
            have q1 : ((st[k].toNat : Int) == 32) = false := by rw [beq_eq_false_iff_ne]; omega
            have q2 : ((st[k].toNat : Int) == 10) = false := by rw [beq_eq_false_iff_ne]; omega
            have q3 : ((st[k].toNat : Int) == 40) = false := by rw [beq_eq_false_iff_ne]; omega
            have q4 : ((st[k].toNat : Int) == 41) = true := by rw [beq_iff_eq]; omega
            clear c32 c10 c40 c41 hcc HR
            obtain ⟨p, hp, hp0, hp1⟩ : ∃ p : Int, IntKind.i64.wrap (IntKind.i64.wrap (gap.tdiv 9) + ↑k) % 2 = p ∧ 0 ≤ p ∧ p < 2 := ⟨_, rfl, by omega, by omega⟩
            have HP := Lib.hid hp
            clear hp
            have hc8 : wr.cell? ⟨w2.heap.size, 0, none⟩ = some (.int .i64 0) := by rw [(bcell hbel).1 _ _ (by omega)]; exact (Blk.new w2 24 #[.int .i64 0, .int .i64 0]).cell 0
            go_wp2_with fail
            obtain rfl | rfl : p = 0 ∨ p = 1 := by omega
            all_goals clear hp0 hp1
            · have c1 : (9223372036854775807 < 1 + (min (k + 1) st.size - k)) = False := eq_false (by omega)
              have c2 : (9223372036854775807 < 1 + (min (k + 1) st.size - k)) = False := eq_false (by omega)
              have c3 : (9223372036854775807 < x.size + (1 + (min (k + 1) st.size - k))) = False := eq_false (by omega)
              have HH := Lib.hid (And.intro hbel (And.intro hz3 hxs))
              clear hbel hz3 hxs
              have r2 : (0 : Int) ≤ ↑k + 1 := by omega
              have r3 : ((k : Int) + 1).toNat = k + 1 := by omega
              have r1 : IntKind.i64.wrap (↑k + 1) = ↑k + 1 := IntWalk.i64_in _ (by omega)
              have i1 : (0 : Int) ≤ ↑k := by omega
              have i2 : (k : Int) ≤ ↑k + 1 := by omega
              have i3 : (k : Int) + 1 ≤ (st.size : Int) := by omega
              go_region_with ((go_at_call 27; refine (picked_two _ 0 _ HP.out).mono ?_; rintro e w' ⟨rfl, rfl⟩))
              all_goals clear r1 r2 r3 c1 c2 c3 i1 i2 i3
              all_goals obtain ⟨hbel, hz3, hxs⟩ := HH.out
              all_goals have HS := Lib.hid hxs
              all_goals clear hxs
              all_goals go_wp2_with fail
              all_goals go_roundw
              all_goals first | (simp [intOf]; omega) | exact ⟨_, k + 1, rfl, by go_num, by omega, by have := HS.out; simp only [ByteArray.size_append, ByteArray.size_extract]; show _ + (1 + _ + 0) ≤ _; omega, by show WideTo _ _ _; rw [add_data, add_data, add_data, one_data st k hlt]; exact HR2.out _ (.inl rfl), below_drew (hbel.alloc hz3 _)⟩
            · have c1 : (9223372036854775807 < 1 + (min (k + 1) st.size - k)) = False := eq_false (by omega)
              have c2 : (9223372036854775807 < 1 + (min (k + 1) st.size - k) + 1) = False := eq_false (by omega)
              have c3 : (9223372036854775807 < x.size + (1 + (min (k + 1) st.size - k) + 1)) = False := eq_false (by omega)
              have HH := Lib.hid (And.intro hbel (And.intro hz3 hxs))
              clear hbel hz3 hxs
              have r2 : (0 : Int) ≤ ↑k + 1 := by omega
              have r3 : ((k : Int) + 1).toNat = k + 1 := by omega
              have r1 : IntKind.i64.wrap (↑k + 1) = ↑k + 1 := IntWalk.i64_in _ (by omega)
              have i1 : (0 : Int) ≤ ↑k := by omega
              have i2 : (k : Int) ≤ ↑k + 1 := by omega
              have i3 : (k : Int) + 1 ≤ (st.size : Int) := by omega
              go_region_with ((go_at_call 27; refine (picked_two _ 1 _ HP.out).mono ?_; rintro e w' ⟨rfl, rfl⟩))
              all_goals clear r1 r2 r3 c1 c2 c3 i1 i2 i3
              all_goals obtain ⟨hbel, hz3, hxs⟩ := HH.out
              all_goals have HS := Lib.hid hxs
              all_goals clear hxs
              all_goals go_wp2_with fail
              all_goals go_roundw
              all_goals first | (simp [intOf]; omega) | exact ⟨_, k + 1, rfl, by go_num, by omega, by have := HS.out; simp only [ByteArray.size_append, ByteArray.size_extract]; show _ + (1 + _ + 1) ≤ _; omega, by show WideTo _ _ _; rw [add_data, add_data, add_data, one_data st k hlt]; exact HR2.out _ (.inr rfl), below_drew (hbel.alloc hz3 _)⟩
          have HR2 := Lib.hid (HR.out.byte (fun h => h.elim (fun h => c32 (by rw [h]; rfl)) (fun h => c10 (by rw [h]; rfl))) (fun h => h.elim (fun h => c40 (by rw [h]; rfl)) (fun h => c41 (by rw [h]; rfl))))
          have q1 : ((st[k].toNat : Int) == 32) = false := by rw [beq_eq_false_iff_ne]; omega
          have q2 : ((st[k].toNat : Int) == 10) = false := by rw [beq_eq_false_iff_ne]; omega
          have q3 : ((st[k].toNat : Int) == 40) = false := by rw [beq_eq_false_iff_ne]; omega
          have q4 : ((st[k].toNat : Int) == 41) = false := by rw [beq_eq_false_iff_ne]; omega
          have HS := Lib.hid hxs
          clear c32 c10 c40 c41 HR
          go_wp2_with fail
          go_roundw
          case measure => simp [intOf]; omega
          case rel => exact ⟨_, k + 1, rfl, by go_num, by omega, by have := HS.out; simp only [ByteArray.size_append, ByteArray.size_extract]; omega, by show WideTo _ _ _; rw [add_data, one_data st k hlt]; exact HR2.out, hbel⟩
        · have hwide : Wide (lns f) x.data.toList := by
            have := HW.out
            rw [List.drop_eq_nil_of_le (by show st.data.toList.length ≤ k; simp; omega)] at this
            exact this.done
          have c8 : wr.cell? ⟨w2.heap.size, 0, none⟩ = some (.int .i64 0) := by rw [(bcell hbel).1 _ _ (by omega)]; exact (Blk.new w2 24 #[.int .i64 0, .int .i64 0]).cell 0
          have hbel3 : Below w.heap.size w wr := (hbel2.alloc (by omega) _).trans (hbel.mono (by omega))
          by_cases hwb : 4000 < x.size
          · clear hwide HW HL HL2 HT
            go_wp2_with fail
            refine (sexpSure_any _).mono ?_
            rintro e w3 ⟨rfl, hb3⟩
            go_wp2_with fail
            go_ret
            exact ⟨rfl, hbel3.trans (hb3.mono (by omega))⟩
          · have hpl := pres_wide HL.out.2.2 hcnt hwide (by omega)
            have hxm : x.size ≤ maxLen := by unfold maxLen; omega
            have HPL := Lib.hid hpl
            have hl3 : LiesB wr w1.heap.size f A 0 f.len := Lies.keep (fun b hb => hb) (fun b o hb => hbel.cell (p := ⟨b, o, none⟩) (by simp; omega)) _ _ _ _ HL2.out
            have HL3 := Lib.hid hl3
            clear hwide HW hpl hl3
            go_wp2_with fail
            refine (parse_any x _ hxm).mono ?_
            rintro e w3 ⟨f', c', a', A', cap', hp', rfl, hl', hb3⟩
            obtain ⟨rfl, rfl, rfl⟩ := HPL.out.one hp'
            have hz4 := hb3.size
            have hz5 : w2.heap.size < w3.heap.size := by omega
            have x0 : w3.cell? ⟨w2.heap.size, 0, none⟩ = some (.int .i64 0) := by rw [(bcell hb3).1 _ _ (by omega)]; exact c8
            have hbel4 : Below w.heap.size w w3 := hbel3.trans (hb3.mono (by omega))
            have hlA : Lies (w3.alloc (.cells #[.int .i64 0, .int .i64 0] 24)) (fun b => b < w3.heap.size) f A' 0 f.len :=
              Lies.keep (fun b hb => hb.2) (fun b o hb => World.cell?_alloc_lt _ _ _ hb.2) _ _ _ _ hl'
            have hlB : Lies (w3.alloc (.cells #[.int .i64 0, .int .i64 0] 24)) (fun b => b < w3.heap.size) f A 0 f.len :=
              Lies.keep (fun b hb => by omega) (fun b o hb => by rw [World.cell?_alloc_lt _ _ _ (by simp; omega), hb3.cell (p := ⟨b, o, none⟩) (by simp; omega)]) _ _ _ _ HL3.out
            have HX := Lib.hid (And.intro hlA hlB)
            clear hlA hlB hl' hb3 hp' HL HL2 HL3 HT hbel2 HST c8 HPL hbel
            go_wp2_with fail
            refine (sexpSure_any _).mono ?_
            rintro e w4 ⟨rfl, hb4⟩
            have hlA4 : Lies w4 (fun b => b < w3.heap.size) f A' 0 f.len := Lies.keep (fun _ h => h) (fun b o hb => hb4.cell (p := ⟨b, o, none⟩) (by simp; omega)) _ _ _ _ HX.out.1
            have hlB4 : Lies w4 (fun b => b < w3.heap.size) f A 0 f.len := Lies.keep (fun _ h => h) (fun b o hb => hb4.cell (p := ⟨b, o, none⟩) (by simp; omega)) _ _ _ _ HX.out.2
            have hbel5 : Below w.heap.size w w4 := (hbel4.alloc (by omega) _).trans (hb4.mono (by simp; omega))
            have HC := Lib.hid (sameSexps_any (f.cnt + 1) f A' A f.len cap' cap _ w4 (by omega) hlA4 hlB4 (by omega) (by omega))
            clear hlA4 hlB4 HX hb4 x0 hbel4
            go_wp2_with fail
            refine HC.out.mono ?_
            rintro e w5 ⟨rfl, m, rfl⟩
            go_wp2_with fail
            go_ret
            exact ⟨rfl, below_drewN hbel5 _⟩
end Go.Proofs.Ytllgindmcjemeaa
