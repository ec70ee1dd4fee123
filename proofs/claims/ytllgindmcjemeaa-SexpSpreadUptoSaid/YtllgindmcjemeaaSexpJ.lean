/- Walk: the program's reader of a list of expressions. -/
import Derived.Test.YtllgindmcjemeaaSexpI
namespace Go.Proofs.Ytllgindmcjemeaa
open Go.RowKit

def ListGood (g : Nat) (s : ByteArray) (i : Nat) (d : Int) (w : World) (e : Ending) (w' : World) : Prop :=
  ∃ (f : Fo) (e' : Nat) (A : Option Addr) (cap : Nat), Prs s i d f e' 0 0 ∧ e = .returned (.tuple #[.slice A f.len cap, .bool true]) ∧ w.grownBy w' (some g) ∧
    Lies w' (fun b => w.heap.size ≤ b ∧ b < w'.heap.size) f A 0 f.len ∧ ∃ p : Nat, p = (if d = 0 then e' else e' + 1) ∧ Blk w' g 80 #[.string s, .int .i64 p, .int .i64 0, .int .i64 0]
def ListBad (g : Nat) (s : ByteArray) (i : Nat) (d : Int) (w : World) (e : Ending) (w' : World) : Prop :=
  ∃ (e' : Nat) (c a p : Int) (v : Value), Prs s i d .nil e' c a ∧ ¬ c = 0 ∧ e = .returned (.tuple #[v, .bool false]) ∧ w.grownBy w' (some g) ∧ Blk w' g 80 #[.string s, .int .i64 p, .int .i64 c, .int .i64 a]
def ListPost (g : Nat) (s : ByteArray) (i : Nat) (d : Int) (w : World) (e : Ending) (w' : World) : Prop := ListGood g s i d w e w' ∨ ListBad g s i d w e w'

set_option maxRecDepth 100000 in
set_option maxHeartbeats 4000000 in
theorem plist_any (k : Nat) : ∀ (g : Nat) (s : ByteArray) (i : Nat) (d : Int) (w : World), s.size - i < k → s.size ≤ 4000 → i ≤ s.size → 0 ≤ d → d ≤ 41 →
    Blk w g 80 #[.string s, .int .i64 i, .int .i64 0, .int .i64 0] → Calls Try.prog 38 #[.pointer (some ⟨g, 0, none⟩), .int .i64 d] w (ListPost g s i d w) := by
  induction k with
  | zero => intro g s i d w hk; omega
  | succ k ih =>
    intro g s i d w hk hs hi hd0 hd1 hb
    have IH := Lib.hid ih
    have hgw : g < w.heap.size := hb.lt
    obtain ⟨i0, hi0, hz0, hz1, hz2⟩ := info_parts infoSexp
    have HI := Lib.hid (And.intro hi0 (And.intro hz0 (And.intro hz1 hz2)))
    clear ih hi0 hz0 hz1 hz2
    go_enter Try.func38, Try.ntmps38
    go_wp2_with fail
    go_loopg [6] (s.size - i + 1) (fun gk v wr => ∃ (acc : Fo) (j : Nat), Hid (gk = s.size - j + 1) ∧ i ≤ j ∧ j ≤ s.size ∧ acc.len + i ≤ j ∧ Hid (Glue s i d acc j) ∧ Blk wr g 80 #[.string s, .int .i64 j, .int .i64 0, .int .i64 0] ∧ w.grownBy wr (some g) ∧ OwnFo wr w.heap.size v acc)
    case atStart => exact ⟨.nil, i, rfl, Nat.le_refl _, hi, by simp [Fo.len], Glue.refl s i d, hb, only_refl _ _, OwnFo.none _ _⟩
    case round =>
      obtain ⟨acc, j0, HGK, hj0, hj1, hacc, HG0, hblk0, honly0, hown0⟩ := hrel
      have hz0 : w.heap.size ≤ wr.heap.size := honly0.size
      clear hb
      go_wp2_with fail
      refine (blanks_any g s j0 0 0 _ hs hj1 hblk0).mono ?_
      rintro e w1 ⟨rfl, j, hj2, hj3, hc1, hc2, hpr, hblk, honly1⟩
      have honly : w.grownBy w1 (some g) := only_trans honly0 honly1
      have hown := hown0.kept honly1 (fun x hx => by injection hx; omega)
      have HG : Hid (Glue s i d acc j) := HG0.out.skip (hpr d)
      have hz1 : w.heap.size ≤ w1.heap.size := honly.size
      have hgz : g < w1.heap.size := hblk.lt
      have hacc2 : acc.len + i ≤ j := by omega
      have HC1 := Lib.hid hc1
      have HC2 := Lib.hid hc2
      have x0 : w1.cell? ⟨g, 0, none⟩ = some (.string s) := hblk.cell 0
      have x1 : w1.cell? ⟨g, 1, none⟩ = some (.int .i64 j) := hblk.cell 1
      have z1 : w1.frozen? ⟨g, 1, none⟩ = false := hblk.frozen 1
      clear hpr honly0 honly1 hown0 HG0 hblk0 hc1 hc2
      by_cases hlt : j < s.size
      · have HCL := Lib.hid (cls_at s j hlt)
        have hne : ((j : Int) == (s.size : Int)) = false := by rw [beq_eq_false_iff_ne]; omega
        rcases clsB_cases s[j].toNat with ⟨k1, k2⟩ | ⟨k1, k2⟩ | ⟨k1, k2⟩ | ⟨k1, k2⟩ | ⟨k1, k2⟩ | ⟨k1, k2⟩
        · exact absurd (HCL.out.trans k1) HC1.out
        · exact absurd (HCL.out.trans k1) HC2.out
        · have hcl : cls s j = 3 := HCL.out.trans k1
          have HK := Lib.hid hcl
          have q1 : ((s[j].toNat : Int) == 41) = true := by rw [beq_iff_eq]; omega
          clear hcl k1 k2 HCL HC1 HC2
          by_cases hd : d = 0
          · subst hd
            go_wp2_with fail
            go_quiet (fail)
            go_wp2_with fail
            go_quiet (fail)
            go_wp2_with fail
            refine (fail_any g s j 0 0 1 _ (hblk.drewN _)).mono ?_
            rintro e w2 ⟨rfl, hblk2, honly2⟩
            go_wp2_with fail
            go_ret2
            exact .inr ⟨j, 1, j, j, _, HG.out.bad (by omega) (.shutTop HK.out rfl), by omega, rfl, only_trans (only_drewN honly _) honly2, hblk2⟩
          · have hde : (d == 0) = false := by rw [beq_eq_false_iff_ne]; exact hd
            have HD := Lib.hid hd
            have HEJ : Hid (((j + 1 : Nat) : Int) = (j : Int) + 1) := by show _ = _; omega
            obtain ⟨A, cap, rfl, hl⟩ := (hown.setCell hgw 1 (.int .i64 ((j : Int) + 1))).lies
            clear hd
            go_wp2_with fail
            go_quiet (fail)
            go_wp2_with fail
            go_quiet (fail)
            go_wp2_with fail
            go_ret2
            refine .inl ⟨acc, j, A, cap, HG.out.good (.shut HK.out HD.out), rfl, only_drewN (only_setCell (p := ⟨g, 1, none⟩) honly (.inl rfl) _) _, Lies.drewN hl _, j + 1, by rw [if_neg HD.out], ?_⟩
            rw [HEJ.out]
            exact (hblk.set_ 1 (.int .i64 ((j : Int) + 1))).drewN _
        · have hcl : cls s j = 4 := HCL.out.trans k1
          have HK := Lib.hid hcl
          have q1 : ((s[j].toNat : Int) == 41) = false := by rw [beq_eq_false_iff_ne]; omega
          have q2 : ((s[j].toNat : Int) == 40) = true := by rw [beq_iff_eq]; omega
          clear hcl k1 k2 HCL HC1 HC2
          by_cases hdp : 40 < d
          · have HD := Lib.hid hdp
            go_wp2_with fail
            go_quiet (fail)
            go_wp2_with fail
            go_quiet (fail)
            go_wp2_with fail
            go_quiet (fail)
            go_wp2_with fail
            refine (fail_any g s j 0 0 10 _ (hblk.drewN _)).mono ?_
            rintro e w2 ⟨rfl, hblk2, honly2⟩
            go_wp2_with fail
            go_ret2
            exact .inr ⟨_, 10, j, j, _, HG.out.bad (by omega) (.deepList HK.out HD.out), by omega, rfl, only_trans (only_drewN honly _) honly2, hblk2⟩
          · have HEJ : Hid (((j + 1 : Nat) : Int) = (j : Int) + 1) := by show _ = _; omega
            have HD : Hid (¬ 40 < d) := hdp
            have hown1 := hown.setCell hgw 1 (.int .i64 ((j : Int) + 1))
            have hblk1 := hblk.set_ 1 (.int .i64 ((j : Int) + 1))
            have honly1 := only_setCell (p := ⟨g, 1, none⟩) honly (.inl rfl) (.int .i64 ((j : Int) + 1))
            have hlt6 := hown.lt
            go_wp2_with fail
            go_quiet (fail)
            go_wp2_with fail
            go_quiet (fail)
            go_wp2_with fail
            go_quiet (fail)
            go_wp2_with fail
            refine (IH.out g s (j + 1) (d + 1) _ (by omega) hs (by omega) (by omega) (by omega) (by rw [HEJ.out]; exact hblk1.drewN _)).mono ?_
            rintro e w2 (⟨f, e', A, cap, hp, rfl, honly2, hl, p, hpos, hblk2⟩ | ⟨e', c, a, p, v, hp, hc, rfl, honly2, hblk2⟩)
            · rw [if_neg (by omega)] at hpos
              subst hpos
              have hends := hp.ends (by omega) (by omega)
              have hez := (hends.2.2 rfl).2.2 (by omega)
              have he1 : j + 1 ≤ e' := hends.1
              have HP := Lib.hid hp
              have honly3 : w.grownBy w2 (some g) := only_trans (only_drewN honly1 _) honly2
              have hown3 := (hown1.drewN _).kept honly2 (fun x hx => by injection hx; omega)
              have hsz2 : w1.heap.size ≤ w2.heap.size := by have := honly2.size; simpa using this
              have hks : Lies (w2.alloc (.cells #[.string ByteArray.empty, .bool true, .slice A f.len cap] 86)) (fun b => w.heap.size ≤ b ∧ b < (w2.alloc (.cells #[.string ByteArray.empty, .bool true, .slice A f.len cap] 86)).heap.size ∧ u6.ownBlock ≠ some b) f A 0 f.len := by
                refine Lies.keep (fun b hb => ⟨?_, ?_, ?_⟩) (fun b o hb => World.cell?_alloc_lt _ _ _ hb.2) f A 0 f.len hl
                · have := hb.1; simp at this; omega
                · have := hb.2; simp; omega
                · intro e; have h1 := hlt6 b e; have := hb.1; simp at this; omega
              obtain ⟨cells, hrow, hels⟩ := hown3.alloc (.cells #[.string ByteArray.empty, .bool true, .slice A f.len cap] 86)
              have hblk3 := hblk2.alloc (.cells #[.string ByteArray.empty, .bool true, .slice A f.len cap] 86)
              have hne6 : some g ≠ u6.ownBlock := fun e => by have := hlt6 g e.symm; omega
              have honly4 := only_alloc honly3 (.cells #[.string ByteArray.empty, .bool true, .slice A f.len cap] 86)
              have hbase : w.heap.size ≤ (w2.alloc (.cells #[.string ByteArray.empty, .bool true, .slice A f.len cap] 86)).heap.size := by simp; omega
              have HH := Lib.hid (And.intro hks (And.intro hels (And.intro hblk3 (And.intro honly4 (And.intro hrow (And.intro hlt6 hbase))))))
              clear hks hels hblk3 honly4 hp hl honly2 hblk2 hown1 hblk1 honly1 hown3 honly3 hown hblk honly x0 x1 z1 hrow hlt6 hends hbase
              go_wp2_with (at_builtin; refine wpList_append_lies _ rfl (.tmp 86) (.tmp 89) 22 rfl w.heap.size 86 i0 _ 3 48 Try.underlying22 HI.out.1 HI.out.2.1 HI.out.2.2.1 HI.out.2.2.2 rfl (by omega) u6 acc.len cells rfl HH.out.2.2.2.2.1 ⟨w2.heap.size, 0, none⟩ 1 1 [.string ByteArray.empty, .bool true, .slice A f.len cap] rfl rfl (World.news_of_block (cs := #[.string ByteArray.empty, .bool true, .slice A f.len cap]) (t := 86) (fr := (0, 0)) (heap_alloc_new w2 _)) (by simp [Value.oneCell']) (by omega) (by unfold maxLen; omega) (by omega) HH.out.2.2.2.2.2.2 (w2.heap.size + 1) (by simp) ?_; intro gg cp w3 hown5 hgrow hat hlt3)
              obtain ⟨hks, hels, hblk3, honly4, hrow, hlt6, hbase⟩ := HH.out
              have hpush := OwnFo.push (acc := acc) hels (by decide) hks hown5 hgrow (by simpa using hat)
              go_roundg (s.size - (e' + 1) + 1)
              case measure => have := HGK.out; omega
              case rel =>
                refine ⟨_, e' + 1, rfl, by omega, by omega, ?_, HG.out.list HK.out (by have := HD.out; omega) HP.out, hblk3.grown hgrow hne6, only_then honly4 hgrow (fun x hx => .inl (hlt6 x hx).1), hpush⟩
                rw [Fo.len_app]; simp only [Fo.len]; omega
            · go_wp2_with fail
              go_ret2
              exact .inr ⟨e', c, a, p, _, HG.out.bad hc (.listBad HK.out (by have := HD.out; omega) hp hc), hc, rfl, only_trans (only_drewN honly1 _) honly2, hblk2⟩
        · have hcl : cls s j = 5 := HCL.out.trans k1
          have HK := Lib.hid hcl
          have hpw := past_word hcl
          have q1 : ((s[j].toNat : Int) == 41) = false := by rw [beq_eq_false_iff_ne]; omega
          have q2 : ((s[j].toNat : Int) == 40) = false := by rw [beq_eq_false_iff_ne]; omega
          have HL := Lib.hid k2.1
          clear hcl k1 k2 HCL HC1 HC2
          go_wp2_with fail
          go_quiet (fail)
          go_wp2_with fail
          go_quiet (fail)
          go_wp2_with fail
          go_quiet (fail)
          go_wp2_with fail
          go_quiet ((go_at_call 75; first | exact quiet_left (byteOfWord_is _ true HL.out _) | exact quiet_add_left (byteOfWord_is _ true HL.out _)))
          go_wp2_with fail
          generalize hW : World.drewN _ _ = W
          have HW := Lib.hid hW
          clear hW
          have hblkW : Blk W g 80 #[.string s, .int .i64 j, .int .i64 0, .int .i64 0] := by rw [← HW.out]; exact hblk.drewN _
          have honlyW : w.grownBy W (some g) := by rw [← HW.out]; exact only_drewN honly _
          have hownW : OwnFo W w.heap.size u6 acc := by rw [← HW.out]; exact hown.drewN _
          clear hblk honly hown x0 x1 z1 HW
          have x0 : W.cell? ⟨g, 0, none⟩ = some (.string s) := hblkW.cell 0
          have x1 : W.cell? ⟨g, 1, none⟩ = some (.int .i64 j) := hblkW.cell 1
          have z1 : W.frozen? ⟨g, 1, none⟩ = false := hblkW.frozen 1
          go_loop [9] (fun t => ∃ t' : Nat, t = .int .i64 t' ∧ j ≤ t' ∧ t' ≤ s.size ∧ Hid (past letterU s j = past letterU s t')) (fun t => s.size - (intOf t).toNat)
          case atStart => exact ⟨j, rfl, Nat.le_refl _, hj3, rfl⟩
          case round =>
            obtain ⟨t, rfl, ht0, ht1, HT⟩ := hrel
            by_cases htl : t < s.size
            · cases hle : letterU s[t] with
              | true =>
                have HLE := Lib.hid hle
                clear hle
                go_wp2_with fail
                refine (byteOfWord_is _ true HLE.out _).mono ?_
                rintro e w' ⟨rfl, rfl⟩
                go_wp2_with fail
                go_round
                case rel => exact ⟨t + 1, by go_num, by omega, by omega, HT.out.trans (past_step _ _ _ htl HLE.out)⟩
                case measure => simp [intOf]; omega
              | false =>
                have HLE := Lib.hid hle
                have HE := Lib.hid (HT.out.trans (past_stop _ _ _ htl hle))
                clear hle
                go_wp2_with fail
                refine (byteOfWord_is _ false HLE.out _).mono ?_
                rintro e w' ⟨rfl, rfl⟩
                go_wp2_with fail
                · have hlong : 24 < t - j := by omega
                  refine (fail_any g s j 0 0 12 _ hblkW).mono ?_
                  rintro e w2 ⟨rfl, hblk2, honly2⟩
                  go_wp2_with fail
                  go_ret2
                  exact .inr ⟨_, 12, j, j, _, HG.out.bad (by omega) (.long HK.out (by rw [HE.out]; exact hlong)), by omega, rfl, only_trans honlyW honly2, hblk2⟩
                · have hlong : ¬ 24 < t - j := by omega
                  have hdeep : 40 < d := by assumption
                  refine (fail_any g s j 0 0 10 _ hblkW).mono ?_
                  rintro e w2 ⟨rfl, hblk2, honly2⟩
                  go_wp2_with fail
                  go_ret2
                  exact .inr ⟨_, 10, j, j, _, HG.out.bad (by omega) (.deepWord HK.out (by rw [HE.out]; exact hlong) hdeep), by omega, rfl, only_trans honlyW honly2, hblk2⟩
                · have hlong : Hid (¬ 24 < t - j) := by show ¬ _; omega
                  have hdeep : d ≤ 40 := by assumption
                  have hjt : j < t := by rw [HE.out] at hpw; exact hpw.1
                  have hlt6 := hownW.lt
                  obtain ⟨cells, hrow, hels⟩ := hownW.alloc (.cells #[.string (s.extract j t), .bool false, .slice none 0 0] 86)
                  have hblk3 := hblkW.alloc (.cells #[.string (s.extract j t), .bool false, .slice none 0 0] 86)
                  have hne6 : some g ≠ u6.ownBlock := fun e => by have := hlt6 g e.symm; omega
                  have hgW : g < W.heap.size := hblkW.lt
                  have honly4 := only_alloc honlyW (.cells #[.string (s.extract j t), .bool false, .slice none 0 0] 86)
                  have hbase : w.heap.size ≤ W.heap.size := honlyW.size
                  have hwsz : (s.extract j t).size ≤ maxLen := by simp only [ByteArray.size_extract, maxLen]; omega
                  have HH := Lib.hid (And.intro hels (And.intro hblk3 (And.intro honly4 (And.intro hrow (And.intro hlt6 hwsz)))))
                  have hti : (j : Int) ≤ (t : Int) := by omega
                  have hts : (t : Int) ≤ (s.size : Int) := by omega
                  have hj00 : (0 : Int) ≤ (j : Int) := by omega
                  clear hels hblk3 honly4 hrow hlt6 hblkW honlyW hownW z1 hwsz
                  go_region_held3 (fun w' => w'.cell? ⟨g, 0, none⟩ = some (.string s) ∧ w'.cell? ⟨g, 1, none⟩ = some (.int .i64 j))
                    (first
                      | go_keep
                      | (go_split_ands
                         refine ⟨?_, ?_⟩
                         · (rw [hgrow.cell_far _ (by simp; omega) hne6]; assumption)
                         · (rw [hgrow.cell_far _ (by simp; omega) hne6]; assumption)))
                    ((refine step_append_lies _ (by rfl) _ _ _ (by rfl) w.heap.size 86 i0 _ 3 48 Try.underlying22 HI.out.1 HI.out.2.1 HI.out.2.2.1 HI.out.2.2.2 rfl (by omega) u6 acc.len cells (by rfl) (HH.out.2.2.2.1.drew)
                        ⟨W.heap.size, 0, none⟩ 1 1 [.string (s.extract j t), .bool false, .slice none 0 0] (by rfl) (by rfl) (World.news_of_block (cs := #[.string (s.extract j t), .bool false, .slice none 0 0]) (t := 86) (fr := (0, 0)) (heap_alloc_new W _)) (by simp [Value.oneCell'])
                        (by omega) (by unfold maxLen; omega) (by omega) (by simp; omega) (W.heap.size + 1) (by simp) ?_; intro gg cp w3 hown5 hgrow hat hlt3))
                  obtain ⟨hels, hblk3, honly4, hrow, hlt6, hwsz⟩ := HH.out
                  have hb3 := (Blk.drew hblk3).grown hgrow hne6
                  have y1 : w3.cell? ⟨g, 1, none⟩ = some (.int .i64 j) := hb3.cell 1
                  have y2 : w3.frozen? ⟨g, 1, none⟩ = false := hb3.frozen 1
                  have hpush := OwnFo.push (w := (W.alloc (.cells #[.string (s.extract j t), .bool false, .slice none 0 0] 86)).drew) (acc := acc) (ks := .nil) (Els.keep (w := W.alloc (.cells #[.string (s.extract j t), .bool false, .slice none 0 0] 86)) (w' := (W.alloc (.cells #[.string (s.extract j t), .bool false, .slice none 0 0] 86)).drew) (fun _ h => h) (fun _ _ _ => rfl) _ _ hels) hwsz rfl hown5 hgrow (by simpa using hat)
                  have honly5 : w.grownBy w3 (some g) := only_then (only_drew honly4) hgrow (fun x hx => .inl (hlt6 x hx).1)
                  have hgl := HG.out.word HK.out (by rw [HE.out]; exact hlong.out) (by omega)
                  rw [HE.out] at hgl
                  have HGL := Lib.hid hgl
                  have HX := Lib.hid (And.intro hb3 (And.intro hpush honly5))
                  clear hb3 hpush honly5 hgl hels hblk3 honly4 hrow hlt6 hwsz hown5 hgrow HH
                  go_wp2_with fail
                  go_roundg (s.size - t + 1)
                  case measure => have := HGK.out; omega
                  case rel =>
                    obtain ⟨hb3, hpush, honly5⟩ := HX.out
                    refine ⟨_, t, rfl, by omega, ht1, ?_, HGL.out, hb3.set_ 1 (.int .i64 t), only_setCell (p := ⟨g, 1, none⟩) honly5 (.inl rfl) _, hpush.setCell hgw 1 _⟩
                    rw [Fo.len_app]; simp only [Fo.len]; omega
            · have HE := Lib.hid (HT.out.trans (past_end letterU s t (by omega)))
              go_wp2_with fail
              · have hlong : 24 < t - j := by omega
                refine (fail_any g s j 0 0 12 _ hblkW).mono ?_
                rintro e w2 ⟨rfl, hblk2, honly2⟩
                go_wp2_with fail
                go_ret2
                exact .inr ⟨_, 12, j, j, _, HG.out.bad (by omega) (.long HK.out (by rw [HE.out]; exact hlong)), by omega, rfl, only_trans honlyW honly2, hblk2⟩
              · have hlong : ¬ 24 < t - j := by omega
                have hdeep : 40 < d := by assumption
                refine (fail_any g s j 0 0 10 _ hblkW).mono ?_
                rintro e w2 ⟨rfl, hblk2, honly2⟩
                go_wp2_with fail
                go_ret2
                exact .inr ⟨_, 10, j, j, _, HG.out.bad (by omega) (.deepWord HK.out (by rw [HE.out]; exact hlong) hdeep), by omega, rfl, only_trans honlyW honly2, hblk2⟩
              · have hlong : Hid (¬ 24 < t - j) := by show ¬ _; omega
                have hdeep : d ≤ 40 := by assumption
                have hjt : j < t := by rw [HE.out] at hpw; exact hpw.1
                have hlt6 := hownW.lt
                obtain ⟨cells, hrow, hels⟩ := hownW.alloc (.cells #[.string (s.extract j t), .bool false, .slice none 0 0] 86)
                have hblk3 := hblkW.alloc (.cells #[.string (s.extract j t), .bool false, .slice none 0 0] 86)
                have hne6 : some g ≠ u6.ownBlock := fun e => by have := hlt6 g e.symm; omega
                have hgW : g < W.heap.size := hblkW.lt
                have honly4 := only_alloc honlyW (.cells #[.string (s.extract j t), .bool false, .slice none 0 0] 86)
                have hbase : w.heap.size ≤ W.heap.size := honlyW.size
                have hwsz : (s.extract j t).size ≤ maxLen := by simp only [ByteArray.size_extract, maxLen]; omega
                have HH := Lib.hid (And.intro hels (And.intro hblk3 (And.intro honly4 (And.intro hrow (And.intro hlt6 hwsz)))))
                have hti : (j : Int) ≤ (t : Int) := by omega
                have hts : (t : Int) ≤ (s.size : Int) := by omega
                have hj00 : (0 : Int) ≤ (j : Int) := by omega
                clear hels hblk3 honly4 hrow hlt6 hblkW honlyW hownW z1 hwsz
                go_region_held3 (fun w' => w'.cell? ⟨g, 0, none⟩ = some (.string s) ∧ w'.cell? ⟨g, 1, none⟩ = some (.int .i64 j))
                  (first
                    | go_keep
                    | (go_split_ands
                       refine ⟨?_, ?_⟩
                       · (rw [hgrow.cell_far _ (by simp; omega) hne6]; assumption)
                       · (rw [hgrow.cell_far _ (by simp; omega) hne6]; assumption)))
                  ((refine step_append_lies _ (by rfl) _ _ _ (by rfl) w.heap.size 86 i0 _ 3 48 Try.underlying22 HI.out.1 HI.out.2.1 HI.out.2.2.1 HI.out.2.2.2 rfl (by omega) u6 acc.len cells (by rfl) (HH.out.2.2.2.1.drew)
                      ⟨W.heap.size, 0, none⟩ 1 1 [.string (s.extract j t), .bool false, .slice none 0 0] (by rfl) (by rfl) (World.news_of_block (cs := #[.string (s.extract j t), .bool false, .slice none 0 0]) (t := 86) (fr := (0, 0)) (heap_alloc_new W _)) (by simp [Value.oneCell'])
                      (by omega) (by unfold maxLen; omega) (by omega) (by simp; omega) (W.heap.size + 1) (by simp) ?_; intro gg cp w3 hown5 hgrow hat hlt3))
                obtain ⟨hels, hblk3, honly4, hrow, hlt6, hwsz⟩ := HH.out
                have hb3 := (Blk.drew hblk3).grown hgrow hne6
                have y1 : w3.cell? ⟨g, 1, none⟩ = some (.int .i64 j) := hb3.cell 1
                have y2 : w3.frozen? ⟨g, 1, none⟩ = false := hb3.frozen 1
                have hpush := OwnFo.push (w := (W.alloc (.cells #[.string (s.extract j t), .bool false, .slice none 0 0] 86)).drew) (acc := acc) (ks := .nil) (Els.keep (w := W.alloc (.cells #[.string (s.extract j t), .bool false, .slice none 0 0] 86)) (w' := (W.alloc (.cells #[.string (s.extract j t), .bool false, .slice none 0 0] 86)).drew) (fun _ h => h) (fun _ _ _ => rfl) _ _ hels) hwsz rfl hown5 hgrow (by simpa using hat)
                have honly5 : w.grownBy w3 (some g) := only_then (only_drew honly4) hgrow (fun x hx => .inl (hlt6 x hx).1)
                have hgl := HG.out.word HK.out (by rw [HE.out]; exact hlong.out) (by omega)
                rw [HE.out] at hgl
                have HGL := Lib.hid hgl
                have HX := Lib.hid (And.intro hb3 (And.intro hpush honly5))
                clear hb3 hpush honly5 hgl hels hblk3 honly4 hrow hlt6 hwsz hown5 hgrow HH
                go_wp2_with fail
                go_roundg (s.size - t + 1)
                case measure => have := HGK.out; omega
                case rel =>
                  obtain ⟨hb3, hpush, honly5⟩ := HX.out
                  refine ⟨_, t, rfl, by omega, ht1, ?_, HGL.out, hb3.set_ 1 (.int .i64 t), only_setCell (p := ⟨g, 1, none⟩) honly5 (.inl rfl) _, hpush.setCell hgw 1 _⟩
                  rw [Fo.len_app]; simp only [Fo.len]; omega
        · have hcl : cls s j = 6 := HCL.out.trans k1
          have HK := Lib.hid hcl
          have q1 : ((s[j].toNat : Int) == 41) = false := by rw [beq_eq_false_iff_ne]; omega
          have q2 : ((s[j].toNat : Int) == 40) = false := by rw [beq_eq_false_iff_ne]; omega
          have HL := Lib.hid k2.1
          clear hcl k1 k2 HCL HC1 HC2
          go_wp2_with fail
          go_quiet (fail)
          go_wp2_with fail
          go_quiet (fail)
          go_wp2_with fail
          go_quiet (fail)
          go_wp2_with fail
          go_quiet ((go_at_call 75; first | exact quiet_left (byteOfWord_is _ false HL.out _) | exact quiet_add_left (byteOfWord_is _ false HL.out _)))
          go_wp2_with fail
          refine (fail_any g s j 0 0 1 _ (hblk.drewN _)).mono ?_
          rintro e w2 ⟨rfl, hblk2, honly2⟩
          go_wp2_with fail
          go_ret2
          exact .inr ⟨_, 1, j, j, _, HG.out.bad (by omega) (.odd HK.out), by omega, rfl, only_trans (only_drewN honly _) honly2, hblk2⟩
      · obtain rfl : j = s.size := by omega
        have HE := Lib.hid (cls_end s s.size hlt)
        clear HC1 HC2
        by_cases hd : d = 0
        · subst hd
          obtain ⟨A, cap, rfl, hl⟩ := hown.lies
          go_wp2_with fail
          go_quiet (fail)
          go_wp2_with fail
          go_ret2
          exact .inl ⟨acc, s.size, A, cap, HG.out.good (.stopTop HE.out rfl), rfl, only_drewN honly _, Lies.drewN hl _, s.size, by rw [if_pos rfl], hblk.drewN _⟩
        · have hde : (d == 0) = false := by rw [beq_eq_false_iff_ne]; exact hd
          have HD := Lib.hid hd
          clear hd
          go_wp2_with fail
          go_quiet (fail)
          go_wp2_with fail
          refine (fail_any g s s.size 0 0 1 _ (hblk.drewN _)).mono ?_
          rintro e w2 ⟨rfl, hblk2, honly2⟩
          go_wp2_with fail
          go_ret2
          exact .inr ⟨s.size, 1, s.size, s.size, _, HG.out.bad (by omega) (.stopIn HE.out HD.out), by omega, rfl, only_trans (only_drewN honly _) honly2, hblk2⟩
end Go.Proofs.Ytllgindmcjemeaa
