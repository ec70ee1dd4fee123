/- Walk: the reference's reader of expressions. -/
import Derived.Test.YtllgindmcjemeaaSexpI
import Derived.RegionTactic
namespace Go.Proofs.Ytllgindmcjemeaa
open Go.RowKit

def FromGood (s : ByteArray) (i : Nat) (d : Int) (w : World) (e : Ending) (w' : World) : Prop :=
  ∃ (f : Fo) (e' : Nat) (A : Option Addr) (cap : Nat), Prs s i d f e' 0 0 ∧ e = .returned (.tuple #[.slice A f.len cap, .int .i64 e', .agg #[.int .i64 0, .int .i64 0]]) ∧
    Lies w' (fun b => w.heap.size ≤ b ∧ b < w'.heap.size) f A 0 f.len ∧ Below w.heap.size w w'
def FromBad (s : ByteArray) (i : Nat) (d : Int) (w : World) (e : Ending) (w' : World) : Prop :=
  ∃ (e' : Nat) (c a : Int), Prs s i d .nil e' c a ∧ ¬ c = 0 ∧ e = .returned (.tuple #[.slice none 0 0, .int .i64 e', .agg #[.int .i64 c, .int .i64 a]]) ∧ Below w.heap.size w w'
def FromPost (s : ByteArray) (i : Nat) (d : Int) (w : World) (e : Ending) (w' : World) : Prop := FromGood s i d w e w' ∨ FromBad s i d w e w'

set_option maxRecDepth 100000 in
set_option maxHeartbeats 4000000 in
theorem from_any (k : Nat) : ∀ (s : ByteArray) (i : Nat) (d : Int) (w : World), s.size - i < k → s.size ≤ 4000 → i ≤ s.size → 0 ≤ d → d ≤ 41 →
    Calls Try.prog 39 #[.string s, .int .i64 i, .int .i64 d] w (FromPost s i d w) := by
  induction k with
  | zero => intro s i d w hk; omega
  | succ k ih =>
    intro s i d w hk hs hi hd0 hd1
    have IH := Lib.hid ih
    obtain ⟨i0, hi0, hz0, hz1, hz2⟩ := info_parts infoSexp
    have HI := Lib.hid (And.intro hi0 (And.intro hz0 (And.intro hz1 hz2)))
    clear ih hi0 hz0 hz1 hz2
    go_enter Try.func39, Try.ntmps39
    go_wp2_with fail
    go_loopg [1, 9] (s.size - i + 1) (fun gk iv v wr => ∃ (acc : Fo) (j : Nat), iv = .int .i64 j ∧ Hid (gk = s.size - j + 1) ∧ i ≤ j ∧ j ≤ s.size ∧ acc.len + i ≤ j ∧ Hid (Glue s i d acc j) ∧ Blk wr w.heap.size 24 #[.int .i64 0, .int .i64 0] ∧ Below w.heap.size w wr ∧ OwnFo wr (w.heap.size + 1) v acc)
    case atStart => exact ⟨.nil, i, rfl, rfl, Nat.le_refl _, hi, by simp [Fo.len], Glue.refl s i d, Blk.new _ _ _, (Below.refl _ _).alloc (Nat.le_refl _) _, OwnFo.none _ _⟩
    case round =>
      obtain ⟨acc, j, rfl, HGK, hj0, hj1, hacc, HG, hblk, hbel, hown⟩ := hrel
      have hz : w.heap.size < wr.heap.size := hblk.lt
      have d0 : wr.cell? ⟨w.heap.size, 0, none⟩ = some (.int .i64 0) := hblk.cell 0
      have d1 : wr.cell? ⟨w.heap.size, 1, none⟩ = some (.int .i64 0) := hblk.cell 1
      have y0 : wr.frozen? ⟨w.heap.size, 0, none⟩ = false := hblk.frozen 0
      have y1 : wr.frozen? ⟨w.heap.size, 1, none⟩ = false := hblk.frozen 1
      by_cases hlt : j < s.size
      · have HCL := Lib.hid (cls_at s j hlt)
        rcases clsB_cases s[j].toNat with ⟨k1, k2⟩ | ⟨k1, k2⟩ | ⟨k1, k2⟩ | ⟨k1, k2⟩ | ⟨k1, k2⟩ | ⟨k1, k2⟩
        · have HK := Lib.hid (HCL.out.trans k1)
          clear k1 HCL d0 d1 y0 y1
          rcases k2 with k2 | k2 | k2 | k2
          all_goals
            go_wp2_with fail
            go_roundg (s.size - (j + 1) + 1)
            case measure => have := HGK.out; omega
            case rel => exact ⟨acc, j + 1, by go_num, rfl, by omega, by omega, by omega, HG.out.skip (fun _ _ _ _ h => .blank HK.out h), hblk, hbel, hown⟩
        · have hcl : cls s j = 2 := HCL.out.trans k1
          have HK := Lib.hid hcl
          have hpn := past_note hcl
          have q32 : ((s[j].toNat : Int) == 32) = false := by rw [beq_eq_false_iff_ne]; omega
          have q9 : ((s[j].toNat : Int) == 9) = false := by rw [beq_eq_false_iff_ne]; omega
          have q10 : ((s[j].toNat : Int) == 10) = false := by rw [beq_eq_false_iff_ne]; omega
          have q13 : ((s[j].toNat : Int) == 13) = false := by rw [beq_eq_false_iff_ne]; omega
          have q59 : ((s[j].toNat : Int) == 59) = true := by rw [beq_iff_eq]; omega
          clear hcl k1 k2 HCL d0 d1 y0 y1
          go_wp2_with fail
          go_loop [1] (fun t => ∃ t' : Nat, t = .int .i64 t' ∧ j ≤ t' ∧ t' ≤ s.size ∧ Hid (past notNl s j = past notNl s t')) (fun t => s.size - (intOf t).toNat)
          case atStart => exact ⟨j, rfl, Nat.le_refl _, hj1, rfl⟩
          case round =>
            obtain ⟨t, rfl, ht0, ht1, HT⟩ := hrel
            by_cases htl : t < s.size
            · cases hnl : notNl s[t] with
              | true =>
                have q6 : ((s[t].toNat : Int) != 10) = true := by unfold notNl at hnl; rw [bne_iff_ne] at hnl ⊢; omega
                have HNL := Lib.hid hnl
                clear hnl
                go_wp2_with fail
                go_round
                case rel => exact ⟨t + 1, by go_num, by omega, by omega, HT.out.trans (past_step _ _ _ htl HNL.out)⟩
                case measure => simp [intOf]; omega
              | false =>
                have q6 : ((s[t].toNat : Int) != 10) = false := by unfold notNl at hnl; rw [bne_eq_false_iff_eq] at hnl ⊢; omega
                have HE := Lib.hid (HT.out.trans (past_stop _ _ _ htl hnl))
                clear hnl
                go_wp2_with fail
                have hjj : j < t := by rw [HE.out] at hpn; exact hpn.1
                go_roundg (s.size - t + 1)
                case measure => have := HGK.out; omega
                case rel => exact ⟨acc, t, rfl, rfl, by omega, by omega, by omega, HG.out.skip (fun _ _ _ _ h => .note HK.out (by rw [HE.out]; exact h)), hblk, hbel, hown⟩
            · have HE := Lib.hid (HT.out.trans (past_end notNl s t (by omega)))
              go_wp2_with fail
              have hjj : j < t := by rw [HE.out] at hpn; exact hpn.1
              go_roundg (s.size - t + 1)
              case measure => have := HGK.out; omega
              case rel => exact ⟨acc, t, rfl, rfl, by omega, by omega, by omega, HG.out.skip (fun _ _ _ _ h => .note HK.out (by rw [HE.out]; exact h)), hblk, hbel, hown⟩
        · have HK := Lib.hid (HCL.out.trans k1)
          have q32 : ((s[j].toNat : Int) == 32) = false := by rw [beq_eq_false_iff_ne]; omega
          have q9 : ((s[j].toNat : Int) == 9) = false := by rw [beq_eq_false_iff_ne]; omega
          have q10 : ((s[j].toNat : Int) == 10) = false := by rw [beq_eq_false_iff_ne]; omega
          have q13 : ((s[j].toNat : Int) == 13) = false := by rw [beq_eq_false_iff_ne]; omega
          have q59 : ((s[j].toNat : Int) == 59) = false := by rw [beq_eq_false_iff_ne]; omega
          have q41 : ((s[j].toNat : Int) == 41) = true := by rw [beq_iff_eq]; omega
          clear k1 k2 HCL
          by_cases hd : d = 0
          · subst hd
            go_wp2_with fail
            refine bodyPost_ret (v := .tuple #[.slice none 0 0, .int .i64 j, .agg #[.int .i64 1, .int .i64 j]]) (by simp [results, Try.results39, go_sem, d0, d1]) rfl ?_
            exact .inr ⟨_, 1, j, HG.out.bad (by omega) (.shutTop HK.out rfl), by omega, rfl, (hbel.setCell (p := ⟨w.heap.size, 0, none⟩) (Nat.le_refl _) _).setCell (p := ⟨w.heap.size, 1, none⟩) (Nat.le_refl _) _⟩
          · have hde : (d == 0) = false := by rw [beq_eq_false_iff_ne]; exact hd
            have HD := Lib.hid hd
            clear hd
            obtain ⟨A, cap, rfl, hl⟩ := ((hown.setCell (Nat.lt_succ_self _) 0 (.int .i64 0)).setCell (Nat.lt_succ_self _) 1 (.int .i64 0)).lies
            go_wp2_with fail
            refine bodyPost_ret (v := .tuple #[.slice A acc.len cap, .int .i64 j, .agg #[.int .i64 0, .int .i64 0]]) (by simp [results, Try.results39, go_sem, d0, d1]) rfl ?_
            refine .inl ⟨acc, j, A, cap, HG.out.good (.shut HK.out HD.out), rfl, Lies.keep (fun b hb => ⟨by have := hb.1; omega, hb.2⟩) (fun _ _ _ => rfl) _ _ _ _ hl, ?_⟩
            exact (hbel.setCell (p := ⟨w.heap.size, 0, none⟩) (Nat.le_refl _) _).setCell (p := ⟨w.heap.size, 1, none⟩) (Nat.le_refl _) _
        · have HK := Lib.hid (HCL.out.trans k1)
          have q32 : ((s[j].toNat : Int) == 32) = false := by rw [beq_eq_false_iff_ne]; omega
          have q9 : ((s[j].toNat : Int) == 9) = false := by rw [beq_eq_false_iff_ne]; omega
          have q10 : ((s[j].toNat : Int) == 10) = false := by rw [beq_eq_false_iff_ne]; omega
          have q13 : ((s[j].toNat : Int) == 13) = false := by rw [beq_eq_false_iff_ne]; omega
          have q59 : ((s[j].toNat : Int) == 59) = false := by rw [beq_eq_false_iff_ne]; omega
          have q41 : ((s[j].toNat : Int) == 41) = false := by rw [beq_eq_false_iff_ne]; omega
          have q40 : ((s[j].toNat : Int) == 40) = true := by rw [beq_iff_eq]; omega
          clear k1 k2 HCL
          by_cases hdp : 40 < d
          · have HD := Lib.hid hdp
            go_wp2_with fail
            refine bodyPost_ret (v := .tuple #[.slice none 0 0, .int .i64 j, .agg #[.int .i64 10, .int .i64 j]]) (by simp [results, Try.results39, go_sem, d0, d1]) rfl ?_
            exact .inr ⟨_, 10, j, HG.out.bad (by omega) (.deepList HK.out HD.out), by omega, rfl, (hbel.setCell (p := ⟨w.heap.size, 0, none⟩) (Nat.le_refl _) _).setCell (p := ⟨w.heap.size, 1, none⟩) (Nat.le_refl _) _⟩
          · have HD : Hid (¬ 40 < d) := hdp
            have HEJ : Hid (((j + 1 : Nat) : Int) = (j : Int) + 1) := by show _ = _; omega
            have hcall := IH.out s (j + 1) (d + 1) wr (by omega) hs (by omega) (by omega) (by omega)
            rw [HEJ.out] at hcall
            have HCALL := Lib.hid hcall
            have hlt6 := hown.lt
            clear hcall d0 d1 y0 y1
            go_wp2_with fail
            refine HCALL.out.mono ?_
            rintro e w2 (⟨f, e', A, cap, hp, rfl, hl, hb2⟩ | ⟨e', c, a, hp, hc, rfl, hb2⟩)
            · have hends := hp.ends (by omega) (by omega)
              have hez := (hends.2.2 rfl).2.2 (by omega)
              have he1 : j + 1 ≤ e' := hends.1
              have HP := Lib.hid hp
              have hsz2 : wr.heap.size ≤ w2.heap.size := hb2.size
              have hz2 : w.heap.size < w2.heap.size := by omega
              have hblk2 := (hblk.below hb2 hz).alloc (.cells #[.int .i64 0, .int .i64 0] 24)
              have hbel2 : Below w.heap.size w w2 := hbel.trans (hb2.mono (by omega))
              have hown2 := hown.kept (only_of_below hb2 none) (fun x hx => by cases hx)
              have hks := Lies.keep (S' := fun b => w.heap.size + 1 ≤ b ∧ b < ((w2.alloc (.cells #[.int .i64 0, .int .i64 0] 24)).alloc (.cells #[.string ByteArray.empty, .bool true, .slice A f.len cap] 86)).heap.size ∧ u9.ownBlock ≠ some b) (w' := (w2.alloc (.cells #[.int .i64 0, .int .i64 0] 24)).alloc (.cells #[.string ByteArray.empty, .bool true, .slice A f.len cap] 86)) (fun b hb => ⟨by have := hb.1; omega, by have := hb.2; simp; omega, fun e => by have h1 := hlt6 b e; have := hb.1; omega⟩) (fun b o hb => by rw [World.cell?_alloc_lt _ _ _ (by have := hb.2; simp; omega), World.cell?_alloc_lt _ _ _ hb.2]) f A 0 f.len hl
              obtain ⟨cells, hrow, hels⟩ := (hown2.alloc (.cells #[.int .i64 0, .int .i64 0] 24)).alloc (.cells #[.string ByteArray.empty, .bool true, .slice A f.len cap] 86)
              have hblk3 := hblk2.alloc (.cells #[.string ByteArray.empty, .bool true, .slice A f.len cap] 86)
              have hne6 : some w.heap.size ≠ u9.ownBlock := fun e => by have := hlt6 _ e.symm; omega
              have hbel3 := (hbel2.alloc (by omega) (.cells #[.int .i64 0, .int .i64 0] 24)).alloc (by simp; omega) (.cells #[.string ByteArray.empty, .bool true, .slice A f.len cap] 86)
              have hnews : ∀ (q : Nat) (u : Value), [.string ByteArray.empty, .bool true, .slice A f.len cap][q]? = some u → ((w2.alloc (.cells #[.int .i64 0, .int .i64 0] 24)).alloc (.cells #[.string ByteArray.empty, .bool true, .slice A f.len cap] 86)).cell? ((⟨w2.heap.size + 1, 0, none⟩ : Addr).add q) = some u := by
                have := World.news_of_block (cs := #[.string ByteArray.empty, .bool true, .slice A f.len cap]) (t := 86) (fr := (0, 0)) (heap_alloc_new (w2.alloc (.cells #[.int .i64 0, .int .i64 0] 24)) (.cells #[.string ByteArray.empty, .bool true, .slice A f.len cap] 86))
                rw [World.size_alloc] at this
                exact this
              have hbase5 : w.heap.size + 1 ≤ ((w2.alloc (.cells #[.int .i64 0, .int .i64 0] 24)).alloc (.cells #[.string ByteArray.empty, .bool true, .slice A f.len cap] 86)).heap.size := by simp; omega
              have HH := Lib.hid (And.intro hrow (And.intro hels (And.intro hks (And.intro hblk3 (And.intro hbel3 hlt6)))))
              clear hrow hels hks hblk3 hbel3 hlt6 hblk2 hbel2 hown2 hp hl hb2 hends hblk hbel hown HCALL
              go_wp2_with (at_builtin; go_loud (refine wpList_append_lies _ rfl (.tmp 84) (.tmp 87) 22 rfl (w.heap.size + 1) 86 i0 _ 3 48 Try.underlying22 HI.out.1 HI.out.2.1 HI.out.2.2.1 HI.out.2.2.2 rfl (by omega) u9 acc.len cells rfl HH.out.1 ⟨w2.heap.size + 1, 0, none⟩ 1 1 [.string ByteArray.empty, .bool true, .slice A f.len cap] rfl rfl hnews (by simp [Value.oneCell']) (by omega) (by unfold maxLen; omega) (by omega) hbase5 (w2.heap.size + 2) (by simp) ?_); intro gg cp w5 hown5 hgrow hat hlt3)
              obtain ⟨hrow, hels, hks, hblk3, hbel3, hlt6⟩ := HH.out
              have hpush := OwnFo.push (acc := acc) hels (by decide) hks hown5 hgrow (by simpa using hat)
              go_roundg (s.size - (e' + 1) + 1)
              case measure => have := HGK.out; omega
              case rel =>
                refine ⟨_, e' + 1, by go_num, rfl, by omega, by omega, ?_, HG.out.list HK.out (by have := HD.out; omega) HP.out, hblk3.grown hgrow hne6, below_then hbel3 hgrow (by simp; omega) (fun x hx => by have := (hlt6 x hx).1; omega), hpush⟩
                rw [Fo.len_app]; simp only [Fo.len]; omega
            · have hz2 : w.heap.size < w2.heap.size := by have := hb2.size; omega
              have hblk2 := hblk.below hb2 hz
              have d0 : w2.cell? ⟨w.heap.size, 0, none⟩ = some (.int .i64 0) := hblk2.cell 0
              have d1 : w2.cell? ⟨w.heap.size, 1, none⟩ = some (.int .i64 0) := hblk2.cell 1
              have y0 : w2.frozen? ⟨w.heap.size, 0, none⟩ = false := hblk2.frozen 0
              have y1 : w2.frozen? ⟨w.heap.size, 1, none⟩ = false := hblk2.frozen 1
              have hbel2 : Below w.heap.size w w2 := hbel.trans (hb2.mono (by omega))
              have hcb : (c != 0) = true := by rw [bne_iff_ne]; exact hc
              have HC := Lib.hid hc
              have HP := Lib.hid hp
              clear hblk2 hblk hbel hown hb2 hc hp
              go_wp2_with fail
              go_region
              go_wp2_with fail
              refine bodyPost_ret (v := .tuple #[.slice none 0 0, .int .i64 e', .agg #[.int .i64 c, .int .i64 a]]) (by simp [results, Try.results39, go_sem, d0, d1, hz2]) rfl ?_
              refine .inr ⟨e', c, a, HG.out.bad HC.out (.listBad HK.out (by have := HD.out; omega) HP.out HC.out), HC.out, rfl, ?_⟩
              exact (((hbel2.setCell (p := ⟨w.heap.size, 0, none⟩) (Nat.le_refl _) _).setCell (p := ⟨w.heap.size, 1, none⟩) (Nat.le_refl _) _).alloc (by simp; omega) _).drew
        · have hcl : cls s j = 5 := HCL.out.trans k1
          have HK := Lib.hid hcl
          have hpw := past_word hcl
          have q32 : ((s[j].toNat : Int) == 32) = false := by rw [beq_eq_false_iff_ne]; omega
          have q9 : ((s[j].toNat : Int) == 9) = false := by rw [beq_eq_false_iff_ne]; omega
          have q10 : ((s[j].toNat : Int) == 10) = false := by rw [beq_eq_false_iff_ne]; omega
          have q13 : ((s[j].toNat : Int) == 13) = false := by rw [beq_eq_false_iff_ne]; omega
          have q59 : ((s[j].toNat : Int) == 59) = false := by rw [beq_eq_false_iff_ne]; omega
          have q41 : ((s[j].toNat : Int) == 41) = false := by rw [beq_eq_false_iff_ne]; omega
          have q40 : ((s[j].toNat : Int) == 40) = false := by rw [beq_eq_false_iff_ne]; omega
          have HL := Lib.hid k2.1
          clear hcl k1 k2 HCL
          go_wp2_with fail
          refine (letter_is _ true HL.out _).mono ?_
          rintro e w1 ⟨rfl, rfl⟩
          go_wp2_with fail
          go_loop [1] (fun t => ∃ t' : Nat, t = .int .i64 t' ∧ j ≤ t' ∧ t' ≤ s.size ∧ Hid (past letterU s j = past letterU s t')) (fun t => s.size - (intOf t).toNat)
          case atStart => exact ⟨j, rfl, Nat.le_refl _, hj1, rfl⟩
          case round =>
            obtain ⟨t, rfl, ht0, ht1, HT⟩ := hrel
            by_cases htl : t < s.size
            · cases hle : letterU s[t] with
              | true =>
                have HLE := Lib.hid hle
                clear hle
                go_wp2_with fail
                refine (letter_is _ true HLE.out _).mono ?_
                rintro e w' ⟨rfl, rfl⟩
                go_wp2_with fail
                go_round
                case rel => exact ⟨t + 1, by go_num, by omega, by omega, HT.out.trans (past_step _ _ _ htl HLE.out)⟩
                case measure => simp [intOf]; omega
              | false =>
                have HLE := Lib.hid hle
                have HE := Lib.hid (HT.out.trans (past_stop _ _ _ htl hle))
                clear hle
                go_wp2_with fail
                refine (letter_is _ false HLE.out _).mono ?_
                rintro e w' ⟨rfl, rfl⟩
                by_cases hlong : 24 < t - j
                · have HLG := Lib.hid hlong
                  go_wp2_with fail
                  refine bodyPost_ret (v := .tuple #[.slice none 0 0, .int .i64 t, .agg #[.int .i64 12, .int .i64 j]]) (by simp [results, Try.results39, go_sem, d0, d1]) rfl ?_
                  exact .inr ⟨t, 12, j, HG.out.bad (by omega) (by have h := Prs.long (d := d) HK.out (by rw [HE.out]; exact HLG.out); rwa [HE.out] at h), by omega, rfl, (hbel.setCell (p := ⟨w.heap.size, 0, none⟩) (Nat.le_refl _) _).setCell (p := ⟨w.heap.size, 1, none⟩) (Nat.le_refl _) _⟩
                · have HLG : Hid (¬ 24 < t - j) := hlong
                  by_cases hdp : 40 < d
                  · have HD := Lib.hid hdp
                    go_wp2_with fail
                    refine bodyPost_ret (v := .tuple #[.slice none 0 0, .int .i64 t, .agg #[.int .i64 10, .int .i64 j]]) (by simp [results, Try.results39, go_sem, d0, d1]) rfl ?_
                    exact .inr ⟨t, 10, j, HG.out.bad (by omega) (by have h := Prs.deepWord (d := d) HK.out (by rw [HE.out]; have := HLG.out; omega) HD.out; rwa [HE.out] at h), by omega, rfl, (hbel.setCell (p := ⟨w.heap.size, 0, none⟩) (Nat.le_refl _) _).setCell (p := ⟨w.heap.size, 1, none⟩) (Nat.le_refl _) _⟩
                  · have HD : Hid (¬ 40 < d) := hdp
                    have hjt : j < t := by rw [HE.out] at hpw; exact hpw.1
                    have hlt6 := hown.lt
                    obtain ⟨cells, hrow, hels⟩ := hown.alloc (.cells #[.string (s.extract j t), .bool false, .slice none 0 0] 86)
                    have hblk3 := hblk.alloc (.cells #[.string (s.extract j t), .bool false, .slice none 0 0] 86)
                    have hne6 : some w.heap.size ≠ u9.ownBlock := fun e => by have := hlt6 _ e.symm; omega
                    have hbel3 := hbel.alloc (by omega) (.cells #[.string (s.extract j t), .bool false, .slice none 0 0] 86)
                    have hwsz : (s.extract j t).size ≤ maxLen := by simp only [ByteArray.size_extract, maxLen]; omega
                    have hgl := HG.out.word HK.out (by rw [HE.out]; exact hlong) hdp
                    rw [HE.out] at hgl
                    have HGL := Lib.hid hgl
                    have hbase5 : w.heap.size + 1 ≤ (wr.alloc (.cells #[.string (s.extract j t), .bool false, .slice none 0 0] 86)).heap.size := by simp; omega
                    have HH := Lib.hid (And.intro hrow (And.intro hels (And.intro hwsz (And.intro hblk3 (And.intro hbel3 hlt6)))))
                    clear hrow hels hwsz hblk3 hbel3 hlt6 hgl hblk hbel hown d0 d1 y0 y1
                    go_wp2_with (at_builtin; go_loud (refine wpList_append_lies _ rfl (.tmp 122) (.tmp 128) 22 rfl (w.heap.size + 1) 86 i0 _ 3 48 Try.underlying22 HI.out.1 HI.out.2.1 HI.out.2.2.1 HI.out.2.2.2 rfl (by omega) u9 acc.len cells rfl HH.out.1 ⟨wr.heap.size, 0, none⟩ 1 1 [.string (s.extract j t), .bool false, .slice none 0 0] rfl rfl (World.news_of_block (cs := #[.string (s.extract j t), .bool false, .slice none 0 0]) (t := 86) (fr := (0, 0)) (heap_alloc_new wr _)) (by simp [Value.oneCell']) (by omega) (by unfold maxLen; omega) (by omega) hbase5 (wr.heap.size + 1) (by simp) ?_); intro gg cp w5 hown5 hgrow hat hlt3)
                    obtain ⟨hrow, hels, hwsz, hblk3, hbel3, hlt6⟩ := HH.out
                    have hpush := OwnFo.push (acc := acc) (ks := .nil) hels hwsz rfl hown5 hgrow (by simpa using hat)
                    go_roundg (s.size - t + 1)
                    case measure => have := HGK.out; omega
                    case rel =>
                      refine ⟨_, t, rfl, rfl, by omega, ht1, ?_, HGL.out, hblk3.grown hgrow hne6, below_then hbel3 hgrow (by simp; omega) (fun x hx => by have := (hlt6 x hx).1; omega), hpush⟩
                      rw [Fo.len_app]; simp only [Fo.len]; omega
            · have HE := Lib.hid (HT.out.trans (past_end letterU s t (by omega)))
              by_cases hlong : 24 < t - j
              · have HLG := Lib.hid hlong
                go_wp2_with fail
                refine bodyPost_ret (v := .tuple #[.slice none 0 0, .int .i64 t, .agg #[.int .i64 12, .int .i64 j]]) (by simp [results, Try.results39, go_sem, d0, d1]) rfl ?_
                exact .inr ⟨t, 12, j, HG.out.bad (by omega) (by have h := Prs.long (d := d) HK.out (by rw [HE.out]; exact HLG.out); rwa [HE.out] at h), by omega, rfl, (hbel.setCell (p := ⟨w.heap.size, 0, none⟩) (Nat.le_refl _) _).setCell (p := ⟨w.heap.size, 1, none⟩) (Nat.le_refl _) _⟩
              · have HLG : Hid (¬ 24 < t - j) := hlong
                by_cases hdp : 40 < d
                · have HD := Lib.hid hdp
                  go_wp2_with fail
                  refine bodyPost_ret (v := .tuple #[.slice none 0 0, .int .i64 t, .agg #[.int .i64 10, .int .i64 j]]) (by simp [results, Try.results39, go_sem, d0, d1]) rfl ?_
                  exact .inr ⟨t, 10, j, HG.out.bad (by omega) (by have h := Prs.deepWord (d := d) HK.out (by rw [HE.out]; have := HLG.out; omega) HD.out; rwa [HE.out] at h), by omega, rfl, (hbel.setCell (p := ⟨w.heap.size, 0, none⟩) (Nat.le_refl _) _).setCell (p := ⟨w.heap.size, 1, none⟩) (Nat.le_refl _) _⟩
                · have HD : Hid (¬ 40 < d) := hdp
                  have hjt : j < t := by rw [HE.out] at hpw; exact hpw.1
                  have hlt6 := hown.lt
                  obtain ⟨cells, hrow, hels⟩ := hown.alloc (.cells #[.string (s.extract j t), .bool false, .slice none 0 0] 86)
                  have hblk3 := hblk.alloc (.cells #[.string (s.extract j t), .bool false, .slice none 0 0] 86)
                  have hne6 : some w.heap.size ≠ u9.ownBlock := fun e => by have := hlt6 _ e.symm; omega
                  have hbel3 := hbel.alloc (by omega) (.cells #[.string (s.extract j t), .bool false, .slice none 0 0] 86)
                  have hwsz : (s.extract j t).size ≤ maxLen := by simp only [ByteArray.size_extract, maxLen]; omega
                  have hgl := HG.out.word HK.out (by rw [HE.out]; exact hlong) hdp
                  rw [HE.out] at hgl
                  have HGL := Lib.hid hgl
                  have hbase5 : w.heap.size + 1 ≤ (wr.alloc (.cells #[.string (s.extract j t), .bool false, .slice none 0 0] 86)).heap.size := by simp; omega
                  have HH := Lib.hid (And.intro hrow (And.intro hels (And.intro hwsz (And.intro hblk3 (And.intro hbel3 hlt6)))))
                  clear hrow hels hwsz hblk3 hbel3 hlt6 hgl hblk hbel hown d0 d1 y0 y1
                  go_wp2_with (at_builtin; go_loud (refine wpList_append_lies _ rfl (.tmp 122) (.tmp 128) 22 rfl (w.heap.size + 1) 86 i0 _ 3 48 Try.underlying22 HI.out.1 HI.out.2.1 HI.out.2.2.1 HI.out.2.2.2 rfl (by omega) u9 acc.len cells rfl HH.out.1 ⟨wr.heap.size, 0, none⟩ 1 1 [.string (s.extract j t), .bool false, .slice none 0 0] rfl rfl (World.news_of_block (cs := #[.string (s.extract j t), .bool false, .slice none 0 0]) (t := 86) (fr := (0, 0)) (heap_alloc_new wr _)) (by simp [Value.oneCell']) (by omega) (by unfold maxLen; omega) (by omega) hbase5 (wr.heap.size + 1) (by simp) ?_); intro gg cp w5 hown5 hgrow hat hlt3)
                  obtain ⟨hrow, hels, hwsz, hblk3, hbel3, hlt6⟩ := HH.out
                  have hpush := OwnFo.push (acc := acc) (ks := .nil) hels hwsz rfl hown5 hgrow (by simpa using hat)
                  go_roundg (s.size - t + 1)
                  case measure => have := HGK.out; omega
                  case rel =>
                    refine ⟨_, t, rfl, rfl, by omega, ht1, ?_, HGL.out, hblk3.grown hgrow hne6, below_then hbel3 hgrow (by simp; omega) (fun x hx => by have := (hlt6 x hx).1; omega), hpush⟩
                    rw [Fo.len_app]; simp only [Fo.len]; omega
        · have HK := Lib.hid (HCL.out.trans k1)
          have q32 : ((s[j].toNat : Int) == 32) = false := by rw [beq_eq_false_iff_ne]; omega
          have q9 : ((s[j].toNat : Int) == 9) = false := by rw [beq_eq_false_iff_ne]; omega
          have q10 : ((s[j].toNat : Int) == 10) = false := by rw [beq_eq_false_iff_ne]; omega
          have q13 : ((s[j].toNat : Int) == 13) = false := by rw [beq_eq_false_iff_ne]; omega
          have q59 : ((s[j].toNat : Int) == 59) = false := by rw [beq_eq_false_iff_ne]; omega
          have q41 : ((s[j].toNat : Int) == 41) = false := by rw [beq_eq_false_iff_ne]; omega
          have q40 : ((s[j].toNat : Int) == 40) = false := by rw [beq_eq_false_iff_ne]; omega
          have HL := Lib.hid k2.1
          clear k1 k2 HCL
          go_wp2_with fail
          refine (letter_is _ false HL.out _).mono ?_
          rintro e w1 ⟨rfl, rfl⟩
          go_wp2_with fail
          refine bodyPost_ret (v := .tuple #[.slice none 0 0, .int .i64 j, .agg #[.int .i64 1, .int .i64 j]]) (by simp [results, Try.results39, go_sem, d0, d1]) rfl ?_
          exact .inr ⟨_, 1, j, HG.out.bad (by omega) (.odd HK.out), by omega, rfl, (hbel.setCell (p := ⟨w.heap.size, 0, none⟩) (Nat.le_refl _) _).setCell (p := ⟨w.heap.size, 1, none⟩) (Nat.le_refl _) _⟩
      · obtain rfl : j = s.size := by omega
        have HE := Lib.hid (cls_end s s.size hlt)
        by_cases hd : d = 0
        · subst hd
          obtain ⟨A, cap, rfl, hl⟩ := ((hown.setCell (Nat.lt_succ_self _) 0 (.int .i64 0)).setCell (Nat.lt_succ_self _) 1 (.int .i64 0)).lies
          go_wp2_with fail
          refine bodyPost_ret (v := .tuple #[.slice A acc.len cap, .int .i64 s.size, .agg #[.int .i64 0, .int .i64 0]]) (by simp [results, Try.results39, go_sem, d0, d1]) rfl ?_
          refine .inl ⟨acc, s.size, A, cap, HG.out.good (.stopTop HE.out rfl), rfl, Lies.keep (fun b hb => ⟨by have := hb.1; omega, hb.2⟩) (fun _ _ _ => rfl) _ _ _ _ hl, ?_⟩
          exact (hbel.setCell (p := ⟨w.heap.size, 0, none⟩) (Nat.le_refl _) _).setCell (p := ⟨w.heap.size, 1, none⟩) (Nat.le_refl _) _
        · have hdd : 0 < d := by omega
          have HD := Lib.hid hd
          clear hd
          go_wp2_with fail
          refine bodyPost_ret (v := .tuple #[.slice none 0 0, .int .i64 s.size, .agg #[.int .i64 1, .int .i64 s.size]]) (by simp [results, Try.results39, go_sem, d0, d1]) rfl ?_
          exact .inr ⟨_, 1, s.size, HG.out.bad (by omega) (.stopIn HE.out HD.out), by omega, rfl, (hbel.setCell (p := ⟨w.heap.size, 0, none⟩) (Nat.le_refl _) _).setCell (p := ⟨w.heap.size, 1, none⟩) (Nat.le_refl _) _⟩
end Go.Proofs.Ytllgindmcjemeaa
