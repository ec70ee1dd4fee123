/- Walk: the law JudgeModels (printed by genJuB5.py). -/
import Derived.Test.YthjfiomcpihlaaaJuM1
import Derived.Test.YthjfiomcpihlaaaJuM2
import Derived.Test.YthjfiomcpihlaaaJuM3
import Derived.Test.YthjfiomcpihlaaaJuTS
import Derived.Test.YthjfiomcpihlaaaJuEP
namespace Go.Proofs.Ythjfiomcpihlaaa
open Go.RowKit

def freeForm (cls : List (List Int)) : FormD := ⟨[], [], List.replicate 6 ⟨1, 0, 0, ⟨[], 0, 0⟩⟩, cls⟩
theorem freeForm_ok {cls : List (List Int)} (hn : cls.length ≤ 12) (hl : ∀ c ∈ cls, Lits 6 c) : formF (freeForm cls) = (0, 0) := by
  unfold formF
  rw [if_pos (show (termsF (freeForm cls).terms).1 = 0 from rfl), if_neg (by simp [freeForm])]
  have ha : atomsF (freeForm cls) = (0, 0) := by
    show firstBad (fun x _ => atomCode x 0 0) (List.replicate 6 ⟨1, 0, 0, ⟨[], 0, 0⟩⟩) 0 = (0, 0)
    decide
  rw [ha, if_pos rfl]
  show cnfF 6 cls = (0, 0)
  unfold cnfF
  rw [if_neg (by omega)]
  have h0 : (firstBad (fun x _ => clauseCode 6 x) cls 0).1 = 0 := first0_iff.2 fun k x hx => (hl x (List.mem_of_getElem? hx)).code
  have h1 : ∀ (l : List (List Int)) (i : Int), (firstBad (fun x _ => clauseCode 6 x) l i).1 = 0 → firstBad (fun x _ => clauseCode 6 x) l i = (0, 0) := by
    intro l
    induction l with
    | nil => intro i _; rfl
    | cons y r ih =>
      intro i h
      rw [firstBad] at h ⊢
      by_cases hy : clauseCode 6 y = 0
      · rw [if_pos hy] at h ⊢; exact ih _ h
      · rw [if_neg hy] at h; exact absurd h hy
  exact h1 cls 0 h0
theorem free_why {cls : List (List Int)} {l : List StepD} (hn : cls.length ≤ 12) (hl : ∀ c ∈ cls, Lits 6 c) (h12 : l.length ≤ 12) : ∃ q : Int, whyJ (freeForm cls) l = (q, 0, 0) ∧ q = runJ [] [] ⟨(freeForm cls).atoms, cls⟩ l 0 := by
  refine ⟨_, ?_, rfl⟩
  unfold whyJ
  rw [freeForm_ok hn hl, if_neg (by simp), if_neg (by omega)]
  rfl
theorem infoStepM : (Try.prog.info? 47).map (fun i => (i.zero, i.size, i.bytes)) = some (some (.agg #[.int .i64 0, .slice none 0 0, .slice none 0 0, .int .i64 0, .int .i64 0, .int .i64 0, .slice none 0 0, .int .i64 0, .int .i64 0]), 9, 120) := by kernel_rfl
theorem rowStepsM : RowT Try.prog 43 47 9 120 := rowT_of Try.underlying43 infoStepM rfl (by omega)
theorem step_lits_get {w : World} {B : Nat} {A : Option Addr} {n : Nat} {xs : List StepD} (h : ArrB AtStep 9 w B A n xs) {i : Nat} (hi : i < n) :
    ∃ (b off : Nat) (hx : i < xs.length) (L : Option Addr) (nl cl : Nat), A = some ⟨b, off, none⟩ ∧ b < B ∧ w.cell? ⟨b, off + i * 9 + 1, none⟩ = some (.slice L nl cl) ∧ nl ≤ cl ∧ cl ≤ maxLen ∧ IntsB w B L nl xs[i].lits := by
  obtain ⟨b, off, hx, e, hb, -, ⟨L, nl, cl, k2, h21, h22, h23⟩, -⟩ := Arr.get h hi
  exact ⟨b, off, hx, L, nl, cl, e, hb, k2, h21, h22, h23⟩
theorem getD_i64M {w : World} {S : Nat → Prop} {A : Option Addr} {n : Nat} {xs : List Int} (h : Arr AtInt 1 w S A n xs) (k : Nat) : I64 (xs.getD k 0) := by
  rw [List.getD_eq_getElem?_getD]
  cases hx : xs[k]? with
  | none => exact i64_0
  | some x => obtain ⟨b, off, _, _, hc⟩ := h.at_ k x hx; exact hc.2
/-- a step that learns a clause that was made: what an append is to know -/
theorem learn_made {W0 wr w3 : World} {v v1 : Value} {xs : List StepD} {ks : List Int} (hown : OwnV VStep 47 9 wr W0.heap.size (SO W0.heap.size wr v1) v1 xs) (hz : W0.heap.size ≤ wr.heap.size) (hb3 : Below wr.heap.size wr w3) (hc : OwnC w3 wr.heap.size v ks) :
    ∃ A3 c3, v = .slice A3 ks.length c3 ∧ ks.length ≤ c3 ∧ c3 ≤ maxLen ∧ ∀ Y, Y = w3.alloc (.cells #[.int .i64 1, .slice A3 ks.length c3, .slice none 0 0, .int .i64 0, .int .i64 0, .int .i64 0, .slice none 0 0, .int .i64 0, .int .i64 0] 47) →
      OwnV VStep 47 9 Y W0.heap.size (SO W0.heap.size Y v1) v1 xs ∧ VStep Y (SO W0.heap.size Y v1) (#[.int .i64 1, .slice A3 ks.length c3, .slice none 0 0, .int .i64 0, .int .i64 0, .int .i64 0, .slice none 0 0, .int .i64 0, .int .i64 0] : Array Value).toList ⟨1, ks, [], nilAtom⟩ ∧ Below wr.heap.size wr Y := by
  have hol := hc.lt
  obtain ⟨A3, c3, rfl, h1, h2, h3⟩ := OwnV.reads (E := AtInt) tells_int (fun _ _ _ _ _ h => atV_int.1 h) hc (S' := fun b => wr.heap.size ≤ b ∧ b < w3.heap.size) (fun b h => False.elim h) (fun g hg => hol g hg)
  refine ⟨A3, c3, rfl, h1, h2, fun Y hY => ?_⟩
  have hb3Y : Below w3.heap.size w3 Y := by rw [hY]; exact (Below.refl _ _).alloc (Nat.le_refl _) _
  have hbY : Below wr.heap.size wr Y := hb3.trans (hb3Y.mono hb3.size)
  have hlt := hown.lt
  refine ⟨hown.kept tells_step (only_of_below hbY none) (by cases v1.ownBlock <;> simp) (fun b hb => ⟨⟨hb.1, Nat.lt_of_lt_of_le hb.2.1 hbY.size, hb.2.2⟩, hb.2.1, by simp⟩), ?_, hbY⟩
  exact vstep_plain i64_1 h1 h2 (Nat.le_refl _) (Nat.zero_le _) (h3.keep stays_int (fun b hb => ⟨by omega, by have := hb3Y.size; omega, fun e => by have := (hlt b e).2; omega⟩) (fun b o hb => hb3Y.cell (p := ⟨b, o, none⟩) hb.2)) Arr.nil_
theorem own_step9 {W0 Y w6 : World} {v v' : Value} {zs : List StepD} (h : OwnV VStep 47 9 w6 W0.heap.size (SO W0.heap.size Y v) v' zs) (hg : Y.grownBy w6 v.ownBlock) (hat : v'.ownBlock = v.ownBlock ∨ v'.ownBlock = some Y.heap.size) : OwnV VStep 47 9 w6 W0.heap.size (SO W0.heap.size w6 v') v' zs := by
  obtain ⟨cells, h1, h2⟩ := h
  refine ⟨cells, h1, Cels.keep tells_step (fun b hb => ⟨hb.1, Nat.lt_of_lt_of_le hb.2.1 hg.size, ?_⟩) (fun _ _ _ => rfl) _ _ h2⟩
  rcases hat with e | e
  · rw [e]; exact hb.2.2
  · rw [e]; intro e2; injection e2 with e2; have := hb.2.1; omega

set_option maxRecDepth 100000 in
set_option maxHeartbeats 16000000 in
theorem judgeModels_any (A : Option Addr) (n c : Nat) (xs : List Int) (A' : Option Addr) (n' c' : Nat) (xs' : List Int) (A'' : Option Addr) (n'' c'' : Nat) (xs'' : List Int) (w : World) (hxs : ArrB AtInt 1 w w.heap.size A n xs) (hn : n ≤ 9223372036854775807)
    (hxs' : ArrB AtInt 1 w w.heap.size A' n' xs') (_ : n' ≤ 9223372036854775807) (hxs'' : ArrB AtInt 1 w w.heap.size A'' n'' xs'') (hn'' : n'' ≤ 9223372036854775807) :
    Calls Try.prog 4 #[.slice A n c, .slice A' n' c', .slice A'' n'' c''] w fun e w' => e = .returned (.bool true) ∧ Below w.heap.size w w' := by
  have HC := Lib.hid (cnfOf_any A n c xs 6 12 w hxs hn (by omega) (by omega) (by omega))
  have HX := Lib.hid (And.intro hxs' hxs'')
  clear hxs hxs' hxs''
  go_enter Try.func4, Try.ntmps4
  go_wp2_with fail
  refine HC.out.mono ?_
  rintro e w1 ⟨A4, n4, c4, cls, rfl, hcls, h4, h4m, h12, hlits, hb1⟩
  have hb1a : Below w.heap.size w (w1.alloc (.cells #[.int .i64 6, .slice A4 n4 c4] 38)) := hb1.alloc hb1.size _
  have HF := Lib.hid (free_any 6 A4 n4 c4 (w1.alloc (.cells #[.int .i64 6, .slice A4 n4 c4] 38)) (by omega))
  have hcl1 := hcls.below (stays_arr stays_int) ((Below.refl w1.heap.size w1).alloc (Nat.le_refl _) (.cells #[.int .i64 6, .slice A4 n4 c4] 38)) ((Below.refl w1.heap.size w1).alloc (Nat.le_refl _) (.cells #[.int .i64 6, .slice A4 n4 c4] 38)).size
  have H1 := Lib.hid (And.intro hb1a (And.intro hcl1 (And.intro h4 (And.intro h4m hlits))))
  have hz1 : w.heap.size ≤ w1.heap.size := hb1.size
  clear hcls h4 h4m hlits hb1 hb1a hcl1 HC
  go_wp2_with fail
  refine HF.out.mono ?_
  rintro e w2 ⟨A3, c3, rfl, hat, h6, h3m, hb2⟩
  have hbw2 : Below w.heap.size w w2 := H1.out.1.trans (hb2.mono H1.out.1.size)
  have hF : FormB w2 w2.heap.size none none A3 A4 0 0 6 n4 (freeForm cls) := ⟨Arr.nil_, Arr.nil_, hat, H1.out.2.1.below (stays_arr stays_int) hb2 hb2.size, by decide, by decide, by decide, by omega⟩
  obtain ⟨X, hX⟩ : ∃ X, w2.alloc (.cells #[.slice none 0 0, .slice none 0 0, .slice A3 6 c3, .slice A4 n4 c4] 27) = X := ⟨_, rfl⟩
  have hbX : Below w2.heap.size w2 X := by rw [← hX]; exact (Below.refl _ _).alloc (Nat.le_refl _) _
  have kX : Blk X w2.heap.size 27 #[.slice none 0 0, .slice none 0 0, .slice A3 6 c3, .slice A4 n4 c4] := by rw [← hX]; exact Blk.new _ _ _
  have zX : w2.heap.size < X.heap.size := kX.lt
  have H2 := Lib.hid (And.intro (hbw2.trans (hbX.mono hbw2.size)) (And.intro (hF.below hbX hbX.size) (And.intro kX (And.intro h6 (And.intro h3m H1.out.2.2.2.2)))))
  have HXX := Lib.hid hX
  have HAT := Lib.hid (fun (W : World) (i : Nat) => at_any A'' n'' c'' xs'' i (fun _ => True) W)
  have HI := Lib.hid (fun i => getD_i64M HX.out.2 i)
  clear hat hb2 hbw2 hF hX hbX kX h6 h3m HF H1
  go_upto_region 4 with fail
  rw [HXX.out]
  clear HXX
  go_wp2_with fail
  go_loopw [9, 10] (fun s9 s10 wr => ∃ (i : Nat) (hs : List Bool), s10 = .int .i64 (i : Int) ∧ i ≤ 6 ∧ Hid (hs.length = i ∧ OwnV VBool 4 1 wr X.heap.size (fun _ => False) s9 hs ∧ Below X.heap.size X wr)) (fun _ s10 _ => 6 - (intOf s10).toNat)
  case atStart => exact ⟨0, [], rfl, Nat.zero_le _, rfl, OwnV.none_ _ _ _ _ _ _, Below.refl _ _⟩
  case round =>
    obtain ⟨i, hs, rfl, hi, HR⟩ := hrel
    by_cases hlt : i < 6
    · obtain ⟨A9, c9, rfl, -, -⟩ := HR.out.2.1.len
      have hiI : (i : Int) < 6 := by omega
      have hbwr := HR.out.2.2
      have HA := Lib.hid (at_any A'' n'' c'' xs'' i (fun b => b < w.heap.size) wr ((HX.out.2.below stays_int (H2.out.1.trans (hbwr.mono H2.out.1.size)) (Nat.le_refl _)).keep stays_int (fun _ h => h) (fun _ _ _ => rfl)) hn'')
      have hI64 := HI.out i
      generalize xs''.getD i 0 = y at HA hI64
      have hzr := hbwr.size
      clear hbwr
      go_wp2_with fail
      refine HA.out.mono ?_
      rintro e w9 ⟨rfl, rfl⟩
      go_wp2_with fail
      refine (picked_in y 2 _ hI64 (by omega) (by omega)).mono ?_
      rintro e w9 ⟨r, rfl, rfl, r0, r1⟩
      obtain ⟨bv, hbv⟩ : ∃ b, (r == 1) = b := ⟨_, rfl⟩
      have HBN := Lib.hid (Blk.new wr 4 #[.bool bv])
      have HOY := Lib.hid (HR.out.2.1.kept tells_bool (S' := fun _ => False) (only_alloc (only_refl wr none) (.cells #[.bool bv] 4)) (by cases A9 <;> simp [Value.ownBlock]) (fun b hb => False.elim hb))
      have HLT := Lib.hid HR.out.2.1.lt
      go_wp2_with (at_builtin; go_loud (refine wpList_append_item rfl _ _ _ rfl rowBools tells_bool (v := .slice A9 hs.length c9) (xs := hs) (base := X.heap.size) (S := fun _ => False) rfl HOY.out (g := wr.heap.size) (cs := #[.bool bv]) rfl HBN.out (y := bv) rfl (fun b h => False.elim h) (by have := HR.out.1; unfold maxLen; omega) (by have := HR.out.1; omega) (by simp; omega) ?_); intro v' w6 hown6 hgrow6 hat6; (have HB6 := Lib.hid (And.intro hown6 hgrow6)); clear hown6 hgrow6 hat6)
      go_roundw
      case rel =>
        refine ⟨i + 1, hs ++ [bv], by go_num, by omega, by simp [HR.out.1], HB6.out.1, ?_⟩
        exact below_then (HR.out.2.2.alloc HR.out.2.2.size _) HB6.out.2 (by simp; omega) (fun x hx => (HLT.out x hx).1)
      case measure => simp [intOf]; omega
    · have hiI : ¬ (i : Int) < 6 := by omega
      have H6 := Lib.hid (show i = 6 by omega)
      obtain ⟨d6, rfl⟩ : ∃ d, d = i := ⟨_, rfl⟩
      obtain ⟨Ah, ch, rfl, -, -, harh⟩ := HR.out.2.1.reads tells_bool (E := AtBool) (S' := fun b => b < wr.heap.size) (fun _ _ _ _ _ h => atV_bool.1 h) (fun b hb => False.elim hb) (fun g hg => (HR.out.2.1.lt g hg).2)
      have hl6 := HR.out.1
      rw [hl6] at harh ⊢
      obtain ⟨Wh, rfl⟩ : ∃ Wh : World, Wh = wr := ⟨_, rfl⟩
      have HH := Lib.hid (And.intro harh (And.intro HR.out.2.2 hl6))
      have zWh : X.heap.size ≤ Wh.heap.size := HR.out.2.2.size
      have hd6 : d6 ≤ 6 := hi
      clear harh hl6 HR hi hlt
      go_wp2_with fail
      go_loopw [11, 12] (fun s11 s12 wr => ∃ (i : Nat) (l : List StepD), s12 = .int .i64 (i : Int) ∧ i ≤ 12 ∧ Hid (l.length = i ∧ (∀ x ∈ l, x.kind = 1 ∧ Lits 6 x.lits) ∧ OwnV VStep 47 9 wr Wh.heap.size (SO Wh.heap.size wr s11) s11 l ∧ Below Wh.heap.size Wh wr)) (fun _ s12 _ => 12 - (intOf s12).toNat)
      case atStart => exact ⟨0, [], rfl, Nat.zero_le _, rfl, fun x hx => by simp at hx, OwnV.none_ _ _ _ _ _ _, Below.refl _ _⟩
      case round =>
        obtain ⟨i, l, rfl, hi, HR⟩ := hrel
        have hbwr : Below w.heap.size w wr := H2.out.1.trans ((HH.out.2.1.trans (HR.out.2.2.2.mono HH.out.2.1.size)).mono H2.out.1.size)
        have hzr := HR.out.2.2.2.size
        by_cases hlt : i < n' ∧ i < 12
        · obtain ⟨A9, c9, rfl, -, -⟩ := HR.out.2.2.1.len
          obtain ⟨hl1, hl2⟩ := hlt
          have hiI : (i : Int) < (n' : Int) := by omega
          have hiJ : (i : Int) < 12 := by omega
          obtain ⟨bx, ox, hx, rfl, hbx, hcx, hx0, hx1⟩ := ints_get (HX.out.1.below stays_int hbwr hbwr.size) hl1
          generalize xs'[i] = x at hcx hx0 hx1
          have HC := Lib.hid (clauseOf_any x 6 wr ⟨hx0, hx1⟩ (by omega) (by omega))
          have HL := Lib.hid HR.out.1
          have hlx : l.length ≤ 100 := by have := HR.out.1; omega
          clear hbx hx hx0 hx1 hbwr
          go_wp2_with fail
          refine HC.out.mono ?_
          rintro e w3 ⟨v, ks, rfl, hown, hlits, hb3⟩
          obtain ⟨A5, c5, rfl, -, -, hmade⟩ := learn_made HR.out.2.2.1 hzr hb3 hown
          have HY := Lib.hid (hmade _ rfl)
          have HLI := Lib.hid hlits
          have HLT := Lib.hid HR.out.2.2.1.lt
          have HBN := Lib.hid (Blk.new w3 47 #[.int .i64 1, .slice A5 ks.length c5, .slice none 0 0, .int .i64 0, .int .i64 0, .int .i64 0, .slice none 0 0, .int .i64 0, .int .i64 0])
          have hW0 : Wh.heap.size ≤ (w3.alloc (.cells #[.int .i64 1, .slice A5 ks.length c5, .slice none 0 0, .int .i64 0, .int .i64 0, .int .i64 0, .slice none 0 0, .int .i64 0, .int .i64 0] 47)).heap.size := Nat.le_trans hzr HY.out.2.2.size
          clear hmade hlits hown hb3
          go_wp2_with (at_builtin; go_loud (refine wpList_append_item rfl _ _ _ rfl rowStepsM tells_step (v := .slice A9 l.length c9) (xs := l) (base := Wh.heap.size) (S := SO Wh.heap.size (w3.alloc (.cells #[.int .i64 1, .slice A5 ks.length c5, .slice none 0 0, .int .i64 0, .int .i64 0, .int .i64 0, .slice none 0 0, .int .i64 0, .int .i64 0] 47)) (.slice A9 l.length c9)) rfl HY.out.1 (g := w3.heap.size) (cs := #[.int .i64 1, .slice A5 ks.length c5, .slice none 0 0, .int .i64 0, .int .i64 0, .int .i64 0, .slice none 0 0, .int .i64 0, .int .i64 0]) rfl HBN.out (y := ⟨1, ks, [], nilAtom⟩) HY.out.2.1 (fun b h => ⟨h.2.1, h.2.2⟩) (by unfold maxLen; omega) (by omega) hW0 ?_); intro v' w6 hown6 hgrow6 hat6; (have HB6 := Lib.hid (And.intro hown6 (And.intro hgrow6 hat6))); clear hown6 hgrow6 hat6)
          go_roundw
          case rel =>
            refine ⟨i + 1, l ++ [⟨1, ks, [], nilAtom⟩], by go_num, by omega, by simp [HL.out], fun x hx => ?_, own_step9 HB6.out.1 HB6.out.2.1 HB6.out.2.2, ?_⟩
            · rcases List.mem_append.1 hx with hx | hx
              · exact HR.out.2.1 x hx
              · rw [List.mem_singleton.1 hx]; exact ⟨rfl, HLI.out⟩
            · exact below_then (HR.out.2.2.2.trans (HY.out.2.2.mono hzr)) HB6.out.2.1 hW0 (fun x hx => (HLT.out x hx).1)
          case measure => simp [intOf]; omega
        · obtain ⟨wo, rfl⟩ : ∃ wo : World, wo = wr := ⟨_, rfl⟩
          obtain ⟨Al, cl, rfl, -, -, harl⟩ := HR.out.2.2.1.reads tells_step (E := AtStep) (S' := fun b => b < wo.heap.size) (fun _ _ _ _ _ h => atV_step h) (fun b hb => hb.2.1) (fun g hg => (HR.out.2.2.1.lt g hg).2)
          obtain ⟨m, hm⟩ : ∃ m, l.length = m := ⟨_, rfl⟩
          rw [hm] at harl ⊢
          have hm12 : m ≤ 12 := by have := HR.out.1; omega
          obtain ⟨q, hq, hqr⟩ := free_why (cls := cls) (l := l) (by have := H2.out.2.1.clauses.len; dsimp only [freeForm] at this; omega) H2.out.2.2.2.2.2 (by omega)
          have hrange := runJ_range (ts := []) (ints := []) l ⟨(freeForm cls).atoms, cls⟩ 0
          rw [← hqr, hm] at hrange
          have hXwr : Below X.heap.size X wo := HH.out.2.1.trans (HR.out.2.2.2.mono HH.out.2.1.size)
          have HW := Lib.hid (why_any none none A3 A4 0 0 0 0 6 c3 n4 c4 (freeForm cls) Al m cl l q 0 0 wo (H2.out.2.1.below hXwr hXwr.size) (Nat.le_refl _) H2.out.2.2.2.1 H2.out.2.2.2.2.1 harl hq)
          have kX := H2.out.2.2.1.below hXwr zX
          have r0 : wo.cell? ⟨w2.heap.size, 0, none⟩ = some (.slice none 0 0) := kX.cell 0
          have r1 : wo.cell? ⟨w2.heap.size, 1, none⟩ = some (.slice none 0 0) := kX.cell 1
          have r2 : wo.cell? ⟨w2.heap.size, 2, none⟩ = some (.slice A3 6 c3) := kX.cell 2
          have r3 : wo.cell? ⟨w2.heap.size, 3, none⟩ = some (.slice A4 n4 c4) := kX.cell 3
          have hk1 : ∀ x ∈ l, x.kind = 1 := fun x hx => (HR.out.2.1 x hx).1
          have hlitsl : ∀ x ∈ l, ∀ y ∈ x.lits, LitIn 6 y := fun x hx y hy => by obtain ⟨h0, h1, h2⟩ := (HR.out.2.1 x hx).2.rng y hy; exact ⟨h0, h1, h2⟩
          have hlitsc : ∀ c ∈ cls, ∀ y ∈ c, LitIn 6 y := fun c hc y hy => by obtain ⟨h0, h1, h2⟩ := (H2.out.2.2.2.2.2 c hc).rng y hy; exact ⟨h0, h1, h2⟩
          have HM := Lib.hid (fun (hall : cls.all (satC hs) = true) (k : Nat) (x : StepD) (hk : l[k]? = some x) (hr : q = -1 ∨ (k : Int) < q) => runJ_models (ts := []) (ints := []) (h := hs) l ⟨(freeForm cls).atoms, cls⟩ 0 (by omega) hk1 (fun c hc => ⟨fun y hy => (hlitsc c hc y hy).1, List.all_eq_true.1 hall c hc⟩) k x hk (by rw [← hqr]; omega))
          have HWh := Lib.hid HR.out.2.2.2
          have HK := Lib.hid (And.intro harl (And.intro hXwr (And.intro hbwr (And.intro hlitsl (And.intro hlitsc hm)))))
          have q1 : ¬ q < -1 := by omega
          have q2 : ¬ (m : Int) < q := by omega
          have zr2 : w2.heap.size < wo.heap.size := kX.lt
          clear harl hq hqr hrange hXwr kX hk1 hlitsl hlitsc hbwr HR
          by_cases hA : i < n'
          rotate_left
          have hiI : ¬ (i : Int) < (n' : Int) := by omega
          rotate_left
          have hiI : (i : Int) < (n' : Int) := by omega
          have hiJ : ¬ (i : Int) < 12 := by omega
          all_goals
            clear hA hlt
            go_wp2_with fail
            refine HW.out.mono ?_
            rintro e w7 ⟨rfl, hb7⟩
            have hw7 : Below wo.heap.size wo (w7.alloc (.cells #[.int .i64 0, .int .i64 0] 29)) := hb7.alloc hb7.size _
            have kf := Blk.new w7 29 #[.int .i64 0, .int .i64 0]
            have H7 := Lib.hid (And.intro hw7 kf)
            have hz7 := hb7.size
            clear hb7 hw7 kf HW r0 r1 r2 r3
            go_wp2_with fail
            refine (judgeSure_any _).mono ?_
            rintro e w8 ⟨rfl, hb8⟩
            have hb78 : Below wo.heap.size wo w8 := H7.out.1.trans (hb8.mono H7.out.1.size)
            have kX := H2.out.2.2.1.below (HK.out.2.1.trans (hb78.mono HK.out.2.1.size)) zX
            have r3 : w8.cell? ⟨w2.heap.size, 3, none⟩ = some (.slice A4 n4 c4) := kX.cell 3
            have zr8 : w2.heap.size < w8.heap.size := kX.lt
            have hz8 := hb78.size
            have hX8 : Below X.heap.size X w8 := HK.out.2.1.trans (hb78.mono HK.out.2.1.size)
            have hWh8 : Below Wh.heap.size Wh w8 := HWh.out.trans (hb78.mono HWh.out.size)
            have HCH := Lib.hid (clausesHold_any A4 n4 c4 cls Ah d6 ch hs _ w8 (H2.out.2.1.clauses.below (stays_arr stays_int) hX8 hX8.size) (by omega) (ArrB.below HH.out.1 stays_bool hWh8 hWh8.size) (by omega) (by rw [H6.out]; exact HK.out.2.2.2.2.1) rfl)
            have H8 := Lib.hid (And.intro hb78 (And.intro hX8 (And.intro hWh8 (HK.out.2.2.1.trans (hb78.mono HK.out.2.2.1.size)))))
            clear hb8 hb78 kX hX8 hWh8
            by_cases hq : q = -1
            · subst hq
              go_wp2_with fail
              obtain ⟨R, hRR⟩ : ∃ R, cls.all (satC hs) = R := ⟨_, rfl⟩
              rw [hRR] at HCH
              refine HCH.out.mono ?_
              rintro e w9 ⟨rfl, rfl⟩
              cases R with
              | false =>
                go_wp2_with fail
                go_ret
                exact ⟨rfl, H8.out.2.2.2⟩
              | true =>
                have HALL := Lib.hid hRR
                clear hRR HCH
                go_wp2_with fail
                go_loopw [15] (fun s15 wr => ∃ i : Nat, s15 = .int .i64 (i : Int) ∧ i ≤ m ∧ Hid (Below w8.heap.size w8 wr)) (fun s15 _ => m - (intOf s15).toNat)
                case atStart => exact ⟨0, rfl, Nat.zero_le _, Below.refl _ _⟩
                case round =>
                  obtain ⟨i, rfl, hi, HR⟩ := hrel
                  by_cases hlt : i < m
                  · have hiI : (i : Int) < (m : Int) := by omega
                    have him : i < m := by omega
                    have hbx : Below wo.heap.size wo wr := H8.out.1.trans (HR.out.mono H8.out.1.size)
                    obtain ⟨b, off, hx, L, nl, cL, rfl, hb, hcell, hnc, hcm, hin⟩ := step_lits_get (ArrB.below HK.out.1 stays_step hbx (Nat.le_refl _)) him
                    have hsat := HM.out HALL.out i l[i] (List.getElem?_eq_getElem hx) (by simp)
                    have hlin := HK.out.2.2.2.1 l[i] (List.getElem_mem hx)
                    generalize l[i] = x at hin hsat hlin
                    have hbY : Below wr.heap.size wr (wr.alloc (.cells #[.slice L nl cL] 31)) := (Below.refl _ _).alloc (Nat.le_refl _) _
                    have hWh : Below Wh.heap.size Wh (wr.alloc (.cells #[.slice L nl cL] 31)) := HWh.out.trans ((hbx.trans (hbY.mono hbx.size)).mono HWh.out.size)
                    have HC2 := Lib.hid (clausesHold_any (some ⟨wr.heap.size, 0, none⟩) 1 1 [x.lits] Ah d6 ch hs true (wr.alloc (.cells #[.slice L nl cL] 31)) (row_one (tells_arr stays_int) atArr_of (Blk.new wr 31 #[.slice L nl cL]) (varr_of (hin.keep stays_int (fun b hb => by have := hbx.size; have := hbY.size; omega) (fun b o hb => hbY.cell (p := ⟨b, o, none⟩) (Nat.lt_of_lt_of_le hb hbx.size))) hnc hcm) (by simp)) (by omega) (ArrB.below HH.out.1 stays_bool hWh hWh.size) (by omega) (by rw [H6.out]; intro c hc y hy; rw [List.mem_singleton] at hc; subst hc; exact hlin y hy) (by simp [hsat]))
                    have hbsz : b < wr.heap.size := Nat.lt_of_lt_of_le hb hbx.size
                    clear hsat hlin hin hbY hWh hbx hcm
                    go_wp2_with fail
                    refine HC2.out.mono ?_
                    rintro e w9 ⟨rfl, rfl⟩
                    go_wp2_with fail
                    go_roundw
                    case rel => exact ⟨i + 1, by go_num, by omega, HR.out.alloc HR.out.size _⟩
                    case measure => simp [intOf]; omega
                  · have hiI : ¬ (i : Int) < (m : Int) := by omega
                    go_wp2_with fail
                    go_ret
                    exact ⟨rfl, H8.out.2.2.2.trans (HR.out.mono H8.out.2.2.2.size)⟩
            · obtain ⟨N, rfl⟩ : ∃ N : Nat, q = N := ⟨q.toNat, by omega⟩
              have hqb : ((N : Int) == -1) = false := by simp
              have hNm : N ≤ m := by omega
              go_wp2_with fail
              obtain ⟨R, hRR⟩ : ∃ R, cls.all (satC hs) = R := ⟨_, rfl⟩
              rw [hRR] at HCH
              refine HCH.out.mono ?_
              rintro e w9 ⟨rfl, rfl⟩
              cases R with
              | false =>
                go_wp2_with fail
                go_ret
                exact ⟨rfl, H8.out.2.2.2⟩
              | true =>
                have HALL := Lib.hid hRR
                clear hRR HCH
                go_wp2_with fail
                go_loopw [15] (fun s15 wr => ∃ i : Nat, s15 = .int .i64 (i : Int) ∧ i ≤ N ∧ Hid (Below w8.heap.size w8 wr)) (fun s15 _ => N - (intOf s15).toNat)
                case atStart => exact ⟨0, rfl, Nat.zero_le _, Below.refl _ _⟩
                case round =>
                  obtain ⟨i, rfl, hi, HR⟩ := hrel
                  by_cases hlt : i < N
                  · have hiI : (i : Int) < (N : Int) := by omega
                    have him : i < m := by omega
                    have hbx : Below wo.heap.size wo wr := H8.out.1.trans (HR.out.mono H8.out.1.size)
                    obtain ⟨b, off, hx, L, nl, cL, rfl, hb, hcell, hnc, hcm, hin⟩ := step_lits_get (ArrB.below HK.out.1 stays_step hbx (Nat.le_refl _)) him
                    have hsat := HM.out HALL.out i l[i] (List.getElem?_eq_getElem hx) (.inr (by omega))
                    have hlin := HK.out.2.2.2.1 l[i] (List.getElem_mem hx)
                    generalize l[i] = x at hin hsat hlin
                    have hbY : Below wr.heap.size wr (wr.alloc (.cells #[.slice L nl cL] 31)) := (Below.refl _ _).alloc (Nat.le_refl _) _
                    have hWh : Below Wh.heap.size Wh (wr.alloc (.cells #[.slice L nl cL] 31)) := HWh.out.trans ((hbx.trans (hbY.mono hbx.size)).mono HWh.out.size)
                    have HC2 := Lib.hid (clausesHold_any (some ⟨wr.heap.size, 0, none⟩) 1 1 [x.lits] Ah d6 ch hs true (wr.alloc (.cells #[.slice L nl cL] 31)) (row_one (tells_arr stays_int) atArr_of (Blk.new wr 31 #[.slice L nl cL]) (varr_of (hin.keep stays_int (fun b hb => by have := hbx.size; have := hbY.size; omega) (fun b o hb => hbY.cell (p := ⟨b, o, none⟩) (Nat.lt_of_lt_of_le hb hbx.size))) hnc hcm) (by simp)) (by omega) (ArrB.below HH.out.1 stays_bool hWh hWh.size) (by omega) (by rw [H6.out]; intro c hc y hy; rw [List.mem_singleton] at hc; subst hc; exact hlin y hy) (by simp [hsat]))
                    have hbsz : b < wr.heap.size := Nat.lt_of_lt_of_le hb hbx.size
                    clear hsat hlin hin hbY hWh hbx hcm
                    go_wp2_with fail
                    refine HC2.out.mono ?_
                    rintro e w9 ⟨rfl, rfl⟩
                    go_wp2_with fail
                    go_roundw
                    case rel => exact ⟨i + 1, by go_num, by omega, HR.out.alloc HR.out.size _⟩
                    case measure => simp [intOf]; omega
                  · have hiI : ¬ (i : Int) < (N : Int) := by omega
                    go_wp2_with fail
                    go_ret
                    exact ⟨rfl, H8.out.2.2.2.trans (HR.out.mono H8.out.2.2.2.size)⟩
end Go.Proofs.Ythjfiomcpihlaaa
