/- Walk: the value of a node, at a name: the reference. -/
import Derived.Test.YtggkfepifnfdoaaGreatRefD
import Derived.Test.YtggkfepifnfdoaaGreatMeanH
import Derived.Deep.QuietTactic
import Derived.BigQuiet
namespace Go.Proofs.YtggkfepifnfdoaaGreat
open Go.RowKit

theorem means_get2 {w : World} {B : Nat} {A : Option Addr} {n : Nat} {xs : List MeaningD} (h : ArrB AtMeaning 5 w B A n xs) {i : Nat} (hi : i < n) :
    ∃ (b off : Nat) (hx : i < xs.length) (A' : Option Addr) (n' c' : Nat) (A2 : Option Addr) (n2 c2 : Nat), A = some ⟨b, off, none⟩ ∧ b < B ∧ w.cell? ⟨b, off + i * 5, none⟩ = some (.slice A' n' c') ∧ w.cell? ⟨b, off + i * 5 + 1, none⟩ = some (.int .i64 xs[i].rest.num) ∧
      w.cell? ⟨b, off + i * 5 + 1 + 1, none⟩ = some (.int .i64 xs[i].rest.den) ∧ w.cell? ⟨b, off + i * 5 + 1 + 2, none⟩ = some (.slice A2 n2 c2) ∧ w.cell? ⟨b, off + i * 5 + 1 + 3, none⟩ = some (.int .i64 xs[i].rest.rest) ∧
      ArrB AtEntry 5 w B A' n' xs[i].rows ∧ ArrB AtCell 2 w B A2 n2 xs[i].rest.cells ∧ n2 ≤ c2 ∧ c2 ≤ maxLen := by
  obtain ⟨b, off, hx, e, hb, ⟨A', n', c', h0, h1, h2, h3⟩, h4, h5, ⟨A2, n2, c2, h6, h7, h8, h9⟩, h10⟩ := Arr.get h hi
  exact ⟨b, off, hx, A', n', c', A2, n2, c2, e, hb, h0, h4.1, h5.1, h6, h10.1, h3, h9, h7, h8⟩
theorem entries_get2 {w : World} {B : Nat} {A : Option Addr} {n : Nat} {xs : List EntryD} (h : ArrB AtEntry 5 w B A n xs) {i : Nat} (hi : i < n) :
    ∃ (b off : Nat) (hx : i < xs.length) (A' : Option Addr) (n' c' : Nat) (A2 : Option Addr) (n2 c2 : Nat), A = some ⟨b, off, none⟩ ∧ b < B ∧ w.cell? ⟨b, off + i * 5, none⟩ = some (.slice A' n' c') ∧ w.cell? ⟨b, off + i * 5 + 1, none⟩ = some (.int .i64 xs[i].to_.num) ∧
      w.cell? ⟨b, off + i * 5 + 1 + 1, none⟩ = some (.int .i64 xs[i].to_.den) ∧ w.cell? ⟨b, off + i * 5 + 1 + 2, none⟩ = some (.slice A2 n2 c2) ∧ w.cell? ⟨b, off + i * 5 + 1 + 3, none⟩ = some (.int .i64 xs[i].to_.rest) ∧
      IntsB w B A' n' xs[i].args ∧ ArrB AtCell 2 w B A2 n2 xs[i].to_.cells ∧ n2 ≤ c2 ∧ c2 ≤ maxLen := by
  obtain ⟨b, off, hx, e, hb, ⟨A', n', c', h0, h1, h2, h3⟩, h4, h5, ⟨A2, n2, c2, h6, h7, h8, h9⟩, h10⟩ := Arr.get h hi
  exact ⟨b, off, hx, A', n', c', A2, n2, c2, e, hb, h0, h4.1, h5.1, h6, h10.1, h3, h9, h7, h8⟩
set_option maxRecDepth 100000 in
set_option maxHeartbeats 4000000 in
theorem ref_9 (A1 A2 A3 : Option Addr) (n1 c1 n2 c2 n3 c3 : Nat) (AM : Option Addr) (nm cm : Nat) (s : Int) (K : Option Addr) (kn kc : Nat) (N D : Int) (nme : ByteArray) (AK : Option Addr) (ck : Nat) (nk : Nat) (vs : List ValueD) (ds : List DeclD) (ms : List MeaningD) (k : Nat) (m : MeaningD) (Bm : Nat) (S0 : Nat → Prop) (w : World) (hvs : Arr AtValue 4 w S0 AK nk vs) (hS0 : ∀ b, S0 b → b < w.heap.size) (hnk : nk ≤ 1000) (hds : ArrB AtDecl 3 w w.heap.size A1 n1 ds) (hn1 : n1 ≤ 9223372036854775807) (hidx : idx (nameIs nme) ds 0 = k) (hms : ArrB AtMeaning 5 w Bm AM nm ms) (hBm : ∀ b, b < Bm → S0 b) (hBw : Bm ≤ w.heap.size) (hm : ms[k]? = some m) (hrl : m.rows.length ≤ 1000) (hal : ∀ e ∈ m.rows, e.args.length = vs.length) :
    Calls Tryz.prog 17 #[.agg #[.slice A1 n1 c1, .slice A2 n2 c2, .slice A3 n3 c3], .agg #[.slice AM nm cm], .agg #[.int .i64 9, .slice K kn kc, .int .i64 N, .int .i64 D, .string nme], .int .i64 s, .slice AK nk ck] w (ValueP S0 w (some (toldF vs m.rest m.rows))) := by
  obtain ⟨X, hX, hI, hsX⟩ := RefI.start w #[.slice A1 n1 c1, .slice A2 n2 c2, .slice A3 n3 c3] #[.slice AM nm cm] #[.int .i64 9, .slice K kn kc, .int .i64 N, .int .i64 D, .string nme]
  have x0 : X.cell? ⟨w.heap.size + 2, 0, none⟩ = some (.int .i64 9) := hI.node.cell 0
  have x2 : X.cell? ⟨w.heap.size + 2, 2, none⟩ = some (.int .i64 N) := hI.node.cell 2
  have x3 : X.cell? ⟨w.heap.size + 2, 3, none⟩ = some (.int .i64 D) := hI.node.cell 3
  have hzx : w.heap.size + 3 < X.heap.size := hI.val.lt
  have hvX : Arr AtValue 4 X S0 AK nk vs := hvs.keep stays_value (fun _ h => h) (fun b o h => hI.below.cell (p := ⟨b, o, none⟩) (hS0 b h))
  have HX := Lib.hid hX
  have HI := Lib.hid hI
  have HVX := Lib.hid hvX
  have HS0 := Lib.hid hS0
  have HSX := Lib.hid hsX
  have x4 : X.cell? ⟨w.heap.size + 2, 4, none⟩ = some (.string nme) := hI.node.cell 4
  have hkm : k < ms.length := (List.getElem?_eq_some_iff.1 hm).1
  have hlm := hms.len
  have hkn : k < nm := by omega
  obtain ⟨bm, om, hx, A5, n5, c5, A6, n6, c6, rfl, hbm, q0, q1, q2, q3, q4, hrw, hrc, hrn, hrm⟩ := means_get2 (hms.below stays_meaning (hI.below.mono hBw) (Nat.le_refl _)) hkn
  have hmk : ms[k] = m := by have := hm; rw [List.getElem?_eq_getElem hkm] at this; injection this
  rw [hmk] at q1 q2 q4 hrw hrc
  have hlr := hrw.len
  have hlc := hrc.len
  have hl := hvX.len
  have HF : Hid (∀ W : World, Below X.heap.size X W → Calls Tryz.prog 41 #[.slice A1 n1 c1, .string nme] W fun e w' => e = .returned (.int .i64 (k : Int)) ∧ W = w') := fun W hW =>
    declOf_any A1 n1 c1 nme ds k W _ ((hds.below stays_decl hI.below (Nat.le_refl _)).below stays_decl (hW.mono hI.below.size) (Nat.le_trans hI.below.size hW.size)) hn1 hidx
  have y0 : X.cell? ⟨w.heap.size, 0, none⟩ = some (.slice A1 n1 c1) := hI.ask.cell 0
  have y3 : X.cell? ⟨w.heap.size + 1, 0, none⟩ = some (.slice (some ⟨bm, om, none⟩) nm cm) := hI.wld.cell 0
  have hbmX : bm < X.heap.size := Nat.lt_of_lt_of_le (Nat.lt_of_lt_of_le hbm hBw) hI.below.size
  have zw0 : w.heap.size < X.heap.size := by omega
  have zw1 : w.heap.size + 1 < X.heap.size := by omega
  have zw2 : w.heap.size + 2 < X.heap.size := by omega
  have hkI : (k : Int) < (nm : Int) := by omega
  obtain ⟨V, hV⟩ : ∃ V, toldF vs m.rest m.rows = V := ⟨_, rfl⟩
  rw [hV]
  have HV : Hid (toldF vs m.rest (m.rows.drop 0) = V) := hV
  have HM := Lib.hid (And.intro hrw (And.intro hrc (And.intro hrn (And.intro hrm (And.intro hlr (And.intro hlc hl))))))
  have HAL := Lib.hid (And.intro hal (And.intro hrl hnk))
  have HBM := Lib.hid (And.intro hBm hBw)
  generalize hmn : m.rest.num = mn at q1
  generalize hmd : m.rest.den = md at q2
  generalize hmr : m.rest.rest = mr at q4
  have HRN := Lib.hid (And.intro hmn (And.intro hmd hmr))
  have ne0 : X.heap.size ≠ bm := by omega
  have ne1 : X.heap.size ≠ w.heap.size := by omega
  have ne2 : X.heap.size ≠ w.heap.size + 1 := by omega
  have ne3 : X.heap.size ≠ w.heap.size + 2 := by omega
  clear hX hI hsX hvs hds hms hm hrl hal hkm hlm hx hmk hrw hrc hlr hlc hidx hV hvX hS0 hrn hrm hl hmn hmd hmr hBm hBw hnk
  go_enter Tryz.func17, Tryz.ntmps17
  go_upto_region 2 with fail
  rw [HX.out]
  clear x0 x2 x3
  go_region_held3 (fun w' => w'.cell? ⟨w.heap.size, 0, none⟩ = some (.slice A1 n1 c1) ∧ w'.cell? ⟨w.heap.size + 1, 0, none⟩ = some (.slice (some ⟨bm, om, none⟩) nm cm) ∧ w'.cell? ⟨w.heap.size + 2, 4, none⟩ = some (.string nme) ∧ w'.cell? ⟨bm, om + k * 5, none⟩ = some (.slice A5 n5 c5) ∧ w'.cell? ⟨bm, om + k * 5 + 1, none⟩ = some (.int .i64 mn) ∧ w'.cell? ⟨bm, om + k * 5 + 1 + 1, none⟩ = some (.int .i64 md) ∧ w'.cell? ⟨bm, om + k * 5 + 1 + 2, none⟩ = some (.slice A6 n6 c6) ∧ w'.cell? ⟨bm, om + k * 5 + 1 + 3, none⟩ = some (.int .i64 mr))
    ((try dsimp only) <;> (repeat' apply And.intro) <;> go_keep)
    (first
      | (go_simp
         go_at_call 41
         refine (HF.out _ (by first | exact below_drewN (Below.refl _ _) 1 | exact below_drewN ((Below.refl _ _).alloc (Nat.le_refl _) _) 1)).mono ?_
         rintro e w' ⟨rfl, rfl⟩
         have r0 := y0)
      | fail)
  all_goals
    clear q0 q1 q2 q3 q4 y0 y3 x4 ne0 ne1 ne2 ne3 zw0 zw1 zw2 hkI hbmX
    have hbZ : Below X.heap.size X (X.alloc (.cells #[.slice A5 n5 c5, .int .i64 mn, .int .i64 md, .slice A6 n6 c6, .int .i64 mr] 62)).drew := below_drewN ((Below.refl _ _).alloc (Nat.le_refl _) _) 1
    have hkZ : Blk (X.alloc (.cells #[.slice A5 n5 c5, .int .i64 mn, .int .i64 md, .slice A6 n6 c6, .int .i64 mr] 62)).drew X.heap.size 62 #[.slice A5 n5 c5, .int .i64 mn, .int .i64 md, .slice A6 n6 c6, .int .i64 mr] := (Blk.new _ _ _).drew
    generalize (X.alloc (.cells #[.slice A5 n5 c5, .int .i64 mn, .int .i64 md, .slice A6 n6 c6, .int .i64 mr] 62)).drew = Z at hbZ hkZ ⊢
    have hMK : ∀ W, Below Z.heap.size Z W → Below X.heap.size X W ∧ RefI w W #[.slice A1 n1 c1, .slice A2 n2 c2, .slice A3 n3 c3] #[.slice (some ⟨bm, om, none⟩) nm cm] #[.int .i64 9, .slice K kn kc, .int .i64 N, .int .i64 D, .string nme] ∧ Blk W X.heap.size 62 #[.slice A5 n5 c5, .int .i64 mn, .int .i64 md, .slice A6 n6 c6, .int .i64 mr] := fun W hW =>
      have h := hbZ.trans (hW.mono hbZ.size)
      ⟨h, HI.out.keep h, hkZ.below hW hkZ.lt⟩
    have MK := Lib.hid hMK
    clear hMK hbZ hkZ
    have hn58 : n5 ≤ 1000 := by have := HAL.out.2.1; have := HM.out.2.2.2.2.1; omega
    have hnk8 : nk ≤ 1000 := HAL.out.2.2
    go_wp2_with fail
    go_loopw [13] (fun s13 wr => ∃ i : Nat, i ≤ n5 ∧ s13 = .int .i64 i ∧ Below Z.heap.size Z wr ∧ Hid (toldF vs m.rest (m.rows.drop i) = V)) (fun s13 _ => n5 - (intOf s13).toNat)
    case atStart => exact ⟨0, Nat.zero_le _, rfl, Below.refl _ _, HV⟩
    case round =>
      clear HV
      obtain ⟨i, hi, rfl, hbel, HK⟩ := hrel
      obtain ⟨hbx, hI, hkm⟩ := MK.out wr hbel
      have k0 : wr.cell? ⟨X.heap.size, 0, none⟩ = some (.slice A5 n5 c5) := hkm.cell 0
      have kz : X.heap.size < wr.heap.size := hkm.lt
      by_cases hlt : i < n5
      · obtain ⟨b, off, hx, A', n', c', A7, n7, c7, rfl, hb, hc0, hc1, hc2, hc3, hc4, hca, hcc, hcn, hcm⟩ := entries_get2 (HM.out.1.below stays_entry (hbx.mono (Nat.le_trans HBM.out.2 HI.out.below.size)) (Nat.le_refl _)) hlt
        have e1 := HK.out
        rw [drop_cons hx, toldF] at e1
        have hax := HAL.out.1 _ (List.getElem_mem hx)
        generalize m.rows[i] = y at e1 hc1 hc2 hc4 hca hcc hax
        obtain ⟨ya, yn, yd, yc, yr⟩ := y
        dsimp only at e1 hc1 hc2 hc4 hca hcc hax
        have hla := hca.len
        have hl7 := hcc.len
        have hlv : vs.length = nk := HM.out.2.2.2.2.2.2
        obtain rfl : nk = n' := by omega
        obtain ⟨q, hq⟩ : ∃ q, argsAre ya vs = q := ⟨_, rfl⟩
        rw [hq] at e1
        have HE := Lib.hid e1
        have HQ : Hid ((true && argsAre (ya.drop 0) (vs.drop 0)) = q) := by show _ = _; rw [Bool.true_and]; exact hq
        have HC := Lib.hid (And.intro hca (And.intro hcc (And.intro hcn (And.intro hcm (And.intro hla hl7)))))
        have HCE := Lib.hid (And.intro hc0 (And.intro hc1 (And.intro hc2 (And.intro hc3 hc4))))
        have HBE := Lib.hid (And.intro hbel hbx)
        have hbl : b < wr.heap.size := Nat.lt_of_lt_of_le hb (Nat.le_trans HBM.out.2 hI.below.size)
        have hiI : (i : Int) < (n5 : Int) := by omega
        clear HK hx hax hla hl7 hlv hq e1 hca hcc hcn hcm hbel hbx hI hkm hc0 hc1 hc2 hc3 hc4 hb
        go_wp2_with fail
        obtain ⟨wo, rfl⟩ : ∃ wo : World, wo = wr := ⟨_, rfl⟩
        go_loopw [14, 15] (fun s14 s15 wi => ∃ (j : Nat) (same : Bool), j ≤ nk ∧ s14 = .bool same ∧ s15 = .int .i64 j ∧ Below wo.heap.size wo wi ∧ Hid ((same && argsAre (ya.drop j) (vs.drop j)) = q)) (fun _ s15 _ => nk - (intOf s15).toNat)
        case atStart => exact ⟨0, true, Nat.zero_le _, rfl, rfl, Below.refl _ _, HQ⟩
        case round =>
          clear HQ k0
          obtain ⟨j, same, hj, rfl, rfl, hbi, HJ⟩ := hrel
          have k1 : wr.cell? ⟨X.heap.size, 0, none⟩ = some (.slice (some ⟨b, off, none⟩) n5 c5) := ((MK.out _ (HBE.out.1.trans (hbi.mono HBE.out.1.size))).2.2.cell 0)
          have h0 : wr.cell? ⟨b, off + i * 5, none⟩ = some (.slice A' nk c') := (hbi.cell (p := ⟨b, off + i * 5, none⟩) hbl).trans HCE.out.1
          have kz2 : X.heap.size < wr.heap.size := Nat.lt_of_lt_of_le kz hbi.size
          by_cases hjlt : j < nk
          · obtain ⟨b3, off3, hx3, rfl, hb3, hc3, -, -⟩ := ints_get (HC.out.1.below stays_int (hbi.mono (Nat.le_trans HBM.out.2 (Nat.le_trans HI.out.below.size (Nat.le_of_lt kz)))) (Nat.le_refl _)) hjlt
            have hbxi := HBE.out.2.trans (hbi.mono HBE.out.2.size)
            obtain ⟨b4, off4, hx4, A8, n8, c8, rfl, hb4, v0, -, -, -, -, -, -, -, -, -⟩ := values_get (HVX.out.keep stays_value (fun _ h => h) (fun b o h => hbxi.cell (p := ⟨b, o, none⟩) (Nat.lt_of_lt_of_le (HS0.out b h) HI.out.below.size))) hjlt
            have e2 := HJ.out
            rw [drop_cons hx3, drop_cons hx4, argsAre] at e2
            generalize ya[j] = z at e2 hc3
            generalize vs[j] = u at e2 v0
            obtain ⟨un, ud, uc, ur⟩ := u
            dsimp only at e2 v0
            have hjI : (j : Int) < (nk : Int) := by omega
            have HBI := Lib.hid hbi
            clear HJ hx3 hx4 hb3 hb4 hbi hbxi
            cases same with
            | true =>
              obtain ⟨t, ht⟩ : ∃ t, (z == un) = t := ⟨_, rfl⟩
              have H2 : Hid ((t && argsAre (ya.drop (j + 1)) (vs.drop (j + 1))) = q) := by show _ = _; rw [← e2, Bool.true_and, ← ht, Bool.beq_comm (a := z)]
              clear e2
              go_wp2_with fail
              go_quiet (fail)
              go_wp2_with fail
              go_roundw
              case rel => exact ⟨j + 1, t, by omega, rfl, by go_num, below_drewN HBI.out _, H2⟩
              case measure => simp [intOf]; omega
            | false =>
              have H2 : Hid ((false && argsAre (ya.drop (j + 1)) (vs.drop (j + 1))) = q) := by show _ = _; rw [← e2, Bool.false_and, Bool.false_and]
              clear e2
              go_wp2_with fail
              go_quiet (fail)
              go_wp2_with fail
              go_roundw
              case rel => exact ⟨j + 1, false, by omega, rfl, by go_num, below_drewN HBI.out _, H2⟩
              case measure => simp [intOf]; omega
          · obtain rfl : nk = j := by omega
            have e2 := HJ.out
            rw [List.drop_of_length_le (by have := HC.out.2.2.2.2.1; omega), List.drop_of_length_le (by have := HM.out.2.2.2.2.2.2; omega), show argsAre [] [] = true from rfl, Bool.and_true] at e2
            subst e2
            have e1 := HE.out
            have hbw := HBE.out.1.trans (hbi.mono HBE.out.1.size)
            have HIW := Lib.hid (MK.out _ hbw).2.1
            have h1 : wr.cell? ⟨b, off + i * 5 + 1, none⟩ = some (.int .i64 yn) := (hbi.cell (p := ⟨b, off + i * 5 + 1, none⟩) hbl).trans HCE.out.2.1
            have h2 : wr.cell? ⟨b, off + i * 5 + 1 + 1, none⟩ = some (.int .i64 yd) := (hbi.cell (p := ⟨b, off + i * 5 + 1 + 1, none⟩) hbl).trans HCE.out.2.2.1
            have h3 : wr.cell? ⟨b, off + i * 5 + 1 + 2, none⟩ = some (.slice A7 n7 c7) := (hbi.cell (p := ⟨b, off + i * 5 + 1 + 2, none⟩) hbl).trans HCE.out.2.2.2.1
            have h4 : wr.cell? ⟨b, off + i * 5 + 1 + 3, none⟩ = some (.int .i64 yr) := (hbi.cell (p := ⟨b, off + i * 5 + 1 + 3, none⟩) hbl).trans HCE.out.2.2.2.2
            cases same with
            | true =>
              rw [if_pos rfl] at e1
              subst e1
              have HAW : Hid (ArrB AtCell 2 wr Bm A7 n7 yc ∧ n7 ≤ c7 ∧ c7 ≤ maxLen ∧ yc.length = n7) := ⟨HC.out.2.1.below stays_cell (hbi.mono (Nat.le_trans HBM.out.2 (Nat.le_trans HI.out.below.size (Nat.le_of_lt kz)))) (Nat.le_refl _), HC.out.2.2.1, HC.out.2.2.2.1, HC.out.2.2.2.2.2⟩
              clear HJ hbi hbw
              obtain ⟨m0, m1, m2, m3, u0, u1, u2, u3, zm⟩ := HIW.out.val.four
              go_wp2_with fail
              have hF := HIW.out.fin (.int .i64 yn) (.int .i64 yd) (.slice A7 n7 c7) (.int .i64 yr)
              have hAZ : Arr AtCell 2 (put4 wr (w.heap.size + 3) (.int .i64 yn) (.int .i64 yd) (.slice A7 n7 c7) (.int .i64 yr)) (fun b => S0 b ∨ (w.heap.size ≤ b ∧ b < (put4 wr (w.heap.size + 3) (.int .i64 yn) (.int .i64 yd) (.slice A7 n7 c7) (.int .i64 yr)).heap.size)) A7 n7 yc := HAW.out.1.keep stays_cell (fun b hb => .inl (HBM.out.1 b hb)) (fun b o hb => only_cell (row := some (w.heap.size + 3)) (put4_only (only_refl wr _) _ _ _ _) (by have h1 := HS0.out b (HBM.out.1 b hb); have := HIW.out.below.size; omega) (fun e => by injection e with e; have h1 := HS0.out b (HBM.out.1 b hb); omega))
              exact ref_ret HIW.out.val rfl rfl rfl rfl (⟨hF.1, A7, c7, by rw [HAW.out.2.2.2], by rw [HAW.out.2.2.2]; exact HAW.out.2.1, HAW.out.2.2.1, by rw [HAW.out.2.2.2]; exact hAZ⟩)
            | false =>
              rw [if_neg (by simp)] at e1
              have H1 := Lib.hid e1
              have HBW := Lib.hid hbw
              clear e1 h0 h1 h2 h3 h4 hbi hbw
              go_wp2_with fail
              go_roundw
              case rel => exact ⟨i + 1, by omega, by go_num, HBW.out, H1⟩
              case measure => simp [intOf]; omega
      · obtain rfl : n5 = i := by omega
        have e1 := HK.out
        rw [List.drop_of_length_le (by have := HM.out.2.2.2.2.1; omega), toldF] at e1
        subst e1
        have k1 : wr.cell? ⟨X.heap.size, 1, none⟩ = some (.int .i64 mn) := hkm.cell 1
        have k2 : wr.cell? ⟨X.heap.size, 2, none⟩ = some (.int .i64 md) := hkm.cell 2
        have k3 : wr.cell? ⟨X.heap.size, 3, none⟩ = some (.slice A6 n6 c6) := hkm.cell 3
        have k4 : wr.cell? ⟨X.heap.size, 4, none⟩ = some (.int .i64 mr) := hkm.cell 4
        have HIW := Lib.hid hI
        have HAW : Hid (ArrB AtCell 2 wr Bm A6 n6 m.rest.cells ∧ n6 ≤ c6 ∧ c6 ≤ maxLen ∧ m.rest.cells.length = n6) := ⟨HM.out.2.1.below stays_cell (hbx.mono (Nat.le_trans HBM.out.2 HI.out.below.size)) (Nat.le_refl _), HM.out.2.2.1, HM.out.2.2.2.1, HM.out.2.2.2.2.2.1⟩
        clear HK hI hkm hbx hbel
        obtain ⟨m0, m1, m2, m3, u0, u1, u2, u3, zm⟩ := HIW.out.val.four
        go_wp2_with fail
        have hF := HIW.out.fin (.int .i64 mn) (.int .i64 md) (.slice A6 n6 c6) (.int .i64 mr)
        have hAZ : Arr AtCell 2 (put4 wr (w.heap.size + 3) (.int .i64 mn) (.int .i64 md) (.slice A6 n6 c6) (.int .i64 mr)) (fun b => S0 b ∨ (w.heap.size ≤ b ∧ b < (put4 wr (w.heap.size + 3) (.int .i64 mn) (.int .i64 md) (.slice A6 n6 c6) (.int .i64 mr)).heap.size)) A6 n6 m.rest.cells := HAW.out.1.keep stays_cell (fun b hb => .inl (HBM.out.1 b hb)) (fun b o hb => only_cell (row := some (w.heap.size + 3)) (put4_only (only_refl wr _) _ _ _ _) (by have h1 := HS0.out b (HBM.out.1 b hb); have := HIW.out.below.size; omega) (fun e => by injection e with e; have h1 := HS0.out b (HBM.out.1 b hb); omega))
        exact ref_ret HIW.out.val rfl rfl rfl rfl (⟨hF.1, A6, c6, by rw [HAW.out.2.2.2, HRN.out.1, HRN.out.2.1, HRN.out.2.2], by rw [HAW.out.2.2.2]; exact HAW.out.2.1, HAW.out.2.2.1, by rw [HAW.out.2.2.2]; exact hAZ⟩)
end Go.Proofs.YtggkfepifnfdoaaGreat
