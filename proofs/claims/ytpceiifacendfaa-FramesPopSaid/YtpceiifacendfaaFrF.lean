/- Walk: the commands, one behind the other. -/
import Derived.Test.YtpceiifacendfaaFrE
import Derived.Test.YtpceiifacendfaaFrI
namespace Go.Proofs.Ytpceiifacendfaa
open Go.RowKit

/-- all commands are good: the stack that is left -/
def PlayYes (s1 s2 s3 s4 : Value) (r : List Cl) (last : Cl) (w : World) (e : Ending) (w' : World) : Prop :=
  ∃ g vc vf, e = .returned (.tuple #[.pointer (some ⟨g, 0, none⟩), .agg #[.int .i64 0, .int .i64 0]]) ∧ Stk w' g s1 s2 s3 s4 r last vc vf ∧ w.heap.size ≤ g ∧ Below w.heap.size w w'
def PlayNo (qc qa : Int) (w : World) (e : Ending) (w' : World) : Prop := e = .returned (.tuple #[.pointer none, .agg #[.int .i64 qc, .int .i64 qa]]) ∧ Below w.heap.size w w'
def PlayP (s1 s2 s3 s4 : Value) (res : (Int × Int) × List Cl × Cl) (w : World) (e : Ending) (w' : World) : Prop :=
  (res.1 = (0, 0) ∧ PlayYes s1 s2 s3 s4 res.2.1 res.2.2 w e w') ∨ (¬ res.1.1 = 0 ∧ PlayNo res.1.1 res.1.2 w e w')

def two (w : World) (g : Nat) (a b : Value) : World := (w.setCell ⟨g, 0, none⟩ a).setCell ⟨g, 1, none⟩ b
theorem two_blk {w : World} {g : Nat} {t : TypeId} {a0 b0 : Value} (h : Blk w g t #[a0, b0]) (a b : Value) : Blk (two w g a b) g t #[a, b] := by
  have h1 : Blk (w.setCell ⟨g, 0, none⟩ a) g t #[a, b0] := h.set_ 0 a
  exact h1.set_ 1 b
theorem two_only (w : World) (g : Nat) (a b : Value) : w.grownBy (two w g a b) (some g) := one_only (one_only (only_refl _ _) 0 a) 1 b
theorem two_below {w0 w : World} {B g : Nat} (h : Below B w0 w) (hg : B ≤ g) (a b : Value) : Below B w0 (two w g a b) := (h.setCell (p := ⟨g, 0, none⟩) hg a).setCell (p := ⟨g, 1, none⟩) hg b

theorem deed_get {w : World} {B : Nat} {A : Option Addr} {n : Nat} {xs : List TermD} (h : ArrB AtTerm 2 w B A n xs) {i : Nat} (hi : i < n) :
    ∃ (b off : Nat) (hx : i < xs.length) (A' : Option Addr) (n' c' : Nat), A = some ⟨b, off, none⟩ ∧ b < B ∧ w.cell? ⟨b, off + i * 2, none⟩ = some (.int .i64 xs[i].head) ∧ w.cell? ⟨b, off + i * 2 + 1, none⟩ = some (.slice A' n' c') ∧
      IntsB w B A' n' xs[i].kids := by
  obtain ⟨b, off, hx, A', n', c', e, hb, h0, hc, h3, h4, h5, h1, h2⟩ := terms_get h hi
  exact ⟨b, off, hx, A', n', c', e, hb, h0, hc, h5⟩

theorem Stk.keepFar {w w' : World} {g x : Nat} {s1 s2 s3 s4 vc vf : Value} {r : List Cl} {last : Cl} (h : Stk w g s1 s2 s3 s4 r last vc vf) (hb : w.grownBy w' (some x)) (hx : x < g) : Stk w' g s1 s2 s3 s4 r last vc vf := by
  have hcl := h.cl.lt
  have hfl := h.fr.lt
  refine ⟨h.blk.grown hb (fun e => by injection e; omega), h.cl.kept tells_row' hb ?_ (fun b hb' => ⟨⟨Nat.lt_of_lt_of_le hb'.1 hb.size, hb'.2⟩, hb'.1, fun e => by injection e with e; have := hb'.2.1; omega⟩), h.fr.kept tells_int hb ?_ (fun b hS => False.elim hS), h.ne⟩
  · cases hv : vc.ownBlock with
    | none => exact .inl rfl
    | some y => exact .inr (fun e => by injection e with e; have := (hcl y hv).1; omega)
  · cases hv : vf.ownBlock with
    | none => exact .inl rfl
    | some y => exact .inr (fun e => by injection e with e; have := (hfl y hv).1; omega)

theorem Stk.start {w : World} {g : Nat} {s1 s2 s3 s4 : Value} (h : Blk w g 95 #[s1, s2, s3, s4, .slice none 0 0, .slice none 0 0]) : Stk w g s1 s2 s3 s4 [] [] (.slice none 0 0) (.slice none 0 0) :=
  ⟨h, .inl (OwnV.none_ _ _ _ _ _ _), OwnV.none_ _ _ _ _ _ _, fun x hx => by cases hx⟩

set_option maxRecDepth 100000 in
set_option maxHeartbeats 4000000 in
theorem play_any (A1 A2 A3 A4 : Option Addr) (n1 c1 n2 c2 n3 c3 n4 c4 : Nat) (F : FormD) (L : Option Addr) (n c : Nat) (l : List TermD) (w : World) (hF : FormB w w.heap.size A1 A2 A3 A4 n1 n2 n3 n4 F) (hL : ArrB AtTerm 2 w w.heap.size L n l) (hn : n ≤ 9223372036854775807) (h4 : n4 ≤ c4) (h4m : c4 ≤ maxLen) (hlen : ∀ d ∈ l, d.kids.length * 8 ≤ 140737488355328) :
    Calls Try.prog 35 #[.agg #[.slice A1 n1 c1, .slice A2 n2 c2, .slice A3 n3 c3, .slice A4 n4 c4], .slice L n c, .func (.func 36) #[] #[]] w (PlayP (.slice A1 n1 c1) (.slice A2 n2 c2) (.slice A3 n3 c3) (.slice A4 n4 c4) (playRes F l) w) := by
  have eg : ∀ args w, (callFunc 36 args).run Try.prog w = .ok (.enter 36 args) w := enters_of Try.func36 (by kernel_rfl) rfl
  rcases hq : formF F with ⟨tc, ta⟩
  have hll := hL.len
  obtain ⟨hb0, hbk0, hbm0, hs0⟩ := two_boxes w 27 29 #[.slice A1 n1 c1, .slice A2 n2 c2, .slice A3 n3 c3, .slice A4 n4 c4] #[.int .i64 0, .int .i64 0]
  have HC := Lib.hid (formCheck_any A1 A2 A3 A4 n1 c1 n2 c2 n3 c3 n4 c4 F tc ta _ (hF.below hb0 hb0.size) hq)
  have HN := Lib.hid (And.intro hF (And.intro hL (And.intro hq (And.intro hlen (And.intro hll (And.intro hb0 (And.intro hbk0 (And.intro hbm0 hs0))))))))
  clear hF hL hq hlen hll hb0 hbk0 hbm0 hs0
  by_cases htc : tc = 0
  · subst htc
    by_cases hm : 40 < n
    · have hmm : (n : Int) > 40 := by omega
      go_enter Try.func35, Try.ntmps35
      go_wp2_with fail
      refine HC.out.mono ?_
      rintro e w1 ⟨rfl, hb1⟩
      obtain ⟨hF, hL, hq, hlen, hll, hb0, hbk0, hbm0, hs0⟩ := HN.out
      have hbm := hbm0.below hb1 (by omega)
      have hbk := hbk0.below hb1 (by omega)
      have hzz : w.heap.size + 1 < w1.heap.size := by have := hb1.size; omega
      have hzz0 : w.heap.size < w1.heap.size := by omega
      have f0 := hbm.cell 0
      have f1 := hbm.cell 1
      have f2 := hbm.frozen 0
      have f3 := hbm.frozen 1
      have k0 := hbk.cell 0
      have k1 := hbk.cell 1
      have k2 := hbk.cell 2
      have k3 := hbk.cell 3
      simp only [List.getElem?_toArray, List.getElem?_cons_zero, List.getElem?_cons_succ] at f0 f1 k0 k1 k2 k3
      have HB := Lib.hid (hb0.trans (hb1.mono (by omega)))
      have HBM := Lib.hid hbm

      have HP : Hid (playRes F l = ((2, -1), [], [])) := by show _ = _; rw [playRes, hq, if_neg (by simp), if_pos (by omega)]
      clear hF hL hq hlen hll hb0 hbk0 hbm0 hs0 hbm hbk hb1 HN HC
      go_wp2_with fail
      have hz1 := Blk.alloc (two_blk HBM.out (.int .i64 2) (.int .i64 (-1))) (.cells #[.int .i64 0, .int .i64 ta] 29)
      have hz2 := Below.alloc (two_below (g := w.heap.size + 1) HB.out (by omega) (.int .i64 2) (.int .i64 (-1))) (by have := (two_only w1 (w.heap.size + 1) (.int .i64 2) (.int .i64 (-1))).size; omega) (.cells #[.int .i64 0, .int .i64 ta] 29)
      have e4 : ((w1.setCell ⟨w.heap.size + 1, 0, none⟩ (.int .i64 2)).setCell ⟨w.heap.size + 1, 1, none⟩ (.int .i64 (-1))).alloc (.cells #[.int .i64 0, .int .i64 ta] 29) = (two w1 (w.heap.size + 1) (.int .i64 2) (.int .i64 (-1))).alloc (.cells #[.int .i64 0, .int .i64 ta] 29) := rfl
      rw [e4]
      generalize (two w1 (w.heap.size + 1) (.int .i64 2) (.int .i64 (-1))).alloc (.cells #[.int .i64 0, .int .i64 ta] 29) = Z at hz1 hz2 ⊢
      have g0 := hz1.cell 0
      have g1 := hz1.cell 1
      simp only [List.getElem?_toArray, List.getElem?_cons_zero, List.getElem?_cons_succ] at g0 g1
      refine bodyPost_ret (v := .tuple #[.pointer none, .agg #[.int .i64 2, .int .i64 (-1)]]) (by simp [results, Try.results35, go_sem, g0, g1]) rfl ?_
      exact .inr ⟨by rw [HP.out]; simp, by rw [HP.out]; exact ⟨rfl, hz2⟩⟩
    · have hmm : ¬ ((n : Int) > 40) := by omega
      go_enter Try.func35, Try.ntmps35
      go_wp2_with fail
      refine HC.out.mono ?_
      rintro e w1 ⟨rfl, hb1⟩
      obtain ⟨hF, hL, hq, hlen, hll, hb0, hbk0, hbm0, hs0⟩ := HN.out
      have hbm := hbm0.below hb1 (by omega)
      have hbk := hbk0.below hb1 (by omega)
      have hzz : w.heap.size + 1 < w1.heap.size := by have := hb1.size; omega
      have hzz0 : w.heap.size < w1.heap.size := by omega
      have f0 := hbm.cell 0
      have f1 := hbm.cell 1
      have f2 := hbm.frozen 0
      have f3 := hbm.frozen 1
      have k0 := hbk.cell 0
      have k1 := hbk.cell 1
      have k2 := hbk.cell 2
      have k3 := hbk.cell 3
      simp only [List.getElem?_toArray, List.getElem?_cons_zero, List.getElem?_cons_succ] at f0 f1 k0 k1 k2 k3
      have HB := Lib.hid (hb0.trans (hb1.mono (by omega)))
      have HBM := Lib.hid hbm

      have HP : Hid (playRes F l = playF F l 0 [] []) := by show _ = _; rw [playRes, hq, if_neg (by simp), if_neg (by omega)]
      have HV : Hid (Inv F [] []) := by
        have := formF_cl (F := F) (by rw [hq]) F.clauses
        rw [show formF ⟨F.terms, F.ints, F.atoms, F.clauses⟩ = formF F from rfl, hq] at this
        have h1 := cnfF_many (v := F.atoms.length) (l := F.clauses) (by rw [← this])
        exact ⟨by simp, by simpa [clOf] using h1⟩
      have hst0 := Stk.start (Blk.new (w1.alloc (.cells #[.int .i64 0, .int .i64 ta] 29)) 95 #[.slice A1 n1 c1, .slice A2 n2 c2, .slice A3 n3 c3, .slice A4 n4 c4, .slice none 0 0, .slice none 0 0])
      rw [World.size_alloc] at hst0
      have hbx0 : Below w1.heap.size w1 ((w1.alloc (.cells #[.int .i64 0, .int .i64 ta] 29)).alloc (.cells #[.slice A1 n1 c1, .slice A2 n2 c2, .slice A3 n3 c3, .slice A4 n4 c4, .slice none 0 0, .slice none 0 0] 95)) := ((Below.refl _ _).alloc (Nat.le_refl _) _).alloc (by simp) _
      have hbx := (hb0.trans (hb1.mono (by omega))).trans (hbx0.mono (by omega))
      have hbm2 := hbm.below hbx0 hzz
      have HS := Lib.hid (And.intro hst0 (And.intro hbx hbm2))
      have hFX := (hF.below (hb0.trans (hb1.mono (by omega))) (show w.heap.size ≤ w1.heap.size by omega)).below hbx0 (show w1.heap.size ≤ w1.heap.size + 1 by omega)
      have hLX := (hL.below stays_term (hb0.trans (hb1.mono (by omega))) (show w.heap.size ≤ w1.heap.size by omega)).below stays_term hbx0 (show w1.heap.size ≤ w1.heap.size + 1 by omega)
      have hGw : w.heap.size + 1 < w1.heap.size + 1 := by omega
      have hok : (formF F).1 = 0 := by rw [hq]
      have HE := Lib.hid (And.intro hFX (And.intro hLX (And.intro hlen (And.intro hok hll))))
      clear hF hL hb0 hbk0 hbm0 hs0 hb1 HN HC hst0 hbm2 hbx hbm hbk hFX hLX hlen hok hll hq hbx0
      go_wp2_with fail
      obtain ⟨hst0, hbx, hbm2⟩ := HS.out
      clear HS f0 f1 f2 f3 k0 k1 k2 k3 HB HBM
      generalize (w1.alloc (.cells #[.int .i64 0, .int .i64 ta] 29)).alloc (.cells #[.slice A1 n1 c1, .slice A2 n2 c2, .slice A3 n3 c3, .slice A4 n4 c4, .slice none 0 0, .slice none 0 0] 95) = X at hst0 hbx hbm2 HE ⊢
      generalize w1.heap.size + 1 = G at hst0 hGw HE ⊢
      clear hzz hzz0
      have hGX := hst0.blk.lt
      go_loopw [28] (fun s wr => ∃ (k : Nat) (r : List Cl) (last : Cl) (vc vf : Value), k ≤ n ∧ s = .int .i64 k ∧ Stk wr G (.slice A1 n1 c1) (.slice A2 n2 c2) (.slice A3 n3 c3) (.slice A4 n4 c4) r last vc vf ∧ Blk wr (w.heap.size + 1) 29 #[.int .i64 0, .int .i64 0] ∧ Below w.heap.size w wr ∧ Below G X wr ∧ Hid (playF F (l.drop k) k r last = playRes F l) ∧ Hid (Inv F r last)) (fun s _ => n - (intOf s).toNat)
      case atStart => exact ⟨0, [], [], _, _, Nat.zero_le _, rfl, hst0, hbm2, hbx, Below.refl _ _, HP.out.symm, HV⟩
      case round =>
        obtain ⟨k, r, last, vc, vf, hk, rfl, hst, hbf, hbel, hbG, HPF, HI⟩ := hrel
        obtain ⟨hFX, hLX, hlen, hok, hll⟩ := HE.out
        have hG1 := hst.blk.lt
        clear hst0 hbm2 hbx
        by_cases hlt : k < n
        · obtain ⟨b, off, hx, A', n', c', rfl, hb, h0, h1, hkids⟩ := deed_get (hLX.below stays_term hbG (Nat.le_refl _)) hlt
          have hlk := hlen l[k] (List.getElem_mem hx)
          have e1 := HPF.out
          rw [drop_cons hx, playF] at e1
          generalize l[k] = d at hlk e1 h0 h1 hkids
          obtain ⟨kd, ks⟩ := d
          simp only at hlk h0 h1 hkids
          rw [hkids.len] at hlk
          have hs1 := hst.keep (grown_of_alloc wr (.cells #[.int .i64 kd, .slice A' n' c'] 47))
          have hbb : Below G wr (wr.alloc (.cells #[.int .i64 kd, .slice A' n' c'] 47)) := (Below.refl _ _).alloc (by omega) _
          have HC := Lib.hid (step_any G A1 A2 A3 A4 n1 c1 n2 c2 n3 c3 n4 c4 F r last vc vf A' n' c' kd ks (wr.alloc (.cells #[.int .i64 kd, .slice A' n' c'] 47)) hs1 (hkids.below stays_int hbb (Nat.le_refl _)) (hFX.below (hbG.trans hbb) (Nat.le_refl _)) hok (by have := hkids.len; omega) h4 h4m HI.out)
          have hinv := fun h => stepF_inv (d := ⟨kd, ks⟩) HI.out h
          rcases hsf : stepF F ⟨kd, ks⟩ r last with ⟨qc, r', last'⟩
          rw [hsf] at e1 HC hinv
          simp only at e1 HC hinv
          have hcl := hst.cl.lt
          have hfl := hst.fr.lt
          have hbx := Blk.new wr 47 #[.int .i64 kd, .slice A' n' c']
          have HW := Lib.hid (And.intro hbf (And.intro hbel (And.intro hbG (And.intro hbb (And.intro hbx (And.intro hcl hfl))))))
          have hr0 : wr.heap.size < (wr.alloc (.cells #[.int .i64 kd, .slice A' n' c'] 47)).heap.size := by simp
          by_cases hqc : qc = 0
          · subst hqc
            rw [if_pos rfl] at e1
            have HPF2 : Hid (playF F (l.drop (k + 1)) ((k : Int) + 1) r' last' = playRes F l) := e1
            have HI2 : Hid (Inv F r' last') := hinv rfl
            clear e1 hinv hsf HPF HI hlk hkids hst hs1 hbb hbf hbel hbG hcl hfl hbx hFX hLX hlen hok hll hx hb
            go_wp2_with fail
            refine HC.out.mono ?_
            rintro e w2 ⟨rfl, hb2, hfar, hst2⟩
            obtain ⟨vc', vf', hst2⟩ := hst2 rfl
            obtain ⟨hbf, hbel, hbG, hbb, hbx, hcl, hfl⟩ := HW.out
            have hbf2 := (hbf.below hbb hGw).below hb2 hGw
            have hbel2 := hbel.trans ((hbb.trans hb2).mono (by omega))
            have hbG2 := hbG.trans (hbb.trans hb2)
            have hbx2 : Blk w2 wr.heap.size 47 #[.int .i64 kd, .slice A' n' c'] := (hfar.2 wr.heap.size hr0 (by omega) (fun e => by have := (hcl _ e).2; omega) (fun e => by have := (hfl _ e).2; omega)).trans hbx
            have m0 := hbx2.cell 0
            simp only [List.getElem?_toArray, List.getElem?_cons_zero] at m0
            have hr2 := hbx2.lt
            have hG2 := hst2.blk.lt
            by_cases hk4 : kd = 4
            · subst hk4
              obtain ⟨hi1, hi2⟩ := HI2.out
              have hcl2 := hst2.cl.lt
              obtain ⟨A5, c5, hvc, h5, h5m, harr⟩ := hst2.cl.reads (E := AtArr AtInt 1) tells_row' (fun _ _ _ _ _ h => atV_arr.1 h) (S' := fun b => b < w2.heap.size) (fun b hb => hb.1) (fun b hb => (hcl2 b hb).2) (by unfold maxLen; omega)
              subst hvc
              have HSF := Lib.hid (stackForm_any G A1 A2 A3 A4 A5 n1 c1 n2 c2 n3 c3 n4 c4 _ c5 vf' F (clOf r' last') (fun b => b < w2.heap.size) w2 (fun b h => h) (HE.out.1.below hbG2 (by omega)) hst2.blk (HE.out.1.below hbG2 (Nat.le_of_lt hG2)).clauses harr h4 h4m h5 h5m (by omega) (by omega))
              have HW2 := Lib.hid (And.intro hbf2 (And.intro hbel2 (And.intro hbG2 hst2)))
              clear hbf hbel hbG hbb hbx hcl hfl hb2 hfar HW HC h0 h1 hbf2 hbel2 hbG2 hbx2 hst2 hcl2 harr hi1 hi2 h5 h5m
              go_wp2_with fail
              refine HSF.out.mono ?_
              rintro e w5 ⟨A, n0, c0, rfl, hF5, hnc, hb5, -⟩
              have HB5 := Lib.hid hb5
              clear hF5 hnc hb5 HSF
              go_wp2_with (go_at_fn 36; refine (left1_any _ _ _ _ _ _).mono ?_; rintro e w6 ⟨rfl, hb6⟩)
              go_roundw
              case rel =>
                obtain ⟨hbf2, hbel2, hbG2, hst2⟩ := HW2.out
                have hb56 := HB5.out.trans (hb6.mono HB5.out.size)
                exact ⟨k + 1, r', last', _, vf', by omega, by go_num, hst2.keep (only_of_below hb56 none), hbf2.below hb56 (by omega), hbel2.trans (hb56.mono (by omega)), hbG2.trans (hb56.mono (by omega)), by show _ = _; rw [Int.natCast_add]; exact HPF2.out, HI2⟩
              case measure => simp [intOf]; omega
            · have hq4 : (kd == 4) = false := by simpa using hk4
              have HW2 := Lib.hid (And.intro hbf2 (And.intro hbel2 (And.intro hbG2 hst2)))
              clear hbf hbel hbG hbb hbx hcl hfl hb2 hfar HW HC h0 h1 hbf2 hbel2 hbG2 hbx2 hst2 hk4
              go_wp2_with fail
              go_roundw
              case rel =>
                obtain ⟨hbf2, hbel2, hbG2, hst2⟩ := HW2.out
                exact ⟨k + 1, r', last', vc', vf', by omega, by go_num, hst2, hbf2, hbel2, hbG2, by show _ = _; rw [Int.natCast_add]; exact HPF2.out, HI2⟩
              case measure => simp [intOf]; omega
          · rw [if_neg hqc] at e1
            have HPF2 : Hid (((qc, (k : Int)), r', last') = playRes F l) := e1
            have HQ := Lib.hid hqc
            have hq1 : (qc != 0) = true := by simpa using hqc
            clear e1 hinv hsf HPF HI hlk hkids hst hs1 hbb hbf hbel hbG hcl hfl hbx hFX hLX hlen hok hll hx hb hqc
            go_wp2_with fail
            refine HC.out.mono ?_
            rintro e w2 ⟨rfl, hb2, hfar, _⟩
            obtain ⟨hbf, hbel, hbG, hbb, hbx, hcl, hfl⟩ := HW.out
            have hbf2 := (hbf.below hbb hGw).below hb2 hGw
            have hbel2 := hbel.trans ((hbb.trans hb2).mono (by omega))
            have f0 := hbf2.cell 0
            have f1 := hbf2.cell 1
            simp only [List.getElem?_toArray, List.getElem?_cons_zero, List.getElem?_cons_succ] at f0 f1
            have f2 := hbf2.frozen 0
            have f3 := hbf2.frozen 1
            clear hbf hbel hbG hbb hbx hcl hfl hb2 hfar HW HC h0 h1
            go_wp2_with fail
            have hz1 := two_blk hbf2 (.int .i64 qc) (.int .i64 k)
            have hz2 : Below w.heap.size w (two w2 (w.heap.size + 1) (.int .i64 qc) (.int .i64 k)) := two_below (g := w.heap.size + 1) hbel2 (by omega) (.int .i64 qc) (.int .i64 k)
            have e4 : (w2.setCell ⟨w.heap.size + 1, 0, none⟩ (.int .i64 qc)).setCell ⟨w.heap.size + 1, 1, none⟩ (.int .i64 k) = two w2 (w.heap.size + 1) (.int .i64 qc) (.int .i64 k) := rfl
            rw [e4]
            clear e4
            generalize two w2 (w.heap.size + 1) (.int .i64 qc) (.int .i64 k) = Z at hz1 hz2 ⊢
            have g0 := hz1.cell 0
            have g1 := hz1.cell 1
            simp only [List.getElem?_toArray, List.getElem?_cons_zero, List.getElem?_cons_succ] at g0 g1
            refine bodyPost_ret (v := .tuple #[.pointer none, .agg #[.int .i64 qc, .int .i64 k]]) (by simp [results, Try.results35, go_sem, g0, g1]) rfl ?_
            exact .inr ⟨by rw [← HPF2.out]; exact HQ.out, by rw [← HPF2.out]; exact ⟨rfl, hz2⟩⟩
        · obtain rfl : k = n := by omega
          have e1 := HPF.out
          rw [List.drop_of_length_le (by omega), playF] at e1
          have HP2 := Lib.hid e1
          have f0 := hbf.cell 0
          have f1 := hbf.cell 1
          simp only [List.getElem?_toArray, List.getElem?_cons_zero, List.getElem?_cons_succ] at f0 f1
          have f2 := hbf.frozen 0
          have f3 := hbf.frozen 1
          have HW := Lib.hid (And.intro hbf (And.intro hbel hst))
          clear e1 HPF hbf hbel hst hFX hLX hlen hok hll hbG HI
          go_wp2_with fail
          obtain ⟨hbf, hbel, hst⟩ := HW.out
          have hz1 := two_blk hbf (.int .i64 0) (.int .i64 0)
          have hz2 : Below w.heap.size w (two wr (w.heap.size + 1) (.int .i64 0) (.int .i64 0)) := two_below (g := w.heap.size + 1) hbel (by omega) (.int .i64 0) (.int .i64 0)
          have hst2 := hst.keepFar (two_only wr (w.heap.size + 1) (.int .i64 0) (.int .i64 0)) (by omega)
          have e4 : (wr.setCell ⟨w.heap.size + 1, 0, none⟩ (.int .i64 0)).setCell ⟨w.heap.size + 1, 1, none⟩ (.int .i64 0) = two wr (w.heap.size + 1) (.int .i64 0) (.int .i64 0) := rfl
          rw [e4]
          clear e4
          generalize two wr (w.heap.size + 1) (.int .i64 0) (.int .i64 0) = Z at hz1 hz2 hst2 ⊢
          have g0 := hz1.cell 0
          have g1 := hz1.cell 1
          simp only [List.getElem?_toArray, List.getElem?_cons_zero, List.getElem?_cons_succ] at g0 g1
          refine bodyPost_ret (v := .tuple #[.pointer (some ⟨G, 0, none⟩), .agg #[.int .i64 0, .int .i64 0]]) (by simp [results, Try.results35, go_sem, g0, g1]) rfl ?_
          exact .inl ⟨by rw [← HP2.out], by rw [← HP2.out]; exact ⟨G, vc, vf, rfl, hst2, by omega, hz2⟩⟩
  · have htb : (tc != 0) = true := by simpa using htc
    have HT := Lib.hid htc
    clear htc
    go_enter Try.func35, Try.ntmps35
    go_wp2_with fail
    refine HC.out.mono ?_
    rintro e w1 ⟨rfl, hb1⟩
    obtain ⟨hF, hL, hq, hlen, hll, hb0, hbk0, hbm0, hs0⟩ := HN.out
    have hbm := hbm0.below hb1 (by omega)
    have hzz : w.heap.size + 1 < w1.heap.size := by have := hb1.size; omega
    have f0 := hbm.cell 0
    have f1 := hbm.cell 1
    simp only [List.getElem?_toArray, List.getElem?_cons_zero, List.getElem?_cons_succ] at f0 f1
    have f2 := hbm.frozen 0
    have f3 := hbm.frozen 1
    have HB := Lib.hid (hb0.trans (hb1.mono (by omega)))
    have HP : Hid (playRes F l = ((tc, ta), [], [])) := by show _ = _; rw [playRes, hq, if_pos HT.out]
    have HBM := Lib.hid hbm
    clear hF hL hq hlen hll hb0 hbk0 hbm0 hs0 hbm hb1 HN HC
    go_wp2_with fail
    go_region
    all_goals
      go_wp2_with fail
      have hz1 := Blk.drew (Blk.alloc (two_blk HBM.out (.int .i64 tc) (.int .i64 ta)) (.cells #[.int .i64 tc, .int .i64 ta] 29))
      have hz2 : Below w.heap.size w (((two w1 (w.heap.size + 1) (.int .i64 tc) (.int .i64 ta)).alloc (.cells #[.int .i64 tc, .int .i64 ta] 29)).drew) := below_drewN (Below.alloc (two_below (g := w.heap.size + 1) HB.out (by omega) (.int .i64 tc) (.int .i64 ta)) (by have := (two_only w1 (w.heap.size + 1) (.int .i64 tc) (.int .i64 ta)).size; omega) (.cells #[.int .i64 tc, .int .i64 ta] 29)) 1
      have e4 : (((w1.setCell ⟨w.heap.size + 1, 0, none⟩ (.int .i64 tc)).setCell ⟨w.heap.size + 1, 1, none⟩ (.int .i64 ta)).alloc (.cells #[.int .i64 tc, .int .i64 ta] 29)).drew = ((two w1 (w.heap.size + 1) (.int .i64 tc) (.int .i64 ta)).alloc (.cells #[.int .i64 tc, .int .i64 ta] 29)).drew := rfl
      rw [e4]
      generalize ((two w1 (w.heap.size + 1) (.int .i64 tc) (.int .i64 ta)).alloc (.cells #[.int .i64 tc, .int .i64 ta] 29)).drew = Z at hz1 hz2 ⊢
      have g0 := hz1.cell 0
      have g1 := hz1.cell 1
      simp only [List.getElem?_toArray, List.getElem?_cons_zero, List.getElem?_cons_succ] at g0 g1
      refine bodyPost_ret (v := .tuple #[.pointer none, .agg #[.int .i64 tc, .int .i64 ta]]) (by simp [results, Try.results35, go_sem, g0, g1]) rfl ?_
      exact .inr ⟨by rw [HP.out]; exact HT.out, by rw [HP.out]; exact ⟨rfl, hz2⟩⟩
end Go.Proofs.Ytpceiifacendfaa
