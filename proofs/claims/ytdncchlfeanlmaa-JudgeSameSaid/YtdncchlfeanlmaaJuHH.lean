/- Walk: the judge's sum of rows: a row is taken. · Walk: the judge's sum of rows: a row is taken, further cases. · Walk: the judge's sum of rows: a row is taken, further cases. -/
import Derived.Test.YtdncchlfeanlmaaJuGG
import Derived.Test.YtdncchlfeanlmaaOwnS
import Derived.Deep.RegionWith
namespace Go.Proofs.Ytdncchlfeanlmaa
open Go.RowKit

def VFrac : Val FracD := fun _ _ cs x => cs = [.int .i64 x.num, .int .i64 x.den] ∧ I64 x.num ∧ I64 x.den
theorem tells_frac : Tells VFrac 2 := ⟨fun _ _ _ _ _ _ _ _ h => h, fun _ _ _ _ h => by rw [h.1]; rfl, fun _ _ _ _ h u hu => by rw [h.1] at hu; simp only [List.mem_cons, List.not_mem_nil, or_false] at hu; rcases hu with rfl | rfl <;> rfl⟩
theorem atV_frac {w : World} {S : Nat → Prop} {b o : Nat} {x : FracD} (h : AtV VFrac w S b o x) : AtFrac w S b o x := by
  obtain ⟨cs, ⟨rfl, h1, h2⟩, hc⟩ := h
  exact ⟨⟨hc 0 _ rfl, h1⟩, hc 1 _ rfl, h2⟩
abbrev OwnF (w : World) (B : Nat) (v : Value) (l : List FracD) : Prop := OwnV VFrac 88 2 w B (fun _ => False) v l
theorem frac_later {w w' : World} {B : Nat} {v : Value} {c : List FracD} (h : OwnF w B v c) {row : Option Nat} (hb : w.grownBy w' row) (hne : v.ownBlock = none ∨ v.ownBlock ≠ row) : OwnF w' B v c := h.kept tells_frac hb hne (fun _ hb => False.elim hb)
theorem good_i64 {q : FracD} (h : fracGood q.num q.den = true) : I64 q.num ∧ I64 q.den := by have := qgood h; unfold I64; omega
theorem Cels.set2 {α : Type} {V : Val α} {w : World} {S : Nat → Prop} (hV : Tells V 2) {x : α} {u v : Value} (hx : V w S [u, v] x) : ∀ (xs : List α) (cs : List Value) (i : Nat), Cels V w S xs cs → Cels V w S (xs.set i x) ((cs.set (i * 2) u).set (i * 2 + 1) v)
  | [], _, _, h => by obtain rfl : _ = [] := h; simp [Cels]
  | y :: r, _, 0, h => by
    obtain ⟨c0, c1, rfl, h0, h1⟩ := h
    have hl := hV.len _ _ _ _ h0
    match c0, hl with
    | [z, z'], _ => exact ⟨[u, v], c1, rfl, hx, h1⟩
  | y :: r, _, i + 1, h => by
    obtain ⟨c0, c1, rfl, h0, h1⟩ := h
    have hl := hV.len _ _ _ _ h0
    match c0, hl with
    | [z, z'], _ =>
      refine ⟨[z, z'], (c1.set (i * 2) u).set (i * 2 + 1) v, ?_, h0, Cels.set2 hV hx r c1 i h1⟩
      rw [show (i + 1) * 2 = i * 2 + 1 + 1 from by omega]
      rfl
theorem OwnF.put {w : World} {B g n : Nat} {xs : List FracD} (h : OwnF w B (.slice (some ⟨g, 0, none⟩) n n) xs) (hn : n = xs.length) {i : Nat} {q : FracD} (hq : fracGood q.num q.den = true) : OwnF (putQ w g (i * 2) q) B (.slice (some ⟨g, 0, none⟩) n n) (xs.set i q) := by
  obtain ⟨cells, hown, hels⟩ := h
  subst hn
  obtain ⟨h1, h2⟩ := hown.stored (i * 2) (.int .i64 q.num)
  obtain ⟨h3, h4⟩ := h1.stored (i * 2 + 1) (.int .i64 q.den)
  refine ⟨_, by rw [List.length_set]; exact h3, ?_⟩
  have : Cels VFrac w (fun _ => False) (xs.set i q) ((cells.set (i * 2) (.int .i64 q.num)).set (i * 2 + 1) (.int .i64 q.den)) := Cels.set2 tells_frac ⟨rfl, good_i64 hq⟩ xs cells i hels
  exact Cels.keep tells_frac (fun _ h => h) (fun _ _ h => False.elim h) _ _ this
theorem OwnF.cells {w : World} {B g n : Nat} {xs : List FracD} (h : OwnF w B (.slice (some ⟨g, 0, none⟩) n n) xs) {i : Nat} {q : FracD} (hq : xs[i]? = some q) : w.cell? ⟨g, i * 2, none⟩ = some (.int .i64 q.num) ∧ w.cell? ⟨g, i * 2 + 1, none⟩ = some (.int .i64 q.den) := by
  obtain ⟨A, c, he, -, -, har⟩ := OwnV.reads (E := AtFrac) tells_frac (fun _ _ _ _ _ h => atV_frac h) h (S' := fun _ => True) (fun _ h => False.elim h) (fun _ _ => trivial)
  obtain ⟨b, off, hA, -, ⟨h0, -⟩, h1, -⟩ := har.at_ i q hq
  injection he with e1 e2 e3
  rw [hA] at e1
  injection e1 with e1
  injection e1 with e1 e4
  subst e1
  subst e4
  rw [Nat.zero_add] at h0 h1
  exact ⟨h0, h1⟩

/-- the judge's sum in memory -/
structure SumM (w : World) (B Gs gof n : Nat) (t : SumD) : Prop where
  blk : Blk w Gs 90 #[.slice (some ⟨gof, 0, none⟩) n n, .int .i64 t.to_.num, .int .i64 t.to_.den, .bool t.less]
  own : OwnF w B (.slice (some ⟨gof, 0, none⟩) n n) t.of_
  len : t.of_.length = n
  ne : gof ≠ Gs
  bG : B ≤ Gs
  good : ∀ q ∈ t.of_, fracGood q.num q.den = true
  good2 : fracGood t.to_.num t.to_.den = true
section
variable {w w' : World} {B Gs gof n : Nat} {t : SumD}
theorem SumM.later (h : SumM w B Gs gof n t) (hb : Below w.heap.size w w') : SumM w' B Gs gof n t :=
  ⟨h.blk.below hb h.blk.lt, frac_later h.own (only_of_below hb none) (by simp [Value.ownBlock]), h.len, h.ne, h.bG, h.good, h.good2⟩
theorem below_own {v : Value} {l : List FracD} {w2 : World} (h : OwnF w2 B v l) (hz : w2.heap.size = w.heap.size) (hb : Below w.heap.size w2 w') : OwnF w' B v l :=
  frac_later h (only_of_below (by rw [hz]; exact hb) none) (by cases v.ownBlock <;> simp)
/-- one number of the sum is written anew -/
theorem SumM.put (h : SumM w B Gs gof n t) {i : Nat} {q : FracD} (hq : fracGood q.num q.den = true) (hb : Below w.heap.size (putQ w gof (i * 2) q) w') : SumM w' B Gs gof n ⟨t.of_.set i q, t.to_, t.less⟩ ∧ Below B w w' := by
  have hz : (putQ w gof (i * 2) q).heap.size = w.heap.size := by simp [putQ, World.setCell]
  have hlt := h.own.lt gof rfl
  refine ⟨⟨?_, below_own (h.own.put h.len.symm hq) hz hb, by rw [List.length_set]; exact h.len, h.ne, h.bG, fun p hp => ?_, h.good2⟩, ?_⟩
  · exact (h.blk.grown (only_putQ w gof (i * 2) q) (fun e => h.ne (by injection e with e; exact e.symm))).below hb h.blk.lt
  · rcases List.mem_or_eq_of_mem_set hp with h1 | rfl
    · exact h.good p h1
    · exact hq
  · exact (below_then (Below.refl B w) (only_putQ w gof (i * 2) q) (by omega) (fun x hx => by injection hx with hx; omega)).trans (hb.mono (by omega))
theorem SumM.putTo (h : SumM w B Gs gof n t) {q : FracD} (hq : fracGood q.num q.den = true) (hb : Below w.heap.size (putQ w Gs 1 q) w') : SumM w' B Gs gof n ⟨t.of_, q, t.less⟩ ∧ Below B w w' := by
  have hz : (putQ w Gs 1 q).heap.size = w.heap.size := by simp [putQ, World.setCell]
  have hlt := h.blk.lt
  have hb1 : Blk (putQ w Gs 1 q) Gs 90 #[.slice (some ⟨gof, 0, none⟩) n n, .int .i64 q.num, .int .i64 q.den, .bool t.less] := (h.blk.set_ 1 (.int .i64 q.num)).set_ 2 (.int .i64 q.den)
  refine ⟨⟨hb1.below hb hlt, below_own (frac_later h.own (only_putQ w Gs 1 q) (.inr (fun e => h.ne (by simpa [Value.ownBlock] using e)))) hz hb, h.len, h.ne, h.bG, h.good, hq⟩, ?_⟩
  have := h.bG
  exact (below_then (Below.refl B w) (only_putQ w Gs 1 q) (by omega) (fun x hx => by injection hx with hx; omega)).trans (hb.mono (by omega))
theorem SumM.less (h : SumM w B Gs gof n t) (b : Bool) : SumM (w.setCell ⟨Gs, 3, none⟩ (.bool b)) B Gs gof n ⟨t.of_, t.to_, b⟩ ∧ Below B w (w.setCell ⟨Gs, 3, none⟩ (.bool b)) :=
  ⟨⟨h.blk.set_ 3 _, frac_later h.own (one_only (only_refl w (some Gs)) 3 _) (.inr (fun e => h.ne (by simpa [Value.ownBlock] using e))), h.len, h.ne, h.bG, h.good, h.good2⟩, (Below.refl B w).setCell (p := ⟨Gs, 3, none⟩) h.bG _⟩
end

def TakeP (B Gs gof n : Nat) (t : SumD) (r : RowD) (pos : Bool) (m : FracD) (w : World) (e : Ending) (w' : World) : Prop :=
  (∀ t', takeF t r pos m = some t' → e = .returned (.bool true) ∧ SumM w' B Gs gof n t') ∧ (takeF t r pos m = none → e = .returned (.bool false)) ∧ Below B w w'
/-- a row as the judge may meet it -/
structure RowOk (n : Nat) (r : RowD) : Prop where
  len : r.of_.length ≤ n
  of_ : ∀ c ∈ r.of_, -1000000 ≤ c ∧ c ≤ 1000000
  to_ : -1000000 ≤ r.to_ ∧ r.to_ ≤ 1000000
theorem takeF_no1 {t : SumD} {r : RowD} {m : FracD} (h : r.kind = 3) : takeF t r true m = none := by unfold takeF; rw [if_pos ⟨rfl, h⟩]
theorem takeF_no2 {t : SumD} {r : RowD} {pos : Bool} {m : FracD} (h1 : m.num < 0) (h : ¬ r.kind = 3) : takeF t r pos m = none := by unfold takeF; rw [if_neg (fun e => h e.2), if_pos ⟨h1, h⟩]
theorem takeF_yes {t : SumD} {r : RowD} {pos : Bool} {m : FracD} (h1 : ¬ (pos = true ∧ r.kind = 3)) (h2 : ¬ (m.num < 0 ∧ ¬ r.kind = 3)) : takeF t r pos m = (addRow m (signF pos) t.of_ r.of_).bind fun o => (addC t.to_ (signF pos * r.to_) m).map fun t' => ⟨o, t', t.less || (lessF r.kind pos && decide (¬ m.num = 0))⟩ := by
  unfold takeF; rw [if_neg h1, if_neg h2]

def TakeI (B Gs gof n : Nat) (tof : List FracD) (tto : FracD) (tl : Bool) (m : FracD) (S : Int) (rof : List Int) (R : Option (List FracD)) (w wr : World) (cr cm : Array Value) (j : Nat) : Prop :=
  (∃ pre : List FracD, pre.length = j ∧ SumM wr B Gs gof n ⟨pre ++ tof.drop j, tto, tl⟩ ∧ (addRow m S (tof.drop j) (rof.drop j)).map (pre ++ ·) = R) ∧ Below B w wr ∧ Blk wr w.heap.size 33 cr ∧ Blk wr (w.heap.size + 1) 88 cm
theorem set_at {pre : List FracD} {tof : List FracD} {j : Nat} {q : FracD} (hp : pre.length = j) (hj : j < tof.length) : (pre ++ tof.drop j).set j q = (pre ++ [q]) ++ tof.drop (j + 1) := by
  rw [List.drop_eq_getElem_cons hj, List.set_append_right _ _ (by omega), hp, Nat.sub_self, List.set_cons_zero, List.append_assoc]
  rfl
theorem get_at {pre : List FracD} {tof : List FracD} {j : Nat} (hp : pre.length = j) (hj : j < tof.length) : (pre ++ tof.drop j)[j]? = some tof[j] := by
  rw [List.getElem?_append_right (by omega), hp, Nat.sub_self, List.getElem?_drop, Nat.add_zero, List.getElem?_eq_getElem hj]

set_option maxRecDepth 100000 in
set_option maxHeartbeats 8000000 in
theorem take_falseA (B Gs gof n : Nat) (tof : List FracD) (tto : FracD) (tl : Bool) (A : Option Addr) (nr cr : Nat) (rof : List Int) (rk rt : Int) (m : FracD) (w : World) (hs : SumM w B Gs gof n ⟨tof, tto, tl⟩) (hz : B ≤ w.heap.size) (hrow : IntsB w B A nr rof) (hok : RowOk n ⟨rof, rk, rt⟩) (hm : fracGood m.num m.den = true) (hn : n ≤ 1000)
    (hm0 : ¬ m.num < 0) :
    Calls Try.prog 49 #[.pointer (some ⟨Gs, 0, none⟩), .agg #[.slice A nr cr, .int .i64 rk, .int .i64 rt], .bool false, .agg #[.int .i64 m.num, .int .i64 m.den]] w (TakeP B Gs gof n ⟨tof, tto, tl⟩ ⟨rof, rk, rt⟩ false m w) := by
  obtain ⟨R, hR⟩ : ∃ R, addRow m 1 tof rof = R := ⟨_, rfl⟩
  obtain ⟨nb, hnb⟩ : ∃ nb, (m.num != 0) = nb := ⟨_, rfl⟩
  obtain ⟨lb, hlb⟩ : ∃ lb, (rk == 2) = lb := ⟨_, rfl⟩
  have HTF : Hid (takeF ⟨tof, tto, tl⟩ ⟨rof, rk, rt⟩ false m = R.bind fun o => (addC tto rt m).map fun t' => ⟨o, t', tl || (lb && nb)⟩) := by
    show _ = _
    rw [takeF_yes (by simp) (by simp [hm0]), ← hR]
    have e1 : decide (¬ m.num = 0) = nb := by rw [← hnb]; by_cases h : m.num = 0 <;> simp [h]
    have e2 : lessF rk false = lb := by rw [← hlb]; simp [lessF]; rfl
    simp only [e1, e2]
    simp [signF]
  have HR := Lib.hid hR
  have HROW := Lib.hid hrow
  have HOK := Lib.hid hok
  have HM := Lib.hid hm
  have HN := Lib.hid (And.intro hn hz)
  have hnr : nr ≤ n := by have := hrow.len; have := hok.len; simp only at this; omega
  have hnI : nr ≤ 1000 := by omega
  have hGs := hs.blk.lt
  have hgw := (hs.own.lt gof rfl).2
  have hbX : Below w.heap.size w ((w.alloc (.cells #[.slice A nr cr, .int .i64 rk, .int .i64 rt] 33)).alloc (.cells #[.int .i64 m.num, .int .i64 m.den] 88)) := ((Below.refl _ _).alloc (Nat.le_refl _) _).alloc (by simp) _
  have hkr := (Blk.new w 33 #[.slice A nr cr, .int .i64 rk, .int .i64 rt]).alloc (.cells #[.int .i64 m.num, .int .i64 m.den] 88)
  have hkm := Blk.new (w.alloc (.cells #[.slice A nr cr, .int .i64 rk, .int .i64 rt] 33)) 88 #[.int .i64 m.num, .int .i64 m.den]
  rw [World.size_alloc] at hkm
  have HX : Hid (∀ k, TakeI B Gs gof n tof tto tl m 1 rof R w (((w.alloc (.cells #[.slice A nr cr, .int .i64 rk, .int .i64 rt] 33)).alloc (.cells #[.int .i64 m.num, .int .i64 m.den] 88)).drewN k) #[.slice A nr cr, .int .i64 rk, .int .i64 rt] #[.int .i64 m.num, .int .i64 m.den] 0) := fun k =>
    ⟨⟨[], rfl, by rw [List.nil_append, List.drop_zero]; exact hs.later (below_drewN hbX k), by rw [List.drop_zero, List.drop_zero, hR]; cases R <;> simp⟩, (below_drewN hbX k).mono hz, hkr.drewN k, hkm.drewN k⟩
  have hmq := qgood hm
  clear hR hrow hok hbX hkr hkm hs hn hz
  go_enter Try.func49, Try.ntmps49
  go_wp2_with fail
  go_quiet (fail)
  go_wp2_with fail
  go_loopw [34] (fun s wr => ∃ j : Nat, j ≤ nr ∧ s = .int .i64 (j : Int) ∧ Hid (TakeI B Gs gof n tof tto tl m 1 rof R w wr #[.slice A nr cr, .int .i64 rk, .int .i64 rt] #[.int .i64 m.num, .int .i64 m.den] j)) (fun s _ => nr - (intOf s).toNat)
  case atStart => exact ⟨0, Nat.zero_le _, rfl, HX.out _⟩
  case round =>
    clear HX
    obtain ⟨j, hj, rfl, HJ⟩ := hrel
    obtain ⟨⟨pre, hpre, hsum, hrest⟩, hbel, hkr, hkm⟩ := HJ.out
    have p0 : wr.cell? ⟨w.heap.size, 0, none⟩ = some (.slice A nr cr) := hkr.cell 0
    have p1 : wr.cell? ⟨w.heap.size, 1, none⟩ = some (.int .i64 rk) := hkr.cell 1
    have p2 : wr.cell? ⟨w.heap.size, 2, none⟩ = some (.int .i64 rt) := hkr.cell 2
    have p3 : wr.cell? ⟨w.heap.size + 1, 0, none⟩ = some (.int .i64 m.num) := hkm.cell 0
    have p4 : wr.cell? ⟨w.heap.size + 1, 1, none⟩ = some (.int .i64 m.den) := hkm.cell 1
    have p5 : wr.cell? ⟨Gs, 0, none⟩ = some (.slice (some ⟨gof, 0, none⟩) n n) := hsum.blk.cell 0
    have zG : Gs < wr.heap.size := hsum.blk.lt
    have zg := (hsum.own.lt gof rfl).2
    have zgB := (hsum.own.lt gof rfl).1
    have zb := hkm.lt
    have hlen := hsum.len
    rw [List.length_append, List.length_drop, hpre] at hlen
    have HS := Lib.hid (And.intro hsum (And.intro hrest (And.intro hbel (And.intro hkr (And.intro hkm hpre)))))
    by_cases hlt : j < nr
    · have hjn : j < tof.length := by omega
      have hltI : (j : Int) < (nr : Int) := by omega
      have hltn : (j : Int) < (n : Int) := by omega
      obtain ⟨b, off, hx, rfl, hb, hcell, hlo, hhi⟩ := ints_get (HROW.out.below stays_int hbel (Nat.le_refl _)) hlt
      have hcr : -1000000 ≤ rof[j] ∧ rof[j] ≤ 1000000 := HOK.out.of_ _ (List.getElem_mem hx)
      have hqg := hsum.good tof[j] (List.mem_of_getElem? (get_at hpre hjn))
      have hqc := hsum.own.cells (get_at hpre hjn)
      have hf0 := hsum.own.unfrozen (j * 2)
      have hf1 := hsum.own.unfrozen (j * 2 + 1)
      have e1 := hrest
      rw [drop_cons hx, drop_cons hjn, addRow] at e1
      have HJN := Lib.hid hjn
      generalize rof[j] = c at hcell hcr e1 hlo hhi
      have hA := jadd_any tof[j] c m gof (j * 2) wr.drew hqg HM.out (by omega) (by omega) zg hqc.1 hqc.2 hf0 hf1
      have e2 : 1 * c = c := by omega
      have hwx : IntKind.i64.wrap c = c := IntWalk.i64_in _ (by omega)
      rw [e2] at e1
      generalize tof[j] = q at hA e1 hqg
      clear hpre hsum hrest hbel hkr hkm hlen hx hqc hf0 hf1 hjn hlo hhi e2
      cases hq : addC q c m with
      | none =>
        rw [hq] at e1
        have HE := Lib.hid (show R = none from e1.symm)
        have HA := Lib.hid hA
        have HQ := Lib.hid hq
        clear hA hq e1
        go_wp2_with fail
        go_region_with (go_at_call 66; refine HA.out.mono ?_; rintro e w9 ⟨-, hno⟩; obtain ⟨rfl, hg9⟩ := hno HQ.out; have HG9 := Lib.hid hg9; clear hno hg9)
        all_goals
          go_wp2_with fail
          go_ret
          refine ⟨fun t' ht' => ?_, fun _ => rfl, below_then (below_drewN HS.out.2.2.1 1) HG9.out (by have := HN.out.2; simp; omega) (fun x hx => by injection hx with hx; omega)⟩
          rw [HTF.out, HE.out] at ht'
          cases ht'
      | some q' =>
        rw [hq] at e1
        have hqg' := addC_good hqg HM.out (by omega) (by omega) hq
        have HA := Lib.hid hA
        have HQ := Lib.hid (And.intro hq (And.intro hqg' e1))
        clear hA hq e1 hqg'
        go_wp2_with fail
        go_region_with (go_at_call 66; refine HA.out.mono ?_; rintro e w9 ⟨hyes, -⟩; obtain ⟨rfl, hg9⟩ := hyes q' HQ.out.1; have HG9 := Lib.hid hg9; clear hyes hg9)
        all_goals
          go_wp2_with fail
          go_roundw
          case rel =>
            obtain ⟨hsum, hrest, hbel, hkr, hkm, hpre⟩ := HS.out
            obtain ⟨h1, h2⟩ := (hsum.later (below_drewN (Below.refl _ wr) 1)).put HQ.out.2.1 HG9.out
            have hgrow : wr.grownBy w9 (some gof) := only_then (only_putQ wr gof (j * 2) q') (only_of_below (w := w9) (a := putQ wr gof (j * 2) q') (by have := HG9.out; exact ⟨this.os, this.tape, this.output, this.size, fun i hi => this.block i (by simpa [putQ, World.setCell] using hi)⟩) none) (fun x hx => by cases hx)
            refine ⟨j + 1, by omega, by go_num, ⟨pre ++ [q'], by simp [hpre], by have h3 := h1; rw [set_at hpre HJN.out] at h3; exact h3, ?_⟩, hbel.trans ((below_drewN (Below.refl _ _) 1).trans h2), hkr.grown hgrow (fun e => by injection e; omega), hkm.grown hgrow (fun e => by injection e; omega)⟩
            have e1 := HQ.out.2.2
            rw [← e1]
            cases addRow m 1 (tof.drop (j + 1)) (rof.drop (j + 1)) <;> simp
          case measure => simp [intOf]; omega
    · obtain rfl : j = nr := by omega
      have hro := HROW.out.len
      have e1 := hrest
      rw [List.drop_of_length_le (l := rof) (by omega), addRow] at e1
      have HE : Hid (R = some (pre ++ tof.drop j)) := e1.symm
      obtain ⟨o, ho⟩ : ∃ o, pre ++ tof.drop j = o := ⟨_, rfl⟩
      rw [ho] at HE
      have hsum' := hsum
      rw [ho] at hsum'
      have HSM := Lib.hid hsum'
      have p6 : wr.cell? ⟨Gs, 3, none⟩ = some (.bool tl) := hsum.blk.cell 3
      have p7 : wr.frozen? ⟨Gs, 3, none⟩ = false := hsum.blk.frozen 3
      have p8 : wr.cell? ⟨Gs, 1, none⟩ = some (.int .i64 tto.num) := hsum.blk.cell 1
      have p9 : wr.cell? ⟨Gs, 2, none⟩ = some (.int .i64 tto.den) := hsum.blk.cell 2
      have p10 : wr.frozen? ⟨Gs, 1, none⟩ = false := hsum.blk.frozen 1
      have p11 : wr.frozen? ⟨Gs, 2, none⟩ = false := hsum.blk.frozen 2
      have hG1 : ¬ w.heap.size = Gs := by omega
      have hG2 : ¬ w.heap.size + 1 = Gs := by omega
      have hrt : -1000000 ≤ rt ∧ rt ≤ 1000000 := HOK.out.to_
      have hg2 := hsum.good2
      have hwx : IntKind.i64.wrap rt = rt := IntWalk.i64_in _ (by omega)
      have HA : Hid (∀ (b : Bool), Calls Try.prog 66 #[.pointer (some ⟨Gs, 1, none⟩), .int .i64 rt, .agg #[.int .i64 m.num, .int .i64 m.den]] (wr.setCell ⟨Gs, 3, none⟩ (.bool b)).drew (JAddP tto rt m Gs 1 (wr.setCell ⟨Gs, 3, none⟩ (.bool b)).drew)) := fun b => by
        have h3 := (hsum'.less b).1
        exact jadd_any tto rt m Gs 1 _ hg2 HM.out (by omega) (by omega) (by simpa [World.setCell] using zG) (h3.blk.cell 1) (h3.blk.cell 2) (h3.blk.frozen 1) (h3.blk.frozen 2)
      clear hpre hsum hrest hbel hkr hkm hlen hro e1 ho hsum' HJ hg2
      cases hq : addC tto rt m with
      | none =>
        have HQ := Lib.hid hq
        clear hq
        rcases (show tl = true ∨ (tl = false ∧ lb = false) ∨ (tl = false ∧ lb = true) by cases tl <;> cases lb <;> simp) with rfl | ⟨rfl, rfl⟩ | ⟨rfl, rfl⟩
        all_goals
          go_wp2_with fail
          go_region_with (go_at_call 66; (first | with_reducible refine (HA.out true).mono ?_ | with_reducible refine (HA.out false).mono ?_ | with_reducible refine (HA.out nb).mono ?_); rintro e w9 ⟨-, hno⟩; obtain ⟨rfl, hg9⟩ := hno HQ.out; have HG9 := Lib.hid hg9; clear hno hg9)
          all_goals
            go_wp2_with fail
            go_ret
            refine ⟨fun t' ht' => ?_, fun _ => rfl, ?_⟩
            · rw [HTF.out, HE.out] at ht'
              simp only [Option.bind_some, HQ.out, Option.map_none] at ht'
              cases ht'
            · exact below_then (below_drewN (HS.out.2.2.1.trans (HSM.out.less _).2) 1) HG9.out (by have := HN.out.2; simp [World.setCell]; omega) (fun x hx => by injection hx with hx; have := HSM.out.bG; omega)
      | some q =>
        have HQ := Lib.hid hq
        clear hq
        rcases (show tl = true ∨ (tl = false ∧ lb = false) ∨ (tl = false ∧ lb = true) by cases tl <;> cases lb <;> simp) with rfl | ⟨rfl, rfl⟩ | ⟨rfl, rfl⟩
        all_goals
          go_wp2_with fail
          go_region_with (go_at_call 66; (first | with_reducible refine (HA.out true).mono ?_ | with_reducible refine (HA.out false).mono ?_ | with_reducible refine (HA.out nb).mono ?_); rintro e w9 ⟨hyes, -⟩; obtain ⟨rfl, hg9⟩ := hyes q HQ.out; have HG9 := Lib.hid hg9; clear hyes hg9)
          all_goals
            go_wp2_with fail
            go_ret
            have hqg := addC_good HSM.out.good2 HM.out (by omega) (by omega) HQ.out
            have h3 := HSM.out.less
            first
              | (have h4 := (((h3 true).1).later (below_drewN (Below.refl _ _) 1)).putTo hqg HG9.out
                 refine ⟨fun t' ht' => ?_, fun h => ?_, HS.out.2.2.1.trans ((below_drewN (h3 true).2 1).trans h4.2)⟩
                 · rw [HTF.out, HE.out] at ht'
                   simp only [Option.bind_some, HQ.out, Option.map_some, Option.some.injEq] at ht'
                   subst ht'
                   exact ⟨rfl, h4.1⟩
                 · rw [HTF.out, HE.out] at h
                   simp only [Option.bind_some, HQ.out, Option.map_some] at h
                   cases h)
              | (have h4 := (((h3 false).1).later (below_drewN (Below.refl _ _) 1)).putTo hqg HG9.out
                 refine ⟨fun t' ht' => ?_, fun h => ?_, HS.out.2.2.1.trans ((below_drewN (h3 false).2 1).trans h4.2)⟩
                 · rw [HTF.out, HE.out] at ht'
                   simp only [Option.bind_some, HQ.out, Option.map_some, Option.some.injEq] at ht'
                   subst ht'
                   exact ⟨rfl, h4.1⟩
                 · rw [HTF.out, HE.out] at h
                   simp only [Option.bind_some, HQ.out, Option.map_some] at h
                   cases h)
              | (have h4 := (((h3 nb).1).later (below_drewN (Below.refl _ _) 1)).putTo hqg HG9.out
                 refine ⟨fun t' ht' => ?_, fun h => ?_, HS.out.2.2.1.trans ((below_drewN (h3 nb).2 1).trans h4.2)⟩
                 · rw [HTF.out, HE.out] at ht'
                   simp only [Option.bind_some, HQ.out, Option.map_some, Option.some.injEq] at ht'
                   subst ht'
                   exact ⟨rfl, h4.1⟩
                 · rw [HTF.out, HE.out] at h
                   simp only [Option.bind_some, HQ.out, Option.map_some] at h
                   cases h)
end Go.Proofs.Ytdncchlfeanlmaa
namespace Go.Proofs.Ytdncchlfeanlmaa
open Go.RowKit

set_option maxRecDepth 100000 in
set_option maxHeartbeats 8000000 in
theorem take_trueA (B Gs gof n : Nat) (tof : List FracD) (tto : FracD) (tl : Bool) (A : Option Addr) (nr cr : Nat) (rof : List Int) (rk rt : Int) (m : FracD) (w : World) (hs : SumM w B Gs gof n ⟨tof, tto, tl⟩) (hz : B ≤ w.heap.size) (hrow : IntsB w B A nr rof) (hok : RowOk n ⟨rof, rk, rt⟩) (hm : fracGood m.num m.den = true) (hn : n ≤ 1000)
    (hm0 : ¬ m.num < 0) (hk3 : ¬ rk = 3) :
    Calls Try.prog 49 #[.pointer (some ⟨Gs, 0, none⟩), .agg #[.slice A nr cr, .int .i64 rk, .int .i64 rt], .bool true, .agg #[.int .i64 m.num, .int .i64 m.den]] w (TakeP B Gs gof n ⟨tof, tto, tl⟩ ⟨rof, rk, rt⟩ true m w) := by
  obtain ⟨R, hR⟩ : ∃ R, addRow m (-1) tof rof = R := ⟨_, rfl⟩
  obtain ⟨nb, hnb⟩ : ∃ nb, (m.num != 0) = nb := ⟨_, rfl⟩
  obtain ⟨lb, hlb⟩ : ∃ lb, (rk == 1) = lb := ⟨_, rfl⟩
  have HTF : Hid (takeF ⟨tof, tto, tl⟩ ⟨rof, rk, rt⟩ true m = R.bind fun o => (addC tto (-rt) m).map fun t' => ⟨o, t', tl || (lb && nb)⟩) := by
    show _ = _
    rw [takeF_yes (by simp [hk3]) (by simp [hm0]), ← hR]
    have e1 : decide (¬ m.num = 0) = nb := by rw [← hnb]; by_cases h : m.num = 0 <;> simp [h]
    have e2 : lessF rk true = lb := by rw [← hlb]; simp [lessF]; rfl
    simp only [e1, e2]
    simp [signF]
  have HR := Lib.hid hR
  have HROW := Lib.hid hrow
  have HOK := Lib.hid hok
  have HM := Lib.hid hm
  have HN := Lib.hid (And.intro hn hz)
  have hnr : nr ≤ n := by have := hrow.len; have := hok.len; simp only at this; omega
  have hnI : nr ≤ 1000 := by omega
  have hGs := hs.blk.lt
  have hgw := (hs.own.lt gof rfl).2
  have hbX : Below w.heap.size w ((w.alloc (.cells #[.slice A nr cr, .int .i64 rk, .int .i64 rt] 33)).alloc (.cells #[.int .i64 m.num, .int .i64 m.den] 88)) := ((Below.refl _ _).alloc (Nat.le_refl _) _).alloc (by simp) _
  have hkr := (Blk.new w 33 #[.slice A nr cr, .int .i64 rk, .int .i64 rt]).alloc (.cells #[.int .i64 m.num, .int .i64 m.den] 88)
  have hkm := Blk.new (w.alloc (.cells #[.slice A nr cr, .int .i64 rk, .int .i64 rt] 33)) 88 #[.int .i64 m.num, .int .i64 m.den]
  rw [World.size_alloc] at hkm
  have HX : Hid (∀ k, TakeI B Gs gof n tof tto tl m (-1) rof R w (((w.alloc (.cells #[.slice A nr cr, .int .i64 rk, .int .i64 rt] 33)).alloc (.cells #[.int .i64 m.num, .int .i64 m.den] 88)).drewN k) #[.slice A nr cr, .int .i64 rk, .int .i64 rt] #[.int .i64 m.num, .int .i64 m.den] 0) := fun k =>
    ⟨⟨[], rfl, by rw [List.nil_append, List.drop_zero]; exact hs.later (below_drewN hbX k), by rw [List.drop_zero, List.drop_zero, hR]; cases R <;> simp⟩, (below_drewN hbX k).mono hz, hkr.drewN k, hkm.drewN k⟩
  have hmq := qgood hm
  clear hR hrow hok hbX hkr hkm hs hn hz
  have hk3b : (rk == 3) = false := by rw [beq_eq_false_iff_ne]; exact hk3
  go_enter Try.func49, Try.ntmps49
  go_wp2_with fail
  go_quiet (fail)
  go_wp2_with fail
  go_quiet (fail)
  go_wp2_with fail
  go_loopw [34] (fun s wr => ∃ j : Nat, j ≤ nr ∧ s = .int .i64 (j : Int) ∧ Hid (TakeI B Gs gof n tof tto tl m (-1) rof R w wr #[.slice A nr cr, .int .i64 rk, .int .i64 rt] #[.int .i64 m.num, .int .i64 m.den] j)) (fun s _ => nr - (intOf s).toNat)
  case atStart => exact ⟨0, Nat.zero_le _, rfl, HX.out _⟩
  case round =>
    clear HX
    obtain ⟨j, hj, rfl, HJ⟩ := hrel
    obtain ⟨⟨pre, hpre, hsum, hrest⟩, hbel, hkr, hkm⟩ := HJ.out
    have p0 : wr.cell? ⟨w.heap.size, 0, none⟩ = some (.slice A nr cr) := hkr.cell 0
    have p1 : wr.cell? ⟨w.heap.size, 1, none⟩ = some (.int .i64 rk) := hkr.cell 1
    have p2 : wr.cell? ⟨w.heap.size, 2, none⟩ = some (.int .i64 rt) := hkr.cell 2
    have p3 : wr.cell? ⟨w.heap.size + 1, 0, none⟩ = some (.int .i64 m.num) := hkm.cell 0
    have p4 : wr.cell? ⟨w.heap.size + 1, 1, none⟩ = some (.int .i64 m.den) := hkm.cell 1
    have p5 : wr.cell? ⟨Gs, 0, none⟩ = some (.slice (some ⟨gof, 0, none⟩) n n) := hsum.blk.cell 0
    have zG : Gs < wr.heap.size := hsum.blk.lt
    have zg := (hsum.own.lt gof rfl).2
    have zgB := (hsum.own.lt gof rfl).1
    have zb := hkm.lt
    have hlen := hsum.len
    rw [List.length_append, List.length_drop, hpre] at hlen
    have HS := Lib.hid (And.intro hsum (And.intro hrest (And.intro hbel (And.intro hkr (And.intro hkm hpre)))))
    by_cases hlt : j < nr
    · have hjn : j < tof.length := by omega
      have hltI : (j : Int) < (nr : Int) := by omega
      have hltn : (j : Int) < (n : Int) := by omega
      obtain ⟨b, off, hx, rfl, hb, hcell, hlo, hhi⟩ := ints_get (HROW.out.below stays_int hbel (Nat.le_refl _)) hlt
      have hcr : -1000000 ≤ rof[j] ∧ rof[j] ≤ 1000000 := HOK.out.of_ _ (List.getElem_mem hx)
      have hqg := hsum.good tof[j] (List.mem_of_getElem? (get_at hpre hjn))
      have hqc := hsum.own.cells (get_at hpre hjn)
      have hf0 := hsum.own.unfrozen (j * 2)
      have hf1 := hsum.own.unfrozen (j * 2 + 1)
      have e1 := hrest
      rw [drop_cons hx, drop_cons hjn, addRow] at e1
      have HJN := Lib.hid hjn
      generalize rof[j] = c at hcell hcr e1 hlo hhi
      have hA := jadd_any tof[j] (-c) m gof (j * 2) wr.drew hqg HM.out (by omega) (by omega) zg hqc.1 hqc.2 hf0 hf1
      have e2 : (-1) * c = (-c) := by omega
      have hwx : IntKind.i64.wrap (-c) = (-c) := IntWalk.i64_in _ (by omega)
      rw [e2] at e1
      generalize tof[j] = q at hA e1 hqg
      clear hpre hsum hrest hbel hkr hkm hlen hx hqc hf0 hf1 hjn hlo hhi e2
      cases hq : addC q (-c) m with
      | none =>
        rw [hq] at e1
        have HE := Lib.hid (show R = none from e1.symm)
        have HA := Lib.hid hA
        have HQ := Lib.hid hq
        clear hA hq e1
        go_wp2_with fail
        go_region_with (go_at_call 66; refine HA.out.mono ?_; rintro e w9 ⟨-, hno⟩; obtain ⟨rfl, hg9⟩ := hno HQ.out; have HG9 := Lib.hid hg9; clear hno hg9)
        all_goals
          go_wp2_with fail
          go_ret
          refine ⟨fun t' ht' => ?_, fun _ => rfl, below_then (below_drewN HS.out.2.2.1 1) HG9.out (by have := HN.out.2; simp; omega) (fun x hx => by injection hx with hx; omega)⟩
          rw [HTF.out, HE.out] at ht'
          cases ht'
      | some q' =>
        rw [hq] at e1
        have hqg' := addC_good hqg HM.out (by omega) (by omega) hq
        have HA := Lib.hid hA
        have HQ := Lib.hid (And.intro hq (And.intro hqg' e1))
        clear hA hq e1 hqg'
        go_wp2_with fail
        go_region_with (go_at_call 66; refine HA.out.mono ?_; rintro e w9 ⟨hyes, -⟩; obtain ⟨rfl, hg9⟩ := hyes q' HQ.out.1; have HG9 := Lib.hid hg9; clear hyes hg9)
        all_goals
          go_wp2_with fail
          go_roundw
          case rel =>
            obtain ⟨hsum, hrest, hbel, hkr, hkm, hpre⟩ := HS.out
            obtain ⟨h1, h2⟩ := (hsum.later (below_drewN (Below.refl _ wr) 1)).put HQ.out.2.1 HG9.out
            have hgrow : wr.grownBy w9 (some gof) := only_then (only_putQ wr gof (j * 2) q') (only_of_below (w := w9) (a := putQ wr gof (j * 2) q') (by have := HG9.out; exact ⟨this.os, this.tape, this.output, this.size, fun i hi => this.block i (by simpa [putQ, World.setCell] using hi)⟩) none) (fun x hx => by cases hx)
            refine ⟨j + 1, by omega, by go_num, ⟨pre ++ [q'], by simp [hpre], by have h3 := h1; rw [set_at hpre HJN.out] at h3; exact h3, ?_⟩, hbel.trans ((below_drewN (Below.refl _ _) 1).trans h2), hkr.grown hgrow (fun e => by injection e; omega), hkm.grown hgrow (fun e => by injection e; omega)⟩
            have e1 := HQ.out.2.2
            rw [← e1]
            cases addRow m (-1) (tof.drop (j + 1)) (rof.drop (j + 1)) <;> simp
          case measure => simp [intOf]; omega
    · obtain rfl : j = nr := by omega
      have hro := HROW.out.len
      have e1 := hrest
      rw [List.drop_of_length_le (l := rof) (by omega), addRow] at e1
      have HE : Hid (R = some (pre ++ tof.drop j)) := e1.symm
      obtain ⟨o, ho⟩ : ∃ o, pre ++ tof.drop j = o := ⟨_, rfl⟩
      rw [ho] at HE
      have hsum' := hsum
      rw [ho] at hsum'
      have HSM := Lib.hid hsum'
      have p6 : wr.cell? ⟨Gs, 3, none⟩ = some (.bool tl) := hsum.blk.cell 3
      have p7 : wr.frozen? ⟨Gs, 3, none⟩ = false := hsum.blk.frozen 3
      have p8 : wr.cell? ⟨Gs, 1, none⟩ = some (.int .i64 tto.num) := hsum.blk.cell 1
      have p9 : wr.cell? ⟨Gs, 2, none⟩ = some (.int .i64 tto.den) := hsum.blk.cell 2
      have p10 : wr.frozen? ⟨Gs, 1, none⟩ = false := hsum.blk.frozen 1
      have p11 : wr.frozen? ⟨Gs, 2, none⟩ = false := hsum.blk.frozen 2
      have hG1 : ¬ w.heap.size = Gs := by omega
      have hG2 : ¬ w.heap.size + 1 = Gs := by omega
      have hrt : -1000000 ≤ rt ∧ rt ≤ 1000000 := HOK.out.to_
      have hg2 := hsum.good2
      have hwx : IntKind.i64.wrap (-rt) = (-rt) := IntWalk.i64_in _ (by omega)
      have HA : Hid (∀ (b : Bool), Calls Try.prog 66 #[.pointer (some ⟨Gs, 1, none⟩), .int .i64 (-rt), .agg #[.int .i64 m.num, .int .i64 m.den]] (wr.setCell ⟨Gs, 3, none⟩ (.bool b)).drew (JAddP tto (-rt) m Gs 1 (wr.setCell ⟨Gs, 3, none⟩ (.bool b)).drew)) := fun b => by
        have h3 := (hsum'.less b).1
        exact jadd_any tto (-rt) m Gs 1 _ hg2 HM.out (by omega) (by omega) (by simpa [World.setCell] using zG) (h3.blk.cell 1) (h3.blk.cell 2) (h3.blk.frozen 1) (h3.blk.frozen 2)
      clear hpre hsum hrest hbel hkr hkm hlen hro e1 ho hsum' HJ hg2
      cases hq : addC tto (-rt) m with
      | none =>
        have HQ := Lib.hid hq
        clear hq
        rcases (show tl = true ∨ (tl = false ∧ lb = false) ∨ (tl = false ∧ lb = true) by cases tl <;> cases lb <;> simp) with rfl | ⟨rfl, rfl⟩ | ⟨rfl, rfl⟩
        all_goals
          go_wp2_with fail
          go_region_with (go_at_call 66; (first | with_reducible refine (HA.out true).mono ?_ | with_reducible refine (HA.out false).mono ?_ | with_reducible refine (HA.out nb).mono ?_); rintro e w9 ⟨-, hno⟩; obtain ⟨rfl, hg9⟩ := hno HQ.out; have HG9 := Lib.hid hg9; clear hno hg9)
          all_goals
            go_wp2_with fail
            go_ret
            refine ⟨fun t' ht' => ?_, fun _ => rfl, ?_⟩
            · rw [HTF.out, HE.out] at ht'
              simp only [Option.bind_some, HQ.out, Option.map_none] at ht'
              cases ht'
            · exact below_then (below_drewN (HS.out.2.2.1.trans (HSM.out.less _).2) 1) HG9.out (by have := HN.out.2; simp [World.setCell]; omega) (fun x hx => by injection hx with hx; have := HSM.out.bG; omega)
      | some q =>
        have HQ := Lib.hid hq
        clear hq
        rcases (show tl = true ∨ (tl = false ∧ lb = false) ∨ (tl = false ∧ lb = true) by cases tl <;> cases lb <;> simp) with rfl | ⟨rfl, rfl⟩ | ⟨rfl, rfl⟩
        all_goals
          go_wp2_with fail
          go_region_with (go_at_call 66; (first | with_reducible refine (HA.out true).mono ?_ | with_reducible refine (HA.out false).mono ?_ | with_reducible refine (HA.out nb).mono ?_); rintro e w9 ⟨hyes, -⟩; obtain ⟨rfl, hg9⟩ := hyes q HQ.out; have HG9 := Lib.hid hg9; clear hyes hg9)
          all_goals
            go_wp2_with fail
            go_ret
            have hqg := addC_good HSM.out.good2 HM.out (by omega) (by omega) HQ.out
            have h3 := HSM.out.less
            first
              | (have h4 := (((h3 true).1).later (below_drewN (Below.refl _ _) 1)).putTo hqg HG9.out
                 refine ⟨fun t' ht' => ?_, fun h => ?_, HS.out.2.2.1.trans ((below_drewN (h3 true).2 1).trans h4.2)⟩
                 · rw [HTF.out, HE.out] at ht'
                   simp only [Option.bind_some, HQ.out, Option.map_some, Option.some.injEq] at ht'
                   subst ht'
                   exact ⟨rfl, h4.1⟩
                 · rw [HTF.out, HE.out] at h
                   simp only [Option.bind_some, HQ.out, Option.map_some] at h
                   cases h)
              | (have h4 := (((h3 false).1).later (below_drewN (Below.refl _ _) 1)).putTo hqg HG9.out
                 refine ⟨fun t' ht' => ?_, fun h => ?_, HS.out.2.2.1.trans ((below_drewN (h3 false).2 1).trans h4.2)⟩
                 · rw [HTF.out, HE.out] at ht'
                   simp only [Option.bind_some, HQ.out, Option.map_some, Option.some.injEq] at ht'
                   subst ht'
                   exact ⟨rfl, h4.1⟩
                 · rw [HTF.out, HE.out] at h
                   simp only [Option.bind_some, HQ.out, Option.map_some] at h
                   cases h)
              | (have h4 := (((h3 nb).1).later (below_drewN (Below.refl _ _) 1)).putTo hqg HG9.out
                 refine ⟨fun t' ht' => ?_, fun h => ?_, HS.out.2.2.1.trans ((below_drewN (h3 nb).2 1).trans h4.2)⟩
                 · rw [HTF.out, HE.out] at ht'
                   simp only [Option.bind_some, HQ.out, Option.map_some, Option.some.injEq] at ht'
                   subst ht'
                   exact ⟨rfl, h4.1⟩
                 · rw [HTF.out, HE.out] at h
                   simp only [Option.bind_some, HQ.out, Option.map_some] at h
                   cases h)
end Go.Proofs.Ytdncchlfeanlmaa
namespace Go.Proofs.Ytdncchlfeanlmaa
open Go.RowKit

set_option maxRecDepth 100000 in
set_option maxHeartbeats 8000000 in
theorem take_falseB (B Gs gof n : Nat) (tof : List FracD) (tto : FracD) (tl : Bool) (A : Option Addr) (nr cr : Nat) (rof : List Int) (rt : Int) (m : FracD) (w : World) (hs : SumM w B Gs gof n ⟨tof, tto, tl⟩) (hz : B ≤ w.heap.size) (hrow : IntsB w B A nr rof) (hok : RowOk n ⟨rof, 3, rt⟩) (hm : fracGood m.num m.den = true) (hn : n ≤ 1000)
    (hm0 : m.num < 0) :
    Calls Try.prog 49 #[.pointer (some ⟨Gs, 0, none⟩), .agg #[.slice A nr cr, .int .i64 3, .int .i64 rt], .bool false, .agg #[.int .i64 m.num, .int .i64 m.den]] w (TakeP B Gs gof n ⟨tof, tto, tl⟩ ⟨rof, 3, rt⟩ false m w) := by
  obtain ⟨R, hR⟩ : ∃ R, addRow m 1 tof rof = R := ⟨_, rfl⟩
  obtain ⟨nb, hnb⟩ : ∃ nb, (m.num != 0) = nb := ⟨_, rfl⟩
  have HTF : Hid (takeF ⟨tof, tto, tl⟩ ⟨rof, 3, rt⟩ false m = R.bind fun o => (addC tto rt m).map fun t' => ⟨o, t', tl || (false && nb)⟩) := by
    show _ = _
    rw [takeF_yes (by simp) (by simp), ← hR]
    have e1 : decide (¬ m.num = 0) = nb := by rw [← hnb]; by_cases h : m.num = 0 <;> simp [h]
    have e2 : lessF 3 false = false := by simp [lessF]
    simp only [e1, e2]
    simp [signF]
  have HR := Lib.hid hR
  have HROW := Lib.hid hrow
  have HOK := Lib.hid hok
  have HM := Lib.hid hm
  have HN := Lib.hid (And.intro hn hz)
  have hnr : nr ≤ n := by have := hrow.len; have := hok.len; simp only at this; omega
  have hnI : nr ≤ 1000 := by omega
  have hGs := hs.blk.lt
  have hgw := (hs.own.lt gof rfl).2
  have hbX : Below w.heap.size w ((w.alloc (.cells #[.slice A nr cr, .int .i64 3, .int .i64 rt] 33)).alloc (.cells #[.int .i64 m.num, .int .i64 m.den] 88)) := ((Below.refl _ _).alloc (Nat.le_refl _) _).alloc (by simp) _
  have hkr := (Blk.new w 33 #[.slice A nr cr, .int .i64 3, .int .i64 rt]).alloc (.cells #[.int .i64 m.num, .int .i64 m.den] 88)
  have hkm := Blk.new (w.alloc (.cells #[.slice A nr cr, .int .i64 3, .int .i64 rt] 33)) 88 #[.int .i64 m.num, .int .i64 m.den]
  rw [World.size_alloc] at hkm
  have HX : Hid (∀ k, TakeI B Gs gof n tof tto tl m 1 rof R w (((w.alloc (.cells #[.slice A nr cr, .int .i64 3, .int .i64 rt] 33)).alloc (.cells #[.int .i64 m.num, .int .i64 m.den] 88)).drewN k) #[.slice A nr cr, .int .i64 3, .int .i64 rt] #[.int .i64 m.num, .int .i64 m.den] 0) := fun k =>
    ⟨⟨[], rfl, by rw [List.nil_append, List.drop_zero]; exact hs.later (below_drewN hbX k), by rw [List.drop_zero, List.drop_zero, hR]; cases R <;> simp⟩, (below_drewN hbX k).mono hz, hkr.drewN k, hkm.drewN k⟩
  have hmq := qgood hm
  clear hR hrow hok hbX hkr hkm hs hn hz
  go_enter Try.func49, Try.ntmps49
  go_wp2_with fail
  go_quiet (fail)
  go_wp2_with fail
  go_loopw [34] (fun s wr => ∃ j : Nat, j ≤ nr ∧ s = .int .i64 (j : Int) ∧ Hid (TakeI B Gs gof n tof tto tl m 1 rof R w wr #[.slice A nr cr, .int .i64 3, .int .i64 rt] #[.int .i64 m.num, .int .i64 m.den] j)) (fun s _ => nr - (intOf s).toNat)
  case atStart => exact ⟨0, Nat.zero_le _, rfl, HX.out _⟩
  case round =>
    clear HX
    obtain ⟨j, hj, rfl, HJ⟩ := hrel
    obtain ⟨⟨pre, hpre, hsum, hrest⟩, hbel, hkr, hkm⟩ := HJ.out
    have p0 : wr.cell? ⟨w.heap.size, 0, none⟩ = some (.slice A nr cr) := hkr.cell 0
    have p1 : wr.cell? ⟨w.heap.size, 1, none⟩ = some (.int .i64 3) := hkr.cell 1
    have p2 : wr.cell? ⟨w.heap.size, 2, none⟩ = some (.int .i64 rt) := hkr.cell 2
    have p3 : wr.cell? ⟨w.heap.size + 1, 0, none⟩ = some (.int .i64 m.num) := hkm.cell 0
    have p4 : wr.cell? ⟨w.heap.size + 1, 1, none⟩ = some (.int .i64 m.den) := hkm.cell 1
    have p5 : wr.cell? ⟨Gs, 0, none⟩ = some (.slice (some ⟨gof, 0, none⟩) n n) := hsum.blk.cell 0
    have zG : Gs < wr.heap.size := hsum.blk.lt
    have zg := (hsum.own.lt gof rfl).2
    have zgB := (hsum.own.lt gof rfl).1
    have zb := hkm.lt
    have hlen := hsum.len
    rw [List.length_append, List.length_drop, hpre] at hlen
    have HS := Lib.hid (And.intro hsum (And.intro hrest (And.intro hbel (And.intro hkr (And.intro hkm hpre)))))
    by_cases hlt : j < nr
    · have hjn : j < tof.length := by omega
      have hltI : (j : Int) < (nr : Int) := by omega
      have hltn : (j : Int) < (n : Int) := by omega
      obtain ⟨b, off, hx, rfl, hb, hcell, hlo, hhi⟩ := ints_get (HROW.out.below stays_int hbel (Nat.le_refl _)) hlt
      have hcr : -1000000 ≤ rof[j] ∧ rof[j] ≤ 1000000 := HOK.out.of_ _ (List.getElem_mem hx)
      have hqg := hsum.good tof[j] (List.mem_of_getElem? (get_at hpre hjn))
      have hqc := hsum.own.cells (get_at hpre hjn)
      have hf0 := hsum.own.unfrozen (j * 2)
      have hf1 := hsum.own.unfrozen (j * 2 + 1)
      have e1 := hrest
      rw [drop_cons hx, drop_cons hjn, addRow] at e1
      have HJN := Lib.hid hjn
      generalize rof[j] = c at hcell hcr e1 hlo hhi
      have hA := jadd_any tof[j] c m gof (j * 2) wr.drew hqg HM.out (by omega) (by omega) zg hqc.1 hqc.2 hf0 hf1
      have e2 : 1 * c = c := by omega
      have hwx : IntKind.i64.wrap c = c := IntWalk.i64_in _ (by omega)
      rw [e2] at e1
      generalize tof[j] = q at hA e1 hqg
      clear hpre hsum hrest hbel hkr hkm hlen hx hqc hf0 hf1 hjn hlo hhi e2
      cases hq : addC q c m with
      | none =>
        rw [hq] at e1
        have HE := Lib.hid (show R = none from e1.symm)
        have HA := Lib.hid hA
        have HQ := Lib.hid hq
        clear hA hq e1
        go_wp2_with fail
        go_region_with (go_at_call 66; refine HA.out.mono ?_; rintro e w9 ⟨-, hno⟩; obtain ⟨rfl, hg9⟩ := hno HQ.out; have HG9 := Lib.hid hg9; clear hno hg9)
        all_goals
          go_wp2_with fail
          go_ret
          refine ⟨fun t' ht' => ?_, fun _ => rfl, below_then (below_drewN HS.out.2.2.1 1) HG9.out (by have := HN.out.2; simp; omega) (fun x hx => by injection hx with hx; omega)⟩
          rw [HTF.out, HE.out] at ht'
          cases ht'
      | some q' =>
        rw [hq] at e1
        have hqg' := addC_good hqg HM.out (by omega) (by omega) hq
        have HA := Lib.hid hA
        have HQ := Lib.hid (And.intro hq (And.intro hqg' e1))
        clear hA hq e1 hqg'
        go_wp2_with fail
        go_region_with (go_at_call 66; refine HA.out.mono ?_; rintro e w9 ⟨hyes, -⟩; obtain ⟨rfl, hg9⟩ := hyes q' HQ.out.1; have HG9 := Lib.hid hg9; clear hyes hg9)
        all_goals
          go_wp2_with fail
          go_roundw
          case rel =>
            obtain ⟨hsum, hrest, hbel, hkr, hkm, hpre⟩ := HS.out
            obtain ⟨h1, h2⟩ := (hsum.later (below_drewN (Below.refl _ wr) 1)).put HQ.out.2.1 HG9.out
            have hgrow : wr.grownBy w9 (some gof) := only_then (only_putQ wr gof (j * 2) q') (only_of_below (w := w9) (a := putQ wr gof (j * 2) q') (by have := HG9.out; exact ⟨this.os, this.tape, this.output, this.size, fun i hi => this.block i (by simpa [putQ, World.setCell] using hi)⟩) none) (fun x hx => by cases hx)
            refine ⟨j + 1, by omega, by go_num, ⟨pre ++ [q'], by simp [hpre], by have h3 := h1; rw [set_at hpre HJN.out] at h3; exact h3, ?_⟩, hbel.trans ((below_drewN (Below.refl _ _) 1).trans h2), hkr.grown hgrow (fun e => by injection e; omega), hkm.grown hgrow (fun e => by injection e; omega)⟩
            have e1 := HQ.out.2.2
            rw [← e1]
            cases addRow m 1 (tof.drop (j + 1)) (rof.drop (j + 1)) <;> simp
          case measure => simp [intOf]; omega
    · obtain rfl : j = nr := by omega
      have hro := HROW.out.len
      have e1 := hrest
      rw [List.drop_of_length_le (l := rof) (by omega), addRow] at e1
      have HE : Hid (R = some (pre ++ tof.drop j)) := e1.symm
      obtain ⟨o, ho⟩ : ∃ o, pre ++ tof.drop j = o := ⟨_, rfl⟩
      rw [ho] at HE
      have hsum' := hsum
      rw [ho] at hsum'
      have HSM := Lib.hid hsum'
      have p6 : wr.cell? ⟨Gs, 3, none⟩ = some (.bool tl) := hsum.blk.cell 3
      have p7 : wr.frozen? ⟨Gs, 3, none⟩ = false := hsum.blk.frozen 3
      have p8 : wr.cell? ⟨Gs, 1, none⟩ = some (.int .i64 tto.num) := hsum.blk.cell 1
      have p9 : wr.cell? ⟨Gs, 2, none⟩ = some (.int .i64 tto.den) := hsum.blk.cell 2
      have p10 : wr.frozen? ⟨Gs, 1, none⟩ = false := hsum.blk.frozen 1
      have p11 : wr.frozen? ⟨Gs, 2, none⟩ = false := hsum.blk.frozen 2
      have hG1 : ¬ w.heap.size = Gs := by omega
      have hG2 : ¬ w.heap.size + 1 = Gs := by omega
      have hrt : -1000000 ≤ rt ∧ rt ≤ 1000000 := HOK.out.to_
      have hg2 := hsum.good2
      have hwx : IntKind.i64.wrap rt = rt := IntWalk.i64_in _ (by omega)
      have HA : Hid (∀ (b : Bool), Calls Try.prog 66 #[.pointer (some ⟨Gs, 1, none⟩), .int .i64 rt, .agg #[.int .i64 m.num, .int .i64 m.den]] (wr.setCell ⟨Gs, 3, none⟩ (.bool b)).drew (JAddP tto rt m Gs 1 (wr.setCell ⟨Gs, 3, none⟩ (.bool b)).drew)) := fun b => by
        have h3 := (hsum'.less b).1
        exact jadd_any tto rt m Gs 1 _ hg2 HM.out (by omega) (by omega) (by simpa [World.setCell] using zG) (h3.blk.cell 1) (h3.blk.cell 2) (h3.blk.frozen 1) (h3.blk.frozen 2)
      clear hpre hsum hrest hbel hkr hkm hlen hro e1 ho hsum' HJ hg2
      cases hq : addC tto rt m with
      | none =>
        have HQ := Lib.hid hq
        clear hq
        cases tl
        all_goals
          go_wp2_with fail
          go_region_with (go_at_call 66; (first | with_reducible refine (HA.out true).mono ?_ | with_reducible refine (HA.out false).mono ?_ | with_reducible refine (HA.out nb).mono ?_); rintro e w9 ⟨-, hno⟩; obtain ⟨rfl, hg9⟩ := hno HQ.out; have HG9 := Lib.hid hg9; clear hno hg9)
          all_goals
            go_wp2_with fail
            go_ret
            refine ⟨fun t' ht' => ?_, fun _ => rfl, ?_⟩
            · rw [HTF.out, HE.out] at ht'
              simp only [Option.bind_some, HQ.out, Option.map_none] at ht'
              cases ht'
            · exact below_then (below_drewN (HS.out.2.2.1.trans (HSM.out.less _).2) 1) HG9.out (by have := HN.out.2; simp [World.setCell]; omega) (fun x hx => by injection hx with hx; have := HSM.out.bG; omega)
      | some q =>
        have HQ := Lib.hid hq
        clear hq
        cases tl
        all_goals
          go_wp2_with fail
          go_region_with (go_at_call 66; (first | with_reducible refine (HA.out true).mono ?_ | with_reducible refine (HA.out false).mono ?_ | with_reducible refine (HA.out nb).mono ?_); rintro e w9 ⟨hyes, -⟩; obtain ⟨rfl, hg9⟩ := hyes q HQ.out; have HG9 := Lib.hid hg9; clear hyes hg9)
          all_goals
            go_wp2_with fail
            go_ret
            have hqg := addC_good HSM.out.good2 HM.out (by omega) (by omega) HQ.out
            have h3 := HSM.out.less
            first
              | (have h4 := (((h3 true).1).later (below_drewN (Below.refl _ _) 1)).putTo hqg HG9.out
                 refine ⟨fun t' ht' => ?_, fun h => ?_, HS.out.2.2.1.trans ((below_drewN (h3 true).2 1).trans h4.2)⟩
                 · rw [HTF.out, HE.out] at ht'
                   simp only [Option.bind_some, HQ.out, Option.map_some, Option.some.injEq] at ht'
                   subst ht'
                   exact ⟨rfl, h4.1⟩
                 · rw [HTF.out, HE.out] at h
                   simp only [Option.bind_some, HQ.out, Option.map_some] at h
                   cases h)
              | (have h4 := (((h3 false).1).later (below_drewN (Below.refl _ _) 1)).putTo hqg HG9.out
                 refine ⟨fun t' ht' => ?_, fun h => ?_, HS.out.2.2.1.trans ((below_drewN (h3 false).2 1).trans h4.2)⟩
                 · rw [HTF.out, HE.out] at ht'
                   simp only [Option.bind_some, HQ.out, Option.map_some, Option.some.injEq] at ht'
                   subst ht'
                   exact ⟨rfl, h4.1⟩
                 · rw [HTF.out, HE.out] at h
                   simp only [Option.bind_some, HQ.out, Option.map_some] at h
                   cases h)
              | (have h4 := (((h3 nb).1).later (below_drewN (Below.refl _ _) 1)).putTo hqg HG9.out
                 refine ⟨fun t' ht' => ?_, fun h => ?_, HS.out.2.2.1.trans ((below_drewN (h3 nb).2 1).trans h4.2)⟩
                 · rw [HTF.out, HE.out] at ht'
                   simp only [Option.bind_some, HQ.out, Option.map_some, Option.some.injEq] at ht'
                   subst ht'
                   exact ⟨rfl, h4.1⟩
                 · rw [HTF.out, HE.out] at h
                   simp only [Option.bind_some, HQ.out, Option.map_some] at h
                   cases h)

set_option maxRecDepth 100000 in
set_option maxHeartbeats 2000000 in
theorem take_no1true (B Gs gof n : Nat) (t : SumD) (A : Option Addr) (nr cr : Nat) (rof : List Int) (rt : Int) (m : FracD) (w : World) (hz : B ≤ w.heap.size) :
    Calls Try.prog 49 #[.pointer (some ⟨Gs, 0, none⟩), .agg #[.slice A nr cr, .int .i64 3, .int .i64 rt], .bool true, .agg #[.int .i64 m.num, .int .i64 m.den]] w (TakeP B Gs gof n t ⟨rof, 3, rt⟩ true m w) := by
  have HT : Hid (takeF t ⟨rof, 3, rt⟩ true m = none) := takeF_no1 rfl
  have HB : Hid (∀ k, Below B w (((w.alloc (.cells #[.slice A nr cr, .int .i64 3, .int .i64 rt] 33)).alloc (.cells #[.int .i64 m.num, .int .i64 m.den] 88)).drewN k)) := fun k => below_drewN (((Below.refl _ _).alloc hz _).alloc (by simp; omega) _) k
  clear hz
  go_enter Try.func49, Try.ntmps49
  go_wp2_with fail
  go_quiet (fail)
  go_wp2_with fail
  go_ret
  exact ⟨fun t' ht' => (by rw [HT.out] at ht'; cases ht'), fun _ => rfl, HB.out _⟩

set_option maxRecDepth 100000 in
set_option maxHeartbeats 2000000 in
theorem take_no2true (B Gs gof n : Nat) (t : SumD) (A : Option Addr) (nr cr : Nat) (rof : List Int) (rk rt : Int) (m : FracD) (w : World) (hz : B ≤ w.heap.size) (hm0 : m.num < 0) (hk3 : ¬ rk = 3) :
    Calls Try.prog 49 #[.pointer (some ⟨Gs, 0, none⟩), .agg #[.slice A nr cr, .int .i64 rk, .int .i64 rt], .bool true, .agg #[.int .i64 m.num, .int .i64 m.den]] w (TakeP B Gs gof n t ⟨rof, rk, rt⟩ true m w) := by
  have HT : Hid (takeF t ⟨rof, rk, rt⟩ true m = none) := takeF_no2 hm0 hk3
  have HB : Hid (∀ k, Below B w (((w.alloc (.cells #[.slice A nr cr, .int .i64 rk, .int .i64 rt] 33)).alloc (.cells #[.int .i64 m.num, .int .i64 m.den] 88)).drewN k)) := fun k => below_drewN (((Below.refl _ _).alloc hz _).alloc (by simp; omega) _) k
  have hk3b : (rk == 3) = false := by rw [beq_eq_false_iff_ne]; exact hk3
  clear hz
  go_enter Try.func49, Try.ntmps49
  go_wp2_with fail
  go_quiet (fail)
  go_wp2_with fail
  go_quiet (fail)
  go_wp2_with fail
  go_ret
  exact ⟨fun t' ht' => (by rw [HT.out] at ht'; cases ht'), fun _ => rfl, HB.out _⟩

set_option maxRecDepth 100000 in
set_option maxHeartbeats 2000000 in
theorem take_no2false (B Gs gof n : Nat) (t : SumD) (A : Option Addr) (nr cr : Nat) (rof : List Int) (rk rt : Int) (m : FracD) (w : World) (hz : B ≤ w.heap.size) (hm0 : m.num < 0) (hk3 : ¬ rk = 3) :
    Calls Try.prog 49 #[.pointer (some ⟨Gs, 0, none⟩), .agg #[.slice A nr cr, .int .i64 rk, .int .i64 rt], .bool false, .agg #[.int .i64 m.num, .int .i64 m.den]] w (TakeP B Gs gof n t ⟨rof, rk, rt⟩ false m w) := by
  have HT : Hid (takeF t ⟨rof, rk, rt⟩ false m = none) := takeF_no2 hm0 hk3
  have HB : Hid (∀ k, Below B w (((w.alloc (.cells #[.slice A nr cr, .int .i64 rk, .int .i64 rt] 33)).alloc (.cells #[.int .i64 m.num, .int .i64 m.den] 88)).drewN k)) := fun k => below_drewN (((Below.refl _ _).alloc hz _).alloc (by simp; omega) _) k
  have hk3b : (rk == 3) = false := by rw [beq_eq_false_iff_ne]; exact hk3
  clear hz
  go_enter Try.func49, Try.ntmps49
  go_wp2_with fail
  go_quiet (fail)
  go_wp2_with fail
  go_ret
  exact ⟨fun t' ht' => (by rw [HT.out] at ht'; cases ht'), fun _ => rfl, HB.out _⟩

theorem jtake_any (B Gs gof n : Nat) (t : SumD) (A : Option Addr) (nr cr : Nat) (r : RowD) (pos : Bool) (m : FracD) (w : World) (hs : SumM w B Gs gof n t) (hz : B ≤ w.heap.size) (hrow : IntsB w B A nr r.of_) (hok : RowOk n r) (hm : fracGood m.num m.den = true) (hn : n ≤ 1000) :
    Calls Try.prog 49 #[.pointer (some ⟨Gs, 0, none⟩), .agg #[.slice A nr cr, .int .i64 r.kind, .int .i64 r.to_], .bool pos, .agg #[.int .i64 m.num, .int .i64 m.den]] w (TakeP B Gs gof n t r pos m w) := by
  obtain ⟨tof, tto, tl⟩ := t
  obtain ⟨rof, rk, rt⟩ := r
  simp only at hrow ⊢
  by_cases hm0 : m.num < 0
  · by_cases hk : rk = 3
    · subst hk
      cases pos with
      | true => exact take_no1true B Gs gof n _ A nr cr rof rt m w hz
      | false => exact take_falseB B Gs gof n tof tto tl A nr cr rof rt m w hs hz hrow hok hm hn hm0
    · cases pos with
      | true => exact take_no2true B Gs gof n _ A nr cr rof rk rt m w hz hm0 hk
      | false => exact take_no2false B Gs gof n _ A nr cr rof rk rt m w hz hm0 hk
  · cases pos with
    | true =>
      by_cases hk : rk = 3
      · subst hk
        exact take_no1true B Gs gof n _ A nr cr rof rt m w hz
      · exact take_trueA B Gs gof n tof tto tl A nr cr rof rk rt m w hs hz hrow hok hm hn hm0 hk
    | false => exact take_falseA B Gs gof n tof tto tl A nr cr rof rk rt m w hs hz hrow hok hm hn hm0
end Go.Proofs.Ytdncchlfeanlmaa
