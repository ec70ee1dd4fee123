/- Walk: the law JudgeMore (printed by genJuB3.py). -/
import Derived.Test.YthjfiomcpihlaaaJuTS
import Derived.Test.YthjfiomcpihlaaaJuEP
import Derived.Test.YthjfiomcpihlaaaKfB
import Derived.Deep.RegionLaw
namespace Go.Proofs.Ythjfiomcpihlaaa
open Go.RowKit

section
variable {α : Type} {V : Val α} {sz : Nat} {w : World} {S : Nat → Prop} {e base : Nat} {v : Value} {xs : List α}
theorem step_append_some {P : Program} {ops : Array Oper} {o : Oper} {a : Act} {K : Act → World → Prop} {Q : Exit → Act → World → Prop} {E0 : Prop} (hgd : o.guard = none) (s x : Operand) (t : TypeId)
    (ho : o.op = .call { callee := .builtin .append, args := #[s, x], argTypes := #[t, t] }) {bytes : Nat} (T : RowT P t e sz bytes) (hV : Tells V sz)
    (hs : a.eval s = v) (hown : OwnV V e sz w base S v xs) {E : Ent α} (hE : ∀ w S b o x, E w S b o x → AtV V w S b o x) {A : Option Addr} {m c : Nat} {ys : List α} (hx : a.eval x = .slice A m c) (hys : Arr E sz w S A m ys)
    (hS : ∀ b, S b → b < w.heap.size ∧ v.ownBlock ≠ some b) (h63 : xs.length + m ≤ maxLen) (hbytes : (xs.length + m) * bytes ≤ 140737488355328) (hbase : base ≤ w.heap.size)
    (h : ∀ v' w', OwnV V e sz w' base S v' (xs ++ ys) → w.grownBy w' v.ownBlock → (v'.ownBlock = v.ownBlock ∨ v'.ownBlock = some w.heap.size) → K (a.put o.dst v') w') :
    if Region.wanted o (yielded ops a.tmps) = true then Oper.wp P o a w K Q else E0 := by
  have hw : Region.wanted o (yielded ops a.tmps) = true := by simp [Region.wanted, hgd]
  rw [if_pos hw]
  obtain ⟨v', w', hr, h2, h3, h5⟩ := run_append_many (P := P) (ty := o.type) (c := c) T hV hown hE hys hS h63 hbytes hbase
  unfold Oper.wp execOp
  simp only [ho, resolve, invoke, builtin, Sem.run_bind, Sem.run_pure, Result.andThen_ok, List.map_toArray, List.map_cons, List.map_nil, hs, hx, hr]
  exact h v' w' h2 h3 h5
/-- a literal of one thing, as a row of the call's own -/
theorem own_one {g : Nat} {cs : Array Value} {x : α} (hV : Tells V sz) (hk : w.heap[g]? = some (.cells cs e (0, 0))) (hx : V w S cs.toList x) (hb : base ≤ g) : OwnV V e sz w base S (.slice (some ⟨g, 0, none⟩) 1 1) [x] := by
  have hl := hV.len _ _ _ _ hx
  refine ⟨cs.toList, ⟨by simpa using hl, .inr ⟨g, 1, cs, rfl, hb, hk, by simp, by decide, by simp only [Array.length_toList] at hl; simp [hl], ?_⟩⟩, Cels.single hx⟩
  simp only [List.length_singleton, Nat.one_mul]
  rw [← hl, List.take_length]
end
theorem more_law {F : FormD} {l : List StepD} {c : List Int} {q qa m ma : Int} (h1 : whyJ F l = (q, 0, qa)) (h2 : whyJ ⟨F.terms, F.ints, F.atoms, c :: F.clauses⟩ l = (m, 0, ma)) (hq : q = -1) : m = -1 := by
  obtain ⟨_, _, _, e1⟩ := whyJ_fine (F := F) (l := l) (by rw [h1])
  obtain ⟨_, _, _, e2⟩ := whyJ_fine (F := ⟨F.terms, F.ints, F.atoms, c :: F.clauses⟩) (l := l) (by rw [h2])
  rw [h1] at e1
  rw [h2] at e2
  dsimp only at e1 e2
  rw [e2]
  exact runJ_more l ⟨F.atoms, F.clauses⟩ ⟨F.atoms, c :: F.clauses⟩ 0 (by omega) ⟨rfl, srtI c, List.Perm.refl _⟩ (e1.symm.trans hq)

set_option maxRecDepth 100000 in
set_option maxHeartbeats 8000000 in
theorem judgeMore_any (A1 A2 A3 A4 : Option Addr) (n1 c1 n2 c2 n3 c3 n4 c4 : Nat) (F : FormD) (A : Option Addr) (n c : Nat) (l : List StepD) (cl : Int) (w : World) (hF : FormB w w.heap.size A1 A2 A3 A4 n1 n2 n3 n4 F) (hc1 : n1 ≤ c1) (hc3 : n3 ≤ c3) (hc3m : c3 ≤ maxLen)
    (hl : ArrB AtStep 9 w w.heap.size A n l) (hcl : I64 cl) :
    Calls Try.prog 6 #[.agg #[.slice A1 n1 c1, .slice A2 n2 c2, .slice A3 n3 c3, .slice A4 n4 c4], .slice A n c, .int .i64 cl] w fun e w' => e = .returned (.bool true) ∧ Below w.heap.size w w' := by
  rcases hR : whyJ F l with ⟨q, qc, qa⟩
  have hb0 : Below w.heap.size w (w.alloc (.cells #[.slice A1 n1 c1, .slice A2 n2 c2, .slice A3 n3 c3, .slice A4 n4 c4] 27)) := (Below.refl _ _).alloc (Nat.le_refl _) _
  have hk0 := Blk.new w 27 #[.slice A1 n1 c1, .slice A2 n2 c2, .slice A3 n3 c3, .slice A4 n4 c4]
  have HC := Lib.hid (fun (W : World) (hbW : Below w.heap.size w W) => take_any A1 A2 A3 A4 n1 c1 n2 c2 n3 c3 n4 c4 F A n c l q qc qa W (hF.below hbW hbW.size) hc1 hc3 hc3m (hl.below stays_step hbW hbW.size) hR)
  have m3 := hF.m3
  have m4 := hF.m4
  have HF := Lib.hid (And.intro hF (And.intro hc1 (And.intro hc3 (And.intro hc3m (And.intro hl (And.intro hR hcl))))))
  have HW := Lib.hid (And.intro hb0 hk0)
  clear hF hl hR hb0 hk0 hc1 hc3 hc3m hcl
  go_enter Try.func6, Try.ntmps6
  go_wp2_with fail
  refine (HC.out _ HW.out.1).mono ?_
  rintro e w1 ⟨rfl, hb1⟩
  have hbw1 : Below w.heap.size w w1 := HW.out.1.trans (hb1.mono (by simp))
  have k1 : Blk w1 w.heap.size 27 #[.slice A1 n1 c1, .slice A2 n2 c2, .slice A3 n3 c3, .slice A4 n4 c4] := HW.out.2.below hb1 (by simp)
  have e0 : w1.cell? ⟨w.heap.size, 0, none⟩ = some (.slice A1 n1 c1) := k1.cell 0
  have e1 : w1.cell? ⟨w.heap.size, 1, none⟩ = some (.slice A2 n2 c2) := k1.cell 1
  have e2 : w1.cell? ⟨w.heap.size, 2, none⟩ = some (.slice A3 n3 c3) := k1.cell 2
  have e3 : w1.cell? ⟨w.heap.size, 3, none⟩ = some (.slice A4 n4 c4) := k1.cell 3
  have z0 : w.heap.size < w1.heap.size := k1.lt
  obtain ⟨X, hX⟩ : ∃ X, ((w1.alloc (.cells #[.int .i64 qc, .int .i64 qa] 29)).alloc (.cells #[.slice A1 n1 c1, .slice A2 n2 c2, .slice A3 n3 c3, .slice A4 n4 c4] 27)) = X := ⟨_, rfl⟩
  have hs := lay_size [(29, #[.int .i64 qc, .int .i64 qa]), (27, #[.slice A1 n1 c1, .slice A2 n2 c2, .slice A3 n3 c3, .slice A4 n4 c4])] w1
  have hbx := lay_below [(29, #[.int .i64 qc, .int .i64 qa]), (27, #[.slice A1 n1 c1, .slice A2 n2 c2, .slice A3 n3 c3, .slice A4 n4 c4])] w1
  have hkx := fun i t c h => lay_blk [(29, #[.int .i64 qc, .int .i64 qa]), (27, #[.slice A1 n1 c1, .slice A2 n2 c2, .slice A3 n3 c3, .slice A4 n4 c4])] w1 i t c h
  rw [show lay w1 [(29, #[.int .i64 qc, .int .i64 qa]), (27, #[.slice A1 n1 c1, .slice A2 n2 c2, .slice A3 n3 c3, .slice A4 n4 c4])] = X from hX] at hs hbx hkx
  simp only [List.length_cons, List.length_nil] at hs
  have hbX : Below w.heap.size w X := hbw1.trans (hbx.mono hbw1.size)
  have kX := k1.below hbx z0
  have HX := Lib.hid hX
  have H := Lib.hid (And.intro hbX (And.intro kX (And.intro (hkx 0 _ _ rfl) (hkx 1 _ _ rfl))))
  have hsX : w1.heap.size + 2 = X.heap.size := hs.symm
  clear hX hs hbx hkx hbX kX hb1 hbw1 k1 HC HW
  have g2 : X.cell? ⟨w.heap.size, 2, none⟩ = some (.slice A3 n3 c3) := H.out.2.1.cell 2
  have g3 : X.cell? ⟨w.heap.size, 3, none⟩ = some (.slice A4 n4 c4) := H.out.2.1.cell 3
  have zX : w.heap.size < X.heap.size := H.out.2.1.lt
  have zX1 : w1.heap.size + 1 < X.heap.size := by omega
  go_upto_region 3 with fail
  rw [HX.out]
  clear HX e0 e1 e2 e3
  by_cases hz : n3 = 0
  · subst hz
    go_wp2_with fail
    refine (judgeSure_any _).mono ?_
    rintro e w5 ⟨rfl, hb5⟩
    have HB5 := Lib.hid (H.out.1.trans (hb5.mono H.out.1.size))
    clear hb5
    go_wp2_with fail
    go_ret
    exact ⟨rfl, HB5.out⟩
  · have hz3 : ((n3 : Int) == 0) = false := by rw [beq_eq_false_iff_ne]; omega
    by_cases h4 : 400 ≤ n4
    · have h4I : (400 : Int) ≤ (n4 : Int) := by omega
      go_wp2_with fail
      refine (judgeSure_any _).mono ?_
      rintro e w5 ⟨rfl, hb5⟩
      have HB5 := Lib.hid (H.out.1.trans (hb5.mono H.out.1.size))
      clear hb5
      go_wp2_with fail
      go_ret
      exact ⟨rfl, HB5.out⟩
    · have h4I : ¬ (400 : Int) ≤ (n4 : Int) := by omega
      have HCO := Lib.hid (clauseOf_any cl (n3 : Int) X.drew HF.out.2.2.2.2.2.2 (by omega) (by omega))
      go_upto_region 5 with fail
      go_region_law (first
        | (go_simp
           go_at_call 15
           refine HCO.out.mono ?_
           rintro e w5 ⟨vc, ks, rfl, hown, hlits, hb5⟩
           have hol := hown.lt
           obtain ⟨A5, c5, rfl, h5c, h5m, har⟩ := OwnV.reads (E := AtInt) tells_int (fun _ _ _ _ _ h => atV_int.1 h) hown (S' := fun b => X.heap.size ≤ b ∧ b < w5.heap.size) (fun b h => False.elim h) (fun g hg => hol g hg)
           have hbX5 : Below X.heap.size X w5 := below_of_drew hb5
           have kF5 : Blk w5 w.heap.size 27 #[.slice A1 n1 c1, .slice A2 n2 c2, .slice A3 n3 c3, .slice A4 n4 c4] := H.out.2.1.below hbX5 zX
           have kf5 : Blk w5 w1.heap.size 29 #[.int .i64 qc, .int .i64 qa] := H.out.2.2.1.below hbX5 (by omega)
           have kg5 : Blk w5 (w1.heap.size + 1) 27 #[.slice A1 n1 c1, .slice A2 n2 c2, .slice A3 n3 c3, .slice A4 n4 c4] := H.out.2.2.2.below hbX5 zX1
           have x3 : w5.cell? ⟨w.heap.size, 3, none⟩ = some (.slice A4 n4 c4) := kF5.cell 3
           have zx3 : w.heap.size < w5.heap.size := kF5.lt
           have zx4 : w1.heap.size + 1 < w5.heap.size := kg5.lt
           have H5 := Lib.hid (And.intro har (And.intro h5c (And.intro h5m (And.intro hlits (And.intro (H.out.1.trans (hbX5.mono H.out.1.size)) (And.intro kf5 kg5))))))
           clear hown hlits hb5 hol h5c h5m har hbX5 kF5 kf5 kg5)
        | (go_loud (refine step_append_some (by rfl) _ _ _ (by rfl) rowLits (tells_arr stays_int) (v := .slice (some ⟨w5.heap.size, 0, none⟩) 1 1) (xs := [ks]) (base := w5.heap.size) (S := fun b => b < w5.heap.size ∧ b ≠ w1.heap.size + 1) (by rfl) (own_one (tells_arr stays_int) (heap_alloc_new w5 _) (varr_of (H5.out.1.keep stays_int (fun b h => ⟨h.2, by omega⟩) (fun b o hb => (only_cell (row := none) (only_alloc (only_refl w5 none) _) hb.2 (by simp)))) H5.out.2.1 H5.out.2.2.1) (Nat.le_refl _)) (fun _ _ _ _ _ h => atV_arr.2 h) (A := A4) (m := n4) (c := c4) (by rfl) ((HF.out.1.clauses.below (stays_arr stays_int) (H5.out.2.2.2.2.1.alloc H5.out.2.2.2.2.1.size _) (Nat.le_refl _)).keep (stays_arr stays_int) (fun b hb => ⟨by have := H5.out.2.2.2.2.1.size; omega, by omega⟩) (fun _ _ _ => rfl)) (fun b hb => ⟨by have := hb.1; simp; omega, by intro e; have := hb.1; have e' : some w5.heap.size = some b := e; injection e' with e'; omega⟩) (by simp; unfold maxLen; omega) (by simp; omega) (by simp) ?_)
           intro v6 w6 hown6 hgrow6 hat6
           obtain ⟨A6, c6, rfl, h6c, h6m⟩ := hown6.len
           have hl6 : ([ks] ++ F.clauses).length = n4 + 1 := by rw [List.length_append, HF.out.1.clauses.len, List.length_singleton]; omega
           rw [hl6] at hown6 hat6 h6c ⊢
           have hg6 : (w5.alloc (.cells #[.slice A5 ks.length c5] 31)).heap.size ≤ w6.heap.size := hgrow6.size
           have kf6 : Blk w6 w1.heap.size 29 #[.int .i64 qc, .int .i64 qa] := (H5.out.2.2.2.2.2.1.alloc _).grown hgrow6 (by intro e; have e' : some w1.heap.size = some w5.heap.size := e; injection e' with e'; omega)
           have kg6 : Blk w6 (w1.heap.size + 1) 27 #[.slice A1 n1 c1, .slice A2 n2 c2, .slice A3 n3 c3, .slice A4 n4 c4] := (H5.out.2.2.2.2.2.2.alloc _).grown hgrow6 (by intro e; have e' : some (w1.heap.size + 1) = some w5.heap.size := e; injection e' with e'; omega)
           have y3 : w6.cell? ⟨w1.heap.size + 1, 3, none⟩ = some (.slice A4 n4 c4) := kg6.cell 3
           have y4 : w6.frozen? ⟨w1.heap.size + 1, 3, none⟩ = false := kg6.frozen 3
           have y5 : w1.heap.size + 1 < w6.heap.size := kg6.lt
           have H6 := Lib.hid (And.intro hown6 (And.intro hgrow6 (And.intro hat6 (And.intro kf6 (And.intro kg6 (And.intro h6c h6m))))))
           clear hown6 hgrow6 hat6 h6c h6m hg6 kf6 kg6 hl6)
        | fail)
      all_goals
        obtain ⟨Z, hZ⟩ : ∃ Z, w6.setCell ⟨w1.heap.size + 1, 3, none⟩ (.slice A6 (n4 + 1) c6) = Z := ⟨_, rfl⟩
        have hset : w6.grownBy Z (some (w1.heap.size + 1)) := by rw [← hZ]; exact set_grown w6 _ 3 _
        have hz6 := H6.out.2.1.size
        have hb5w := H5.out.2.2.2.2.1
        have hb6 : Below w.heap.size w w6 := below_then (hb5w.alloc hb5w.size _) H6.out.2.1 (by have := hb5w.size; simp; omega) (fun x hx => by have e' : some w5.heap.size = some x := hx; injection e' with e'; have := hb5w.size; omega)
        have hbZ : Below w.heap.size w Z := below_then hb6 hset hb6.size (fun x hx => by injection hx with hx; omega)
        have hownZ := H6.out.1.kept (tells_arr stays_int) (S' := fun b => b < Z.heap.size) hset (by
          rcases H6.out.2.2.1 with e | e
          · rw [e]; exact .inr (by intro e2; have e' : some w5.heap.size = some (w1.heap.size + 1) := e2; injection e' with e'; omega)
          · rw [e]; exact .inr (by intro e2; injection e2 with e'; simp at e'; omega)) (fun b hb => ⟨by have := hset.size; have := hb.1; simp at hz6; omega, by have := hb.1; simp at hz6; omega, by intro e2; injection e2 with e2; exact hb.2 e2.symm⟩)
        obtain ⟨A8, c8, e8, -, -, harZ⟩ := hownZ.reads (tells_arr stays_int) (E := AtArr AtInt 1) (S' := fun b => b < Z.heap.size) (fun _ _ _ _ _ h => atV_arr.1 h) (fun _ h => h) (fun g hg => (hownZ.lt g hg).2)
        have hl6 : ([ks] ++ F.clauses).length = n4 + 1 := by rw [List.length_append, HF.out.1.clauses.len, List.length_singleton]; omega
        injection e8 with e1 e2 e3
        subst e1
        clear e2 e3
        rw [hl6] at harZ
        have hFZ : FormB Z Z.heap.size A1 A2 A3 A6 n1 n2 n3 (n4 + 1) ⟨F.terms, F.ints, F.atoms, ks :: F.clauses⟩ := ⟨HF.out.1.terms.below stays_term hbZ hbZ.size, HF.out.1.ints.below stays_bool hbZ hbZ.size, HF.out.1.atoms.below stays_atom hbZ hbZ.size, harZ, HF.out.1.m1, HF.out.1.m2, HF.out.1.m3, by omega⟩
        have kfZ : Blk Z w1.heap.size 29 #[.int .i64 qc, .int .i64 qa] := H6.out.2.2.2.1.grown hset (by intro e; injection e with e; omega)
        have kgZ : Blk Z (w1.heap.size + 1) 27 #[.slice A1 n1 c1, .slice A2 n2 c2, .slice A3 n3 c3, .slice A6 (n4 + 1) c6] := by rw [← hZ]; exact H6.out.2.2.2.2.1.set_ 3 _
        rcases hR2 : whyJ ⟨F.terms, F.ints, F.atoms, ks :: F.clauses⟩ l with ⟨m, mc, ma⟩
        have HC2 := Lib.hid (take_any A1 A2 A3 A6 n1 c1 n2 c2 n3 c3 (n4 + 1) c6 ⟨F.terms, F.ints, F.atoms, ks :: F.clauses⟩ A n c l m mc ma Z hFZ HF.out.2.1 HF.out.2.2.1 HF.out.2.2.2.1 (HF.out.2.2.2.2.1.below stays_step hbZ hbZ.size) hR2)
        have HM := Lib.hid (fun (h1 : qc = 0) (h2 : mc = 0) => more_law (F := F) (l := l) (c := ks) (q := q) (qa := qa) (m := m) (ma := ma) (by rw [HF.out.2.2.2.2.2.1, h1]) (by rw [hR2, h2]))
        have HZ := Lib.hid (And.intro hbZ kfZ)
        have HZZ := Lib.hid hZ
        have r0 : Z.cell? ⟨w1.heap.size + 1, 0, none⟩ = some (.slice A1 n1 c1) := kgZ.cell 0
        have r1 : Z.cell? ⟨w1.heap.size + 1, 1, none⟩ = some (.slice A2 n2 c2) := kgZ.cell 1
        have r2 : Z.cell? ⟨w1.heap.size + 1, 2, none⟩ = some (.slice A3 n3 c3) := kgZ.cell 2
        have r3 : Z.cell? ⟨w1.heap.size + 1, 3, none⟩ = some (.slice A6 (n4 + 1) c6) := kgZ.cell 3
        have zf : w1.heap.size < Z.heap.size := kfZ.lt
        clear hZ hset hz6 hb5w hb6 hbZ hownZ harZ hl6 hFZ kfZ kgZ hR2 H6 H5 x3 y3 y4 y5 g2 g3 HCO
        go_upto_region 6 with fail
        rw [HZZ.out]
        clear HZZ
        go_wp2_with fail
        refine HC2.out.mono ?_
        rintro e w7 ⟨rfl, hb7⟩
        have kf7 := HZ.out.2.below hb7 zf
        have s0 : w7.cell? ⟨w1.heap.size, 0, none⟩ = some (.int .i64 qc) := kf7.cell 0
        have zf7 : w1.heap.size < w7.heap.size := kf7.lt
        have HB7 := Lib.hid (HZ.out.1.trans (hb7.mono HZ.out.1.size))
        clear hb7 kf7 r0 r1 r2 r3 HC2
        by_cases hqc : qc = 0
        · subst hqc
          by_cases hmc : mc = 0
          · subst hmc
            by_cases hq : q = -1
            · have hm := HM.out rfl rfl hq
              have hqd : decide (q = -1) = true := by simp [hq]
              have hmd : decide (m = -1) = true := by simp [hm]
              go_wp2_with fail
              refine (judgeSure_any _).mono ?_
              rintro e w8 ⟨rfl, hb8⟩
              have HB8 : Hid (Below w.heap.size w w8) := (HB7.out.alloc HB7.out.size _).trans (hb8.mono (by have := HB7.out.size; simp; omega))
              clear hb8
              go_wp2_with fail
              go_ret
              exact ⟨rfl, HB8.out⟩
            · have hqd : decide (q = -1) = false := by simp [hq]
              go_wp2_with fail
              refine (judgeSure_any _).mono ?_
              rintro e w8 ⟨rfl, hb8⟩
              have HB8 : Hid (Below w.heap.size w w8) := (HB7.out.alloc HB7.out.size _).trans (hb8.mono (by have := HB7.out.size; simp; omega))
              clear hb8
              go_wp2_with fail
              go_ret
              exact ⟨rfl, HB8.out⟩
          · have hmb : (mc != 0) = true := by simpa using hmc
            clear hmc
            go_wp2_with fail
            refine (judgeSure_any _).mono ?_
            rintro e w8 ⟨rfl, hb8⟩
            have HB8 : Hid (Below w.heap.size w w8) := (HB7.out.alloc HB7.out.size _).trans (hb8.mono (by have := HB7.out.size; simp; omega))
            clear hb8
            go_wp2_with fail
            go_ret
            exact ⟨rfl, HB8.out⟩
        · have hqb : (qc != 0) = true := by simpa using hqc
          clear hqc
          go_wp2_with fail
          refine (judgeSure_any _).mono ?_
          rintro e w8 ⟨rfl, hb8⟩
          have HB8 : Hid (Below w.heap.size w w8) := (HB7.out.alloc HB7.out.size _).trans (hb8.mono (by have := HB7.out.size; simp; omega))
          clear hb8
          go_wp2_with fail
          go_ret
          exact ⟨rfl, HB8.out⟩
end Go.Proofs.Ythjfiomcpihlaaa
