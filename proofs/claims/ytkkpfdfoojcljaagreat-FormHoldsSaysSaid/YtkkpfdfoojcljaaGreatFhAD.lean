/- The reference's whole numbers of any length, behind pointers: how they lie in memory; Sign. · The reference's whole numbers of any length: Set. · The reference's whole numbers of any length: trim. · The reference's whole numbers of any length: SetUint64, SetInt64, NewInt. -/
import Derived.Test.YtkkpfdfoojcljaaGreatLgGI
import Derived.Deep.QuietTactic
import Derived.BigQuiet
import Derived.Deep.RegionLaw
import Derived.Test.YtkkpfdfoojcljaaGreatOuOC
namespace Go.Proofs.YtkkpfdfoojcljaaGreat
open Go.RowKit

/-- the blocks that hold digits -/
def URow (w : World) : Nat → Prop := fun b => ∃ cs, Blk w b 110 cs
/-- the number z lies at cell o of block g -/
structure IntAt (w : World) (g o : Nat) (z : Int) (A : Option Addr) (n c : Nat) : Prop where
  head : ∃ t hs, Blk w g t hs ∧ t ≠ 110
  neg : w.cell? ⟨g, o, none⟩ = some (.bool (decide (z < 0)))
  row : w.cell? ⟨g, o + 1, none⟩ = some (.slice A n c)
  nc : n ≤ c
  cm : c ≤ maxLen
  digs : Arr AtU 1 w (URow w) A n (digN z.natAbs)
theorem urow_not {w : World} {g : Nat} {t : TypeId} {hs : Array Value} (h : Blk w g t hs) (ht : t ≠ 110) : ¬ URow w g := fun ⟨cs, hc⟩ => by
  unfold Blk at h hc
  rw [h] at hc
  injection hc with hc
  injection hc with _ h2 _
  exact ht h2
theorem URow.grown {w w' : World} {row : Option Nat} {b : Nat} (h : URow w b) (hg : w.grownBy w' row) (hr : ∀ x, row = some x → ¬ URow w x) : URow w' b := by
  obtain ⟨cs, hc⟩ := h
  exact ⟨cs, hc.grown hg (fun e => hr b e.symm ⟨cs, hc⟩)⟩
theorem digsT_grown {w w' : World} {row : Option Nat} {A : Option Addr} {n : Nat} {l : List Nat} (h : Arr AtU 1 w (URow w) A n l) (hg : w.grownBy w' row) (hr : ∀ x, row = some x → ¬ URow w x) : Arr AtU 1 w' (URow w') A n l :=
  h.keep stays_u (fun b hb => hb.grown hg hr) (fun b o hb => by
    obtain ⟨cs, hc⟩ := hb
    exact only_cell hg hc.lt (fun e => hr b e ⟨cs, hc⟩))
theorem IntAt.grown {w w' : World} {row : Option Nat} {g o : Nat} {z : Int} {A : Option Addr} {n c : Nat} (h : IntAt w g o z A n c) (hg : w.grownBy w' row) (hne : row ≠ some g) (hr : ∀ x, row = some x → ¬ URow w x) : IntAt w' g o z A n c := by
  obtain ⟨⟨t, hs, hk, ht⟩, h1, h2, h3, h4, h5⟩ := h
  exact ⟨⟨t, hs, hk.grown hg (fun e => hne e.symm), ht⟩, (only_cell hg hk.lt hne).trans h1, (only_cell hg hk.lt hne).trans h2, h3, h4, digsT_grown h5 hg hr⟩
theorem IntAt.lt {w : World} {g o : Nat} {z : Int} {A : Option Addr} {n c : Nat} (h : IntAt w g o z A n c) : g < w.heap.size := by
  obtain ⟨t, hs, hk, -⟩ := h.head
  exact hk.lt
theorem IntAt.zero {w : World} {g o : Nat} {z : Int} {A : Option Addr} {n c : Nat} (h : IntAt w g o z A n c) : n = 0 ↔ z = 0 := by
  have h1 := h.digs.len
  have h2 := digN_nil_iff z.natAbs
  constructor
  · intro e
    have := h2.1 (List.eq_nil_of_length_eq_zero (by omega))
    omega
  · intro e
    have e3 : digN z.natAbs = [] := h2.2 (by rw [e]; rfl)
    rw [e3] at h1
    exact h1.symm
def sgnI (z : Int) : Int := if z = 0 then 0 else if z < 0 then -1 else 1
set_option maxHeartbeats 1000000 in
theorem wSign_any (g o : Nat) (z : Int) (A : Option Addr) (n c : Nat) (w : World) (h : IntAt w g o z A n c) :
    Calls Tryz.prog 76 #[.pointer (some ⟨g, o, none⟩)] w fun e w' => e = .returned (.int .i64 (sgnI z)) ∧ w = w' := by
  have c0 := h.neg
  have c1 := h.row
  have hz := h.zero
  unfold sgnI
  by_cases h0 : z = 0
  · have hn : n = 0 := hz.2 h0
    subst hn
    rw [if_pos h0]
    clear hz h
    go_enter Tryz.func76, Tryz.ntmps76
    go_wp2_with fail
    go_ret
    exact ⟨rfl, rfl⟩
  · have hn : ((n : Int) == 0) = false := beq_eq_false_iff_ne.2 (by have := fun e => h0 (hz.1 e); omega)
    rw [if_neg h0]
    by_cases hs : z < 0
    · rw [if_pos hs]
      rw [decide_eq_true hs] at c0
      clear hz h
      go_enter Tryz.func76, Tryz.ntmps76
      go_wp2_with fail
      go_ret
      exact ⟨rfl, rfl⟩
    · rw [if_neg hs]
      rw [decide_eq_false hs] at c0
      clear hz h
      go_enter Tryz.func76, Tryz.ntmps76
      go_wp2_with fail
      go_ret
      exact ⟨rfl, rfl⟩
end Go.Proofs.YtkkpfdfoojcljaaGreat
namespace Go.Proofs.YtkkpfdfoojcljaaGreat
open Go.RowKit

/-- from w to w' the number z was put at cell o of block g: nothing else has changed but for new blocks -/
def Put (w w' : World) (g o : Nat) (z : Int) : Prop := w.grownBy w' (some g) ∧ ∃ (t : TypeId) (hs : Array Value) (A : Option Addr) (n c : Nat), Blk w g t hs ∧ t ≠ 110 ∧ o + 1 < hs.size ∧
  Blk w' g t ((hs.setIfInBounds o (.bool (decide (z < 0)))).setIfInBounds (o + 1) (.slice A n c)) ∧ n ≤ c ∧ c ≤ maxLen ∧ Arr AtU 1 w' (URow w') A n (digN z.natAbs)
theorem Put.at_ {w w' : World} {g o : Nat} {z : Int} (h : Put w w' g o z) : ∃ A n c, IntAt w' g o z A n c := by
  obtain ⟨-, t, hs, A, n, c, h1, h2, h3, h4, h5, h6, h7⟩ := h
  refine ⟨A, n, c, ⟨_, _, h4, h2⟩, ?_, ?_, h5, h6, h7⟩
  · rw [h4.cell, Array.getElem?_setIfInBounds_ne (by omega), Array.getElem?_setIfInBounds_self_of_lt (by omega)]
  · rw [h4.cell, Array.getElem?_setIfInBounds_self_of_lt (by simp; omega)]
theorem own_urow {w : World} {B : Nat} {v : Value} {l : List Nat} {S : Nat → Prop} {A : Option Addr} {n c : Nat} (h : OwnV VU 110 1 w B S v l) (hv : v = .slice A n c) (hS : ∀ b, S b → URow w b) : l.length = n ∧ n ≤ c ∧ c ≤ maxLen ∧ Arr AtU 1 w (URow w) A n l := by
  subst hv
  obtain ⟨A', c', e, h1, h2, h3⟩ := h.reads (E := AtU) tells_u atV_u (S' := URow w) hS (fun g hg => by
    obtain ⟨cells, hown, -⟩ := h
    rcases hown.2 with ⟨e, -⟩ | ⟨g', cap, cur, e, -, hh, -⟩
    · rw [e] at hg; cases hg
    · rw [e] at hg
      injection hg with hg
      subst hg
      exact ⟨cur, hh⟩)
  injection e with e1 e2 e3
  subst e1 e3
  rw [← e2] at h1 h3
  exact ⟨e2.symm, h1, h2, h3⟩
theorem u_atV : ∀ (w : World) (S : Nat → Prop) (b o : Nat) (x : Nat), AtU w S b o x → AtV VU w S b o x := fun w S b o x h => ⟨[.int .u32 (x : Int)], ⟨rfl, h.2⟩, fun j u hj => by
  rcases j with _ | j
  · simp only [List.getElem?_cons_zero, Option.some.injEq] at hj
    subst hj
    exact h.1
  · simp at hj⟩
theorem own_empty {w : World} {g base : Nat} (h : Blk w g 110 #[]) (hb : base ≤ g) (S : Nat → Prop) : OwnV VU 110 1 w base S (.slice (some ⟨g, 0, none⟩) 0 0) [] :=
  ⟨[], ⟨rfl, .inr ⟨g, 0, #[], rfl, hb, h, Nat.le_refl _, Nat.zero_le _, rfl, rfl⟩⟩, rfl⟩

theorem put_make {w w6 : World} {gz oz : Nat} {t : TypeId} {hs : Array Value} {x : Int} {A : Option Addr} {n c : Nat} (hk : Blk w gz t hs) (ht : t ≠ 110) (ho : oz + 1 < hs.size) (hb6 : Below w.heap.size w w6) (k6 : Blk w6 gz t hs) (hown : OwnV VU 110 1 w6 w.heap.size (URow w) (.slice A n c) (digN x.natAbs)) :
    Put w ((w6.setCell ⟨gz, oz, none⟩ (.bool (decide (x < 0)))).setCell ⟨gz, oz + 1, none⟩ (.slice A n c)) gz oz x := by
  obtain ⟨-, h1, h2, h3⟩ := own_urow hown rfl (fun b hb => hb.grown (only_of_below hb6 none) (fun x hx => by cases hx))
  have o6 := one_only (one_only (only_refl w6 (some gz)) oz (.bool (decide (x < 0)))) (oz + 1) (.slice A n c)
  exact ⟨one_only (one_only (only_of_below hb6 (some gz)) oz _) (oz + 1) _, t, hs, A, n, c, hk, ht, ho, (k6.set_ oz _).set_ (oz + 1) _, h1, h2, digsT_grown h3 o6 (fun x hx => by injection hx with hx; subst hx; exact urow_not k6 ht)⟩
section
variable {α : Type} {V : Val α} {sz : Nat} {w : World} {S : Nat → Prop} {e base : Nat} {v : Value} {xs : List α}
theorem step_append_manyW {P : Program} {ops : Array Oper} {o : Oper} {a : Act} {K : Act → World → Prop} {Q : Exit → Act → World → Prop} {E0 : Prop} (hgd : o.guard = none) (s x : Operand) (t : TypeId)
    (ho : o.op = .call { callee := .builtin .append, args := #[s, x], argTypes := #[t, t] }) {bytes : Nat} (T : RowT P t e sz bytes) (hV : Tells V sz)
    (hs : a.eval s = v) (hown : OwnV V e sz w base S v xs) {E : Ent α} (hE : ∀ w S b o x, E w S b o x → AtV V w S b o x) {A : Option Addr} {m c : Nat} {ys : List α} (hx : a.eval x = .slice A m c) (hys : Arr E sz w S A m ys)
    (hS : ∀ b, S b → b < w.heap.size ∧ v.ownBlock ≠ some b) (h63 : xs.length + m ≤ maxLen) (hbytes : (xs.length + m) * bytes ≤ 140737488355328) (hbase : base ≤ w.heap.size)
    (h : ∀ v' w', OwnV V e sz w' base S v' (xs ++ ys) → w.grownBy w' v.ownBlock → (v'.ownBlock = v.ownBlock ∨ v'.ownBlock = some w.heap.size) → K (a.put o.dst v') w') :
    if Region.wanted o (yielded ops a.tmps) = true then Oper.wp P o a w K Q else E0 := by
  have hw : Region.wanted o (yielded ops a.tmps) = true := by simp [Region.wanted, hgd]
  rw [if_pos hw]
  obtain ⟨v', w', hr, h2, h3, h5⟩ := run_append_many (P := P) (ty := o.type) (c := c) T hV hown hE hys hS h63 hbytes hbase
  unfold Oper.wp execOp
  simp only [ho, resolve, invoke, builtin, Sem.run_bind, Sem.run_pure, Result.andThen_ok, List.map_toArray, List.map_cons, List.map_nil, hs, hx, hr]
  exact h v' w' h2 h3 h5

end
set_option maxRecDepth 100000 in
set_option maxHeartbeats 4000000 in
theorem wSet_any (gz oz gx ox : Nat) (t : TypeId) (hs : Array Value) (x : Int) (A : Option Addr) (n c : Nat) (w : World) (hk : Blk w gz t hs) (ht : t ≠ 110) (ho : oz + 1 < hs.size) (h : IntAt w gx ox x A n c) (hn : n ≤ 1000000) :
    Calls Tryz.prog 73 #[.pointer (some ⟨gz, oz, none⟩), .pointer (some ⟨gx, ox, none⟩)] w fun e w' => e = .returned (.pointer (some ⟨gz, oz, none⟩)) ∧ Put w w' gz oz x := by
  have c0 := h.neg
  have c1 := h.row
  have hgx := h.lt
  have hgz := hk.lt
  have HH := Lib.hid h
  have HK := Lib.hid (And.intro hk (And.intro ht ho))
  have hxu : ¬ URow w gx := by obtain ⟨⟨t', hs', h1, h2⟩, -⟩ := h; exact urow_not h1 h2
  have hzu : ¬ URow w gz := urow_not hk ht
  have hlen : (digN x.natAbs).length = n := h.digs.len
  obtain ⟨u0, hu0⟩ : ∃ u, hs[oz]? = some u := ⟨hs[oz]'(by omega), Array.getElem?_eq_getElem _⟩
  obtain ⟨u1, hu1⟩ : ∃ u, hs[oz + 1]? = some u := ⟨hs[oz + 1]'(by omega), Array.getElem?_eq_getElem _⟩
  clear h hk ht ho
  go_enter Tryz.func73, Tryz.ntmps73
  go_wp2_with fail
  have hbY : Below w.heap.size w ((w.alloc (.cells #[] 110)).drew) := ((Below.refl _ _).alloc (Nat.le_refl _) _).drew
  have HBY := Lib.hid hbY
  have HOY := Lib.hid (own_empty (base := w.heap.size) (Blk.new w 110 #[]).drew (Nat.le_refl _) (URow w))
  have HAR : Hid (Arr AtU 1 ((w.alloc (.cells #[] 110)).drew) (URow w) A n (digN x.natAbs)) := HH.out.digs.keep stays_u (fun _ h => h) (fun b o hb => by obtain ⟨cs, hc⟩ := hb; exact hbY.cell (p := ⟨b, o, none⟩) hc.lt)
  clear hbY
  go_region_law (first
    | (refine step_append_manyW (by rfl) _ _ _ (by rfl) rowU tells_u (v := .slice (some ⟨w.heap.size, 0, none⟩) 0 0) (xs := []) (base := w.heap.size) (S := URow w) (by rfl) HOY.out (E := AtU) u_atV (A := A) (m := n) (c := c) (by rfl) HAR.out (fun b hb => by obtain ⟨cs, hc⟩ := hb; exact ⟨by have := hc.lt; have := HBY.out.size; omega, by have := hc.lt; simp [Value.ownBlock]; omega⟩) (by simp only [List.length_nil]; unfold maxLen; omega) (by simp only [List.length_nil]; omega) HBY.out.size ?_
       intro v' w6 hown6 hgrow6 hat6
       have hown7 : OwnV VU 110 1 w6 w.heap.size (URow w) v' (digN x.natAbs) := hown6
       obtain ⟨A6, c6, rfl, hc6, hc6m⟩ := hown7.len
       rw [hlen] at hown7 hc6 hat6 ⊢
       have hb6 : Below w.heap.size w w6 := below_then HBY.out hgrow6 HBY.out.size (fun x hx => (HOY.out.lt x hx).1)
       have k6 := HK.out.1.below hb6 hgz
       have f0 : w6.cell? ⟨gx, ox, none⟩ = some (.bool (decide (x < 0))) := (hb6.cell (p := ⟨gx, ox, none⟩) hgx).trans c0
       have f1 : w6.cell? ⟨gx, ox + 1, none⟩ = some (.slice A n c) := (hb6.cell (p := ⟨gx, ox + 1, none⟩) hgx).trans c1
       have y0 : w6.cell? ⟨gz, oz, none⟩ = some u0 := (k6.cell oz).trans hu0
       have y1 : w6.cell? ⟨gz, oz + 1, none⟩ = some u1 := (k6.cell (oz + 1)).trans hu1
       have z0 := k6.frozen oz
       have z1 := k6.frozen (oz + 1)
       have gz6 := k6.lt
       have H6 := Lib.hid (And.intro hown7 (And.intro hb6 (And.intro k6 (And.intro hc6 hc6m))))
       clear hown6 hown7 hgrow6 hat6 hb6 k6 hc6 hc6m)
    | fail)
  all_goals
    go_wp2_with fail
    go_ret
    exact ⟨rfl, put_make HK.out.1 HK.out.2.1 HK.out.2.2 H6.out.2.1 H6.out.2.2.1 H6.out.1⟩
end Go.Proofs.YtkkpfdfoojcljaaGreat
namespace Go.Proofs.YtkkpfdfoojcljaaGreat
open Go.RowKit

theorem digsT_get {w : World} {A : Option Addr} {n : Nat} {xs : List Nat} (h : Arr AtU 1 w (URow w) A n xs) {i : Nat} (hi : i < n) :
    ∃ (b off x : Nat), xs[i]? = some x ∧ A = some ⟨b, off, none⟩ ∧ URow w b ∧ w.cell? ⟨b, off + i, none⟩ = some (.int .u32 (x : Int)) ∧ x < 4294967296 := by
  obtain ⟨b, off, hx, e, hb, hc, h1⟩ := Arr.get h hi
  rw [Nat.mul_one] at hc
  exact ⟨b, off, xs[i], List.getElem?_eq_getElem hx, e, hb, hc, h1⟩
theorem digsT_digs {w : World} {A : Option Addr} {n : Nat} {xs : List Nat} (h : Arr AtU 1 w (URow w) A n xs) : Digs xs := fun x hx => by
  obtain ⟨i, hi, rfl⟩ := List.mem_iff_getElem.1 hx
  obtain ⟨b, off, y, e, -, -, -, hy⟩ := digsT_get h (i := i) (by rw [← h.len]; exact hi)
  rw [List.getElem?_eq_getElem hi] at e
  injection e with e
  rw [e]; exact hy
/-- the number of a sign and digits -/
def sgnD (s : Bool) (l : List Nat) : Int := if s = true then -(valL l : Int) else (valL l : Int)
theorem sgnD_abs (s : Bool) (l : List Nat) : (sgnD s l).natAbs = valL l := by unfold sgnD; split <;> omega
theorem sgnD_neg {s : Bool} {l : List Nat} (h : ¬ valL l = 0) : decide (sgnD s l < 0) = s := by
  unfold sgnD
  cases s
  · rw [if_neg (by simp), decide_eq_false (by omega)]
  · rw [if_pos rfl, decide_eq_true (by omega)]
/-- a header of its own: one whole number -/
structure Own1 (w : World) (g : Nat) (t : TypeId) (s : Bool) (A : Option Addr) (n c : Nat) (l : List Nat) : Prop where
  blk : Blk w g t #[.bool s, .slice A n c]
  ne : t ≠ 110
  nc : n ≤ c
  cm : c ≤ maxLen
  digs : Arr AtU 1 w (URow w) A n l
theorem put_own {w w' : World} {g : Nat} {t : TypeId} {s : Bool} {a0 b0 : Value} {A : Option Addr} {n c : Nat} {z : Int} (hk : Blk w g t #[a0, b0]) (ht : t ≠ 110) (hg : w.grownBy w' (some g)) (hk' : Blk w' g t #[.bool s, .slice A n c]) (hs : s = decide (z < 0)) (hnc : n ≤ c) (hc : c ≤ maxLen) (hd : Arr AtU 1 w' (URow w') A n (digN z.natAbs)) : Put w w' g 0 z :=
  ⟨hg, t, _, A, n, c, hk, ht, by simp, by rw [← hs]; exact hk', hnc, hc, hd⟩
theorem trim_put {w w' : World} {g : Nat} {t : TypeId} {s s' : Bool} {A : Option Addr} {n c k : Nat} {l : List Nat} (h : Own1 w g t s A n c l) (hk : k ≤ l.length) (hz : ∀ x ∈ l.drop k, x = 0) (hl : k = 0 ∨ ∃ x, l[k - 1]? = some x ∧ ¬ x = 0) (o1 : w.grownBy w' (some g)) (hk' : Blk w' g t #[.bool s', .slice A k c]) (hs : s' = if k = 0 then false else s) : Put w w' g 0 (sgnD s l) := by
  obtain ⟨h1, h2⟩ := trim_at (digsT_digs h.digs) hk hz hl
  rw [← h1] at h2
  have hln := h.digs.len
  have hd : digN (sgnD s l).natAbs = l.take k := by rw [sgnD_abs, h2]
  have hv0 : valL l = 0 ↔ k = 0 := by
    rw [h1, List.length_eq_zero_iff]
    exact (digN_nil_iff _).symm
  refine put_own h.blk h.ne o1 hk' ?_ (by have := h.nc; omega) h.cm ?_
  · rw [hs]
    by_cases h0 : k = 0
    · rw [if_pos h0]
      have := hv0.2 h0
      unfold sgnD
      rw [this]
      cases s <;> rfl
    · rw [if_neg h0]
      exact (sgnD_neg (fun e => h0 (hv0.1 e))).symm
  · rw [hd]
    exact digsT_grown (h.digs.take (by omega)) o1 (fun x hx => by injection hx with hx; subst hx; exact urow_not h.blk h.ne)
set_option maxHeartbeats 2000000 in
theorem wTrim_any (g : Nat) (t : TypeId) (s : Bool) (A : Option Addr) (n c : Nat) (l : List Nat) (w : World) (h : Own1 w g t s A n c l) :
    Calls Tryz.prog 75 #[.pointer (some ⟨g, 0, none⟩)] w fun e w' => e = .returned (.pointer (some ⟨g, 0, none⟩)) ∧ Put w w' g 0 (sgnD s l) := by
  have HL := Lib.hid h
  have hl := h.digs.len
  subst hl
  have c0 : w.cell? ⟨g, 0, none⟩ = some (.bool s) := h.blk.cell 0
  have c1 : w.cell? ⟨g, 1, none⟩ = some (.slice A l.length c) := h.blk.cell 1
  have f0 := h.blk.frozen 0
  have f1 := h.blk.frozen 1
  have hg := h.blk.lt
  have hnc := h.nc
  have hcm := h.cm
  unfold maxLen at hcm
  clear h
  go_enter Tryz.func75, Tryz.ntmps75
  go_wp2_with fail
  go_loopw [3] (fun s3 wr => ∃ (k : Nat), s3 = .int .i64 (k : Int) ∧ k ≤ l.length ∧ w = wr ∧ Hid (∀ x ∈ l.drop k, x = 0)) (fun s3 _ => (intOf s3).toNat)
  case atStart => exact ⟨l.length, rfl, Nat.le_refl _, rfl, by intro x hx; simp at hx⟩
  case round =>
    obtain ⟨k, rfl, hk, rfl, HZ⟩ := hrel
    rcases k with _ | k
    · go_wp2_with fail
      go_ret
      exact ⟨rfl, trim_put HL.out (Nat.zero_le _) HZ.out (.inl rfl) (one_only (one_only (only_refl _ _) 1 _) 0 _) ((HL.out.blk.set_ 1 _).set_ 0 _) (if_pos rfl).symm⟩
    · obtain ⟨b, off, x, hx, rfl, hb, hcell, hx32⟩ := digsT_get HL.out.digs (i := k) (by omega)
      by_cases hx0 : x = 0
      · subst hx0
        go_wp2_with fail
        go_roundw
        case rel => exact ⟨k, by go_num, by omega, trivial, by
          intro x hx'
          rw [drop_cons (by omega : k < l.length)] at hx'
          rcases List.mem_cons.1 hx' with rfl | h
          · rw [List.getElem?_eq_getElem (by omega)] at hx
            injection hx
          · exact HZ.out x h⟩
        case measure => simp [intOf]
      · have hxb : ((x : Int) == 0) = false := beq_eq_false_iff_ne.2 (by omega)
        go_wp2_with fail
        go_ret
        exact ⟨rfl, trim_put HL.out hk HZ.out (.inr ⟨x, hx, hx0⟩) (one_only (only_refl _ _) 1 _) (HL.out.blk.set_ 1 _) (if_neg (by omega)).symm⟩
end Go.Proofs.YtkkpfdfoojcljaaGreat
namespace Go.Proofs.YtkkpfdfoojcljaaGreat
open Go.RowKit

theorem Put.after {w w1 w' : World} {g : Nat} {z : Int} {t : TypeId} {a b a1 b1 : Value} (h1 : w.grownBy w1 (some g)) (hk : Blk w g t #[a, b]) (hk1 : Blk w1 g t #[a1, b1]) (h : Put w1 w' g 0 z) : Put w w' g 0 z := by
  obtain ⟨hg, t', hs, A, n, c, k1, k2, k3, k4, k5, k6, k7⟩ := h
  have e : hs = #[a1, b1] ∧ t' = t := by
    unfold Blk at hk1 k1
    rw [hk1] at k1
    injection k1 with k1
    injection k1 with e1 e2 _
    exact ⟨e1.symm, e2.symm⟩
  obtain ⟨rfl, rfl⟩ := e
  exact ⟨only_then h1 hg (fun x hx => .inr hx), t', _, A, n, c, hk, k2, by simp, k4, k5, k6, k7⟩
set_option maxRecDepth 100000 in
set_option maxHeartbeats 2000000 in
theorem wSetUint64_any (g : Nat) (t : TypeId) (a b : Value) (x : Nat) (w : World) (hk : Blk w g t #[a, b]) (ht : t ≠ 110) (hx : x < 18446744073709551616) :
    Calls Tryz.prog 93 #[.pointer (some ⟨g, 0, none⟩), .int .u64 (x : Int)] w fun e w' => e = .returned (.pointer (some ⟨g, 0, none⟩)) ∧ Put w w' g 0 (x : Int) := by
  have HK := Lib.hid (And.intro hk ht)
  have c0 := hk.cell 0
  have c1 := hk.cell 1
  simp only [List.getElem?_toArray, List.getElem?_cons_zero, List.getElem?_cons_succ] at c0 c1
  have f0 := hk.frozen 0
  have f1 := hk.frozen 1
  have hg := hk.lt
  clear hk ht
  go_enter Tryz.func93, Tryz.ntmps93
  go_wp2_with fail
  rw [show (x : Int) % 4294967296 = ((x % 4294967296 : Nat) : Int) by omega, show (x : Int) / 4294967296 = ((x / 4294967296 : Nat) : Int) by omega]
  obtain ⟨lo, hlo⟩ : ∃ lo, x % 4294967296 = lo := ⟨_, rfl⟩
  obtain ⟨hi, hhi⟩ : ∃ hi, x / 4294967296 = hi := ⟨_, rfl⟩
  rw [hlo, hhi]
  have hk2 : Blk (((w.setCell ⟨g, 0, none⟩ (.bool false)).setCell ⟨g, 1, none⟩ (.slice (some ⟨w.heap.size, 0, none⟩) 2 2)).alloc (.cells #[.int .u32 (lo : Int), .int .u32 (hi : Int)] 110)) w.heap.size 110 #[.int .u32 (lo : Int), .int .u32 (hi : Int)] := by
    have := Blk.new ((w.setCell ⟨g, 0, none⟩ (.bool false)).setCell ⟨g, 1, none⟩ (.slice (some ⟨w.heap.size, 0, none⟩) 2 2)) 110 #[.int .u32 (lo : Int), .int .u32 (hi : Int)]
    simpa only [World.size_setCell] using this
  have hkg : Blk (((w.setCell ⟨g, 0, none⟩ (.bool false)).setCell ⟨g, 1, none⟩ (.slice (some ⟨w.heap.size, 0, none⟩) 2 2)).alloc (.cells #[.int .u32 (lo : Int), .int .u32 (hi : Int)] 110)) g t #[.bool false, .slice (some ⟨w.heap.size, 0, none⟩) 2 2] := (two_blk HK.out.1 _ _).alloc _
  have hgr : w.grownBy (((w.setCell ⟨g, 0, none⟩ (.bool false)).setCell ⟨g, 1, none⟩ (.slice (some ⟨w.heap.size, 0, none⟩) 2 2)).alloc (.cells #[.int .u32 (lo : Int), .int .u32 (hi : Int)] 110)) (some g) := only_alloc (two_only w g (.bool false) _) _
  have hd : Arr AtU 1 _ (URow _) (some ⟨w.heap.size, 0, none⟩) 2 [lo, hi] := row_two tells_u atV_u hk2 (c0 := [.int .u32 (lo : Int)]) (c1 := [.int .u32 (hi : Int)]) rfl ⟨rfl, by omega⟩ ⟨rfl, by omega⟩ ⟨_, hk2⟩
  have hv : sgnD false [lo, hi] = (x : Int) := by
    unfold sgnD
    rw [if_neg (by simp)]
    simp only [valL]
    omega
  have HT := wTrim_any g t false (some ⟨w.heap.size, 0, none⟩) 2 2 [lo, hi] _ ⟨hkg, HK.out.2, Nat.le_refl _, by decide, hd⟩
  rw [hv] at HT
  have HG := Lib.hid (And.intro hgr hkg)
  clear hd hgr hkg hk2 hv c0 c1 f0 f1
  refine HT.mono ?_
  rintro e w' ⟨rfl, hp⟩
  have HP := Lib.hid (Put.after HG.out.1 HK.out.1 HG.out.2 hp)
  clear hp HT
  go_wp2_with fail
  go_ret
  exact ⟨rfl, HP.out⟩
set_option maxRecDepth 100000 in
set_option maxHeartbeats 2000000 in
theorem wSetInt64_any (g : Nat) (t : TypeId) (a b : Value) (x : Int) (w : World) (hk : Blk w g t #[a, b]) (ht : t ≠ 110) (hx : I64 x) :
    Calls Tryz.prog 74 #[.pointer (some ⟨g, 0, none⟩), .int .i64 x] w fun e w' => e = .returned (.pointer (some ⟨g, 0, none⟩)) ∧ Put w w' g 0 x := by
  unfold I64 at hx
  have HK := Lib.hid (And.intro hk ht)
  by_cases h0 : x < 0
  · obtain ⟨y, rfl⟩ : ∃ y : Nat, x = -(y : Int) := ⟨x.natAbs, by omega⟩
    have HC := Lib.hid (wSetUint64_any g t a b y w hk ht (by omega))
    have hw : IntKind.u64.wrap (-IntKind.u64.wrap (-(y : Int))) = (y : Int) := by rw [IntKind.wrap_u64, IntKind.wrap_u64]; omega
    clear hk ht
    go_enter Tryz.func74, Tryz.ntmps74
    go_wp2_with fail
    refine HC.out.mono ?_
    rintro e w' ⟨rfl, hp⟩
    obtain ⟨hg, t', hs, A, n, c, k1, k2, k3, k4, k5, k6, k7⟩ := hp
    have e : hs = #[a, b] ∧ t' = t := by
      have h1 := HK.out.1
      unfold Blk at h1 k1
      rw [h1] at k1
      injection k1 with k1
      injection k1 with e1 e2 _
      exact ⟨e1.symm, e2.symm⟩
    obtain ⟨rfl, rfl⟩ := e
    have k4' : Blk w' g t' #[.bool (decide ((y : Int) < 0)), .slice A n c] := k4
    have c0 : w'.cell? ⟨g, 0, none⟩ = some (.bool (decide ((y : Int) < 0))) := k4'.cell 0
    have f0 := k4'.frozen 0
    have hgl := k4'.lt
    have HP := Lib.hid (And.intro hg (And.intro k1 (And.intro k2 (And.intro k4' (And.intro k5 (And.intro k6 k7))))))
    clear hg k1 k2 k3 k4 k4' k5 k6 k7
    go_wp2_with fail
    go_ret
    have o1 := one_only (only_refl w' (some g)) 0 (.bool true)
    exact ⟨rfl, put_own HP.out.2.1 HP.out.2.2.1 (only_then HP.out.1 o1 (fun x hx => .inr hx)) (HP.out.2.2.2.1.set_ 0 _) (decide_eq_true h0).symm HP.out.2.2.2.2.1 HP.out.2.2.2.2.2.1 (by
      rw [Int.natAbs_neg]
      exact digsT_grown HP.out.2.2.2.2.2.2 o1 (fun x hx => by injection hx with hx; subst hx; exact urow_not HP.out.2.2.2.1 HP.out.2.2.1))⟩
  · obtain ⟨y, rfl⟩ := Int.eq_ofNat_of_zero_le (show 0 ≤ x by omega)
    have HC := Lib.hid (wSetUint64_any g t a b y w hk ht (by omega))
    have hw : IntKind.u64.wrap (y : Int) = (y : Int) := by rw [IntKind.wrap_u64]; omega
    clear hk ht
    go_enter Tryz.func74, Tryz.ntmps74
    go_wp2_with fail
    refine HC.out.mono ?_
    rintro e w' ⟨rfl, hp⟩
    have HP := Lib.hid hp
    clear hp
    go_wp2_with fail
    go_ret
    exact ⟨rfl, HP.out⟩
/-- a new number at g -/
def Made (w w' : World) (g : Nat) (z : Int) : Prop := Below w.heap.size w w' ∧ w.heap.size ≤ g ∧ ∃ (A : Option Addr) (n c : Nat), Own1 w' g 72 (decide (z < 0)) A n c (digN z.natAbs)
theorem Put.made {w w0 w' : World} {g : Nat} {z : Int} {a b : Value} (h : Put w0 w' g 0 z) (hk : Blk w0 g 72 #[a, b]) (hb : Below w.heap.size w w0) (hg : w.heap.size ≤ g) : Made w w' g z := by
  obtain ⟨h1, t, hs, A, n, c, k1, k2, k3, k4, k5, k6, k7⟩ := h
  have e : hs = #[a, b] ∧ t = 72 := by
    unfold Blk at hk k1
    rw [hk] at k1
    injection k1 with k1
    injection k1 with e1 e2 _
    exact ⟨e1.symm, e2.symm⟩
  obtain ⟨rfl, rfl⟩ := e
  exact ⟨below_then hb h1 hb.size (fun x hx => by injection hx with hx; omega), hg, A, n, c, k4, k2, k5, k6, k7⟩
set_option maxHeartbeats 2000000 in
theorem newInt_any (x : Int) (w : World) (hx : I64 x) :
    Calls Tryz.prog 52 #[.int .i64 x] w fun e w' => ∃ g, e = .returned (.pointer (some ⟨g, 0, none⟩)) ∧ Made w w' g x := by
  have hk := Blk.new w 72 #[.bool false, .slice none 0 0]
  have HC := Lib.hid (wSetInt64_any w.heap.size 72 _ _ x _ hk (by decide) hx)
  have HK := Lib.hid hk
  clear hk
  go_enter Tryz.func52, Tryz.ntmps52
  go_wp2_with fail
  refine HC.out.mono ?_
  rintro e w' ⟨rfl, hp⟩
  have HP := Lib.hid (hp.made HK.out ((Below.refl _ _).alloc (Nat.le_refl _) _) (Nat.le_refl _))
  clear hp
  go_wp2_with fail
  go_ret
  exact ⟨_, rfl, HP.out⟩
end Go.Proofs.YtkkpfdfoojcljaaGreat
