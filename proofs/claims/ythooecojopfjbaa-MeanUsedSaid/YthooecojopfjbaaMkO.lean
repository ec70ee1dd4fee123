/- Plain: nodes that are put behind a made ask's: De Morgan's and the conditional's law. No program is named here. -/
import Derived.Test.YthooecojopfjbaaMkPQ
import Derived.Test.YthooecojopfjbaaKitFH
import Derived.Test.YthooecojopfjbaaKSame
namespace Go.Proofs.Ythooecojopfjbaa
open Go.RowKit

theorem valuesF_no {ds : List DeclD} {ms : List MeaningD} {ss : List Int} : ∀ (l : List NodeD) (i : Nat) (out : List ValueD), ¬ (valuesF ds ms ss l i out).2.1 = 0 → (valuesF ds ms ss l i out).1 = [] ∧ (valuesF ds ms ss l i out).2.1 = 10
  | [], i, out, h => absurd rfl h
  | x :: r, i, out, h => by
    rw [valuesF] at h ⊢
    cases hv : valF ds ms x (bitsF (ss.getD i 0) (kidSorts ss x)) (kidVals out x) with
    | none => exact ⟨rfl, rfl⟩
    | some v =>
      rw [hv] at h
      exact valuesF_no r (i + 1) _ h
theorem valuesF_len {ds : List DeclD} {ms : List MeaningD} {ss : List Int} : ∀ (l : List NodeD) (i : Nat) (out : List ValueD), (valuesF ds ms ss l i out).2.1 = 0 → (valuesF ds ms ss l i out).1.length = out.length + l.length
  | [], i, out, _ => rfl
  | x :: r, i, out, h => by
    rw [valuesF] at h ⊢
    cases hv : valF ds ms x (bitsF (ss.getD i 0) (kidSorts ss x)) (kidVals out x) with
    | none => rw [hv] at h; simp at h
    | some v =>
      rw [hv] at h
      have := valuesF_len r (i + 1) (out ++ [v]) h
      rw [this]
      simp; omega
theorem valuesF_app {ds : List DeclD} {ms : List MeaningD} {ss : List Int} : ∀ (l k : List NodeD) (i : Nat) (out : List ValueD), (valuesF ds ms ss (l ++ k) i out).2.1 = 0 →
    (valuesF ds ms ss l i out).2.1 = 0 ∧ valuesF ds ms ss (l ++ k) i out = valuesF ds ms ss k (i + l.length) (valuesF ds ms ss l i out).1
  | [], k, i, out, _ => ⟨rfl, rfl⟩
  | x :: r, k, i, out, h => by
    rw [List.cons_append] at h ⊢
    rw [valuesF] at h ⊢
    rw [valuesF]
    cases hv : valF ds ms x (bitsF (ss.getD i 0) (kidSorts ss x)) (kidVals out x) with
    | none => rw [hv] at h; simp at h
    | some v =>
      rw [hv] at h
      obtain ⟨h1, h2⟩ := valuesF_app r k (i + 1) (out ++ [v]) h
      refine ⟨h1, ?_⟩
      show valuesF ds ms ss (r ++ k) (i + 1) (out ++ [v]) = _
      rw [h2, List.length_cons, show i + 1 + r.length = i + (r.length + 1) by omega]
theorem valuesF_cons {ds : List DeclD} {ms : List MeaningD} {ss : List Int} {x : NodeD} {r : List NodeD} {i : Nat} {out : List ValueD} {v : ValueD} (h : ∀ b, valF ds ms x b (kidVals out x) = some v) : valuesF ds ms ss (x :: r) i out = valuesF ds ms ss r (i + 1) (out ++ [v]) := by
  rw [valuesF, h]

section
variable {ds : List DeclD} {ms : List MeaningD} {v : List ValueD} {k : List Int} {b : Int}
theorem valF_not : valF ds ms (opN 3 k 0 0) b v = some (bitV (!isOne (kidV v 0))) := by simp [valF, valX, opN]
theorem valF_and : valF ds ms (opN 4 k 0 0) b v = some (bitV (!v.any isZero)) := by simp [valF, valX, opN]
theorem valF_or : valF ds ms (opN 5 k 0 0) b v = some (bitV (v.any isOne)) := by simp [valF, valX, opN]
theorem valF_iff : valF ds ms (opN 6 k 0 0) b v = some (bitV (isOne (kidV v 0) == isOne (kidV v 1))) := by simp [valF, valX, opN]
theorem valF_pick : valF ds ms (opN 7 k 0 0) b v = some (if isOne (kidV v 0) = true then kidV v 1 else kidV v 2) := by simp [valF, valX, opN]
theorem valF_name {c : UInt8} : valF ds ms (nameN c) b v = some (toldF v (meanAt ms ds (nameC c)).rest (meanAt ms ds (nameC c)).rows) := by simp [valF, valX, nameN]
end
theorem kidVals_op {out : List ValueD} {op n d : Int} {l : List Nat} : kidVals out (opN op (kidsZ l) n d) = l.map (kidV out) := by simp [kidVals, opN, kidsZ]
theorem kidV_old {out l : List ValueD} {k : Nat} (h : k < out.length) : kidV (out ++ l) k = kidV out k := by
  rw [kidV, kidV, List.getD_eq_getElem?_getD, List.getD_eq_getElem?_getD, List.getElem?_append_left h]
theorem kidV_new {out l : List ValueD} {N j : Nat} (h : out.length = N) : kidV (out ++ l) (N + j) = kidV l j := by
  rw [kidV, kidV, List.getD_eq_getElem?_getD, List.getD_eq_getElem?_getD, List.getElem?_append_right (by omega)]
  congr 2; omega
theorem at_new {ss l : List Int} {N j : Nat} (h : ss.length = N) : (ss ++ l)[N + j]? = l[j]? := by
  rw [List.getElem?_append_right (by omega)]
  congr 1; omega
theorem at_old {ss l : List Int} {k : Nat} {s : Int} (h : ss[k]? = some s) : (ss ++ l)[k]? = some s := by
  rw [List.getElem?_append_left (List.getElem?_eq_some_iff.1 h).1, h]

def morganN (N x y : Nat) : List NodeD := [opN 4 (kidsZ [x, y]) 0 0, opN 3 (kidsZ [N + 0]) 0 0, opN 3 (kidsZ [x]) 0 0, opN 3 (kidsZ [y]) 0 0, opN 5 (kidsZ [N + 2, N + 3]) 0 0, opN 6 (kidsZ [N + 1, N + 4]) 0 0]
def pickN (N x y : Nat) : List NodeD := [nameN 112, opN 7 (kidsZ [N + 0, x, y]) 0 0, opN 4 (kidsZ [N + 0, x]) 0 0, opN 3 (kidsZ [N + 0]) 0 0, opN 4 (kidsZ [N + 3, y]) 0 0, opN 5 (kidsZ [N + 2, N + 4]) 0 0, opN 6 (kidsZ [N + 1, N + 5]) 0 0]

theorem mk_more {ns : List NodeD} {ss : List Int} {l : List NodeD} {t : List Int} {x : NodeD} {s : Int} (h : Mk (ns ++ l) (ss ++ t)) (hx : ∀ i, (ss ++ t).length = i → nodeF declsK i (ss ++ t) x = (s, 0)) : Mk (ns ++ (l ++ [x])) (ss ++ (t ++ [s])) := by
  rw [← List.append_assoc, ← List.append_assoc]
  exact h.put (hx _ h.len)
theorem morgan_mk {ns : List NodeD} {ss : List Int} {x y : Nat} (hM : Mk ns ss) (hx : ss[x]? = some 1) (hy : ss[y]? = some 1) : Mk (ns ++ morganN ns.length x y) (ss ++ [1, 1, 1, 1, 1, 1]) := by
  have hl := hM.len
  have h0 : Mk (ns ++ []) (ss ++ []) := by simpa using hM
  have h1 := mk_more h0 (fun i hi => mk_junction (n := 2) hi (Has.cons (at_old hx) (Has.one (at_old hy))) (by omega) (.inl rfl))
  have h2 := mk_more h1 (fun i hi => mk_not hi (Has.one ((at_new (j := 0) hl).trans rfl)))
  have h3 := mk_more h2 (fun i hi => mk_not hi (Has.one (at_old hx)))
  have h4 := mk_more h3 (fun i hi => mk_not hi (Has.one (at_old hy)))
  have h5 := mk_more h4 (fun i hi => mk_junction (n := 2) hi (Has.cons ((at_new (j := 2) hl).trans rfl) (Has.one ((at_new (j := 3) hl).trans rfl))) (by omega) (.inr rfl))
  exact mk_more h5 (fun i hi => mk_iff hi (Has.cons ((at_new (j := 1) hl).trans rfl) (Has.one ((at_new (j := 4) hl).trans rfl))))
theorem pick_mk {ns : List NodeD} {ss : List Int} {x y : Nat} (hM : Mk ns ss) (hx : ss[x]? = some 1) (hy : ss[y]? = some 1) : Mk (ns ++ pickN ns.length x y) (ss ++ [1, 1, 1, 1, 1, 1, 1]) := by
  have hl := hM.len
  have h0 : Mk (ns ++ []) (ss ++ []) := by simpa using hM
  have h1 := mk_more h0 (fun i hi => leaf_p hi)
  have hn : ∀ {l : List Int}, l[0]? = some 1 → (ss ++ l)[ns.length + 0]? = some 1 := fun h => (at_new (j := 0) hl).trans h
  have h2 := mk_more h1 (fun i hi => mk_pick (s := 1) hi (Has.cons (hn rfl) (Has.cons (at_old hx) (Has.one (at_old hy)))) (.inl rfl))
  have h3 := mk_more h2 (fun i hi => mk_junction (n := 2) hi (Has.cons (hn rfl) (Has.one (at_old hx))) (by omega) (.inl rfl))
  have h4 := mk_more h3 (fun i hi => mk_not hi (Has.one (hn rfl)))
  have h5 := mk_more h4 (fun i hi => mk_junction (n := 2) hi (Has.cons ((at_new (j := 3) hl).trans rfl) (Has.one (at_old hy))) (by omega) (.inl rfl))
  have h6 := mk_more h5 (fun i hi => mk_junction (n := 2) hi (Has.cons ((at_new (j := 2) hl).trans rfl) (Has.one ((at_new (j := 4) hl).trans rfl))) (by omega) (.inr rfl))
  exact mk_more h6 (fun i hi => mk_iff hi (Has.cons ((at_new (j := 1) hl).trans rfl) (Has.one ((at_new (j := 5) hl).trans rfl))))

/-- what is to be shown of the values of nodes put behind, where there are values -/
theorem put_law {ns mm : List NodeD} {ss tt : List Int} {ms : List MeaningD} {f : ValueD → Prop} {j : Nat} (hM : Mk (ns ++ mm) (ss ++ tt)) (hs : ss.length = ns.length) (hn : ns.length + mm.length ≤ 200) (hm : MeansOk declsK ms)
    (h : ∀ out : List ValueD, out.length = ns.length → GoodTo (ss ++ tt) out → ∀ r, (∀ k v, r[k]? = some v → goodV (tt.getD k 0) v = true) → valuesF declsK ms (ss ++ tt) mm ns.length out = (out ++ r, 0, 0) → f (kidV r j)) :
    ∃ vs, valuedF (meanValF ⟨declsK, ns ++ mm, []⟩ ms) (ns ++ mm).length = (vs, true) ∧ (vs = [] ∨ (vs.length = ns.length + mm.length ∧ f (kidV vs (ns.length + j)))) := by
  have hso := mk_sorts hM (H := []) (by rw [List.length_append]; exact hn) (by simp) (by simp)
  have h0 : (sortsF ⟨declsK, ns ++ mm, []⟩).2.1 = 0 := by rw [hso]
  have e : meanValF ⟨declsK, ns ++ mm, []⟩ ms = valuesF declsK ms (ss ++ tt) (ns ++ mm) 0 [] := by
    rw [meanValF, means_zero h0 hm, if_neg (by simp), hso]
  rw [e]
  by_cases hz : (valuesF declsK ms (ss ++ tt) (ns ++ mm) 0 []).2.1 = 0
  · have hg := valuesF_good h0 hm (ns ++ mm) 0 [] (by simp) rfl (GoodTo.nil _) (by rw [hso]; exact hz)
    rw [hso] at hg
    obtain ⟨h1, h2⟩ := valuesF_app ns mm 0 [] hz
    have hl := valuesF_len ns 0 [] h1
    rw [List.length_nil, Nat.zero_add] at hl
    rw [Nat.zero_add] at h2
    generalize (valuesF declsK ms (ss ++ tt) ns 0 []).1 = out at h2 hl
    rw [h2] at hz hg ⊢
    obtain ⟨hg1, hg2⟩ := hg
    have hpre : ∀ (l : List NodeD) (i : Nat) (o : List ValueD), (valuesF declsK ms (ss ++ tt) l i o).2.1 = 0 → ∃ r, valuesF declsK ms (ss ++ tt) l i o = (o ++ r, 0, 0) := by
      intro l
      induction l with
      | nil => intro i o _; exact ⟨[], by simp [valuesF]⟩
      | cons x q ih =>
        intro i o ho
        rw [valuesF] at ho ⊢
        cases hv : valF declsK ms x (bitsF ((ss ++ tt).getD i 0) (kidSorts (ss ++ tt) x)) (kidVals o x) with
        | none => rw [hv] at ho; simp at ho
        | some v =>
          rw [hv] at ho
          obtain ⟨r, hr⟩ := ih (i + 1) (o ++ [v]) ho
          refine ⟨v :: r, ?_⟩
          show valuesF declsK ms (ss ++ tt) q (i + 1) (o ++ [v]) = _
          rw [hr]; simp
    obtain ⟨r, hr⟩ := hpre mm ns.length out hz
    rw [hr] at hg1 hg2 ⊢
    have hlen : (out ++ r).length = (ns ++ mm).length := by rw [hg2]; simp
    refine ⟨out ++ r, by rw [valuedF, if_neg (by simp), hlen]; simp, .inr ⟨by rw [hlen, List.length_append], ?_⟩⟩
    rw [kidV_new hl]
    refine h out hl (fun k v hk => hg1 k v ?_) r (fun k v hk => ?_) hr
    · rw [List.getElem?_append_left (List.getElem?_eq_some_iff.1 hk).1, hk]
    · have h9 := hg1 (ns.length + k) v (by rw [List.getElem?_append_right (by omega), ← hk]; congr 1; omega)
      rwa [List.getD_eq_getElem?_getD, at_new hs, ← List.getD_eq_getElem?_getD] at h9
  · obtain ⟨h1, h2⟩ := valuesF_no (ns ++ mm) 0 [] hz
    exact ⟨[], by rw [valuedF, if_pos ⟨h2, by rw [h1]; rfl⟩], .inl rfl⟩
theorem good_old {ss tt : List Int} {out : List ValueD} {N x : Nat} (hg : GoodTo (ss ++ tt) out) (hl : out.length = N) (hs : ss.length = N) (hx : ss[x]? = some 1) : kidV out x = numV 0 ∨ kidV out x = numV 1 := by
  have h1 : x < out.length := by have := (List.getElem?_eq_some_iff.1 hx).1; omega
  have h2 := hg x _ (List.getElem?_eq_getElem h1)
  rw [List.getD_eq_getElem?_getD, at_old hx] at h2
  have h3 : kidV out x = out[x] := by rw [kidV, List.getD_eq_getElem?_getD, List.getElem?_eq_getElem h1]; rfl
  rw [h3]
  exact goodV_bool h2
theorem app2 (out : List ValueD) (a b : ValueD) : out ++ [a] ++ [b] = out ++ [a, b] := by simp
theorem morgan_law {ns : List NodeD} {ss : List Int} {x y : Nat} {ms : List MeaningD} (hM : Mk ns ss) (hx : ss[x]? = some 1) (hy : ss[y]? = some 1) (hn : ns.length ≤ 120) (hm : MeansOk declsK ms) :
    ∃ vs, valuedF (meanValF ⟨declsK, ns ++ morganN ns.length x y, []⟩ ms) (ns ++ morganN ns.length x y).length = (vs, true) ∧ (vs = [] ∨ (vs.length = ns.length + 6 ∧ (kidV vs (ns.length + 5)).num = 1)) := by
  have hs := hM.len
  refine put_law (f := fun v => v.num = 1) (j := 5) (morgan_mk hM hx hy) hs (by show ns.length + 6 ≤ 200; omega) hm fun out hl hg r hgr hr => ?_
  have hx1 : x < out.length := by have := (List.getElem?_eq_some_iff.1 hx).1; omega
  have hy1 : y < out.length := by have := (List.getElem?_eq_some_iff.1 hy).1; omega
  rw [morganN, valuesF_cons (fun b => valF_and), valuesF_cons (fun b => valF_not), valuesF_cons (fun b => valF_not), valuesF_cons (fun b => valF_not), valuesF_cons (fun b => valF_or), valuesF_cons (fun b => valF_iff), valuesF] at hr
  simp only [Prod.mk.injEq, and_true, List.append_assoc, List.cons_append, List.nil_append, List.append_cancel_left_eq] at hr
  subst hr
  simp only [kidVals_op, List.map_cons, List.map_nil, kidV_new hl, kidV_old hx1, kidV_old hy1]
  rcases good_old hg hl hs hx with e1 | e1 <;> rcases good_old hg hl hs hy with e2 | e2 <;> rw [e1, e2] <;> rfl
theorem pick_law {ns : List NodeD} {ss : List Int} {x y : Nat} {ms : List MeaningD} (hM : Mk ns ss) (hx : ss[x]? = some 1) (hy : ss[y]? = some 1) (hn : ns.length ≤ 120) (hm : MeansOk declsK ms) :
    ∃ vs, valuedF (meanValF ⟨declsK, ns ++ pickN ns.length x y, []⟩ ms) (ns ++ pickN ns.length x y).length = (vs, true) ∧ (vs = [] ∨ (vs.length = ns.length + 7 ∧ (kidV vs (ns.length + 6)).num = 1)) := by
  have hs := hM.len
  refine put_law (f := fun v => v.num = 1) (j := 6) (pick_mk hM hx hy) hs (by show ns.length + 7 ≤ 200; omega) hm fun out hl hg r hgr hr => ?_
  have hx1 : x < out.length := by have := (List.getElem?_eq_some_iff.1 hx).1; omega
  have hy1 : y < out.length := by have := (List.getElem?_eq_some_iff.1 hy).1; omega
  rw [pickN, valuesF_cons (fun b => valF_name)] at hr
  generalize toldF (kidVals out (nameN 112)) (meanAt ms declsK (nameC 112)).rest (meanAt ms declsK (nameC 112)).rows = p at hr
  rw [valuesF_cons (fun b => valF_pick), valuesF_cons (fun b => valF_and), valuesF_cons (fun b => valF_not), valuesF_cons (fun b => valF_and), valuesF_cons (fun b => valF_or), valuesF_cons (fun b => valF_iff), valuesF] at hr
  simp only [Prod.mk.injEq, and_true, List.append_assoc, List.cons_append, List.nil_append, List.append_cancel_left_eq] at hr
  subst hr
  have hp := goodV_bool (hgr 0 p rfl)
  simp only [kidVals_op, List.map_cons, List.map_nil, kidV_new hl, kidV_old hx1, kidV_old hy1]
  rcases hp with rfl | rfl <;> rcases good_old hg hl hs hx with e1 | e1 <;> rcases good_old hg hl hs hy with e2 | e2 <;> rw [e1, e2] <;> rfl
end Go.Proofs.Ythooecojopfjbaa
