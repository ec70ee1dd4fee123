/- Plain: the meanings of names that no used node mentions say nothing of what holds. No program is named here. · Walk: the law MeanUsed. -/
import Derived.Test.YthooecojopfjbaaMkO
import Derived.Test.YthooecojopfjbaaHold
import Derived.Test.YthooecojopfjbaaAskYZ
import Derived.Test.YthooecojopfjbaaMkJ
import Derived.Deep.RegionHeld3
import Derived.BigQuiet
namespace Go.Proofs.Ythooecojopfjbaa
open Go.RowKit

theorem valF_same {ds : List DeclD} {ms ms' : List MeaningD} {x : NodeD} (b : Int) (v : List ValueD) (h : x.op = 9 → meanAt ms ds x.name = meanAt ms' ds x.name) : valF ds ms x b v = valF ds ms' x b v := by
  by_cases h9 : x.op = 9
  · rw [valF, valF, h h9]
  · rw [valF, valF]
    unfold valX
    simp only [if_neg h9]
theorem drop_at {α : Type} {ns r : List α} {i : Nat} {x : α} (h : ns.drop i = x :: r) : ns[i]? = some x ∧ ns.drop (i + 1) = r := by
  constructor
  · have := List.getElem?_drop (xs := ns) (i := i) (j := 0)
    rw [h] at this
    simpa using this.symm
  · rw [← List.drop_drop, h]; rfl
theorem kidV_at {o : List ValueD} {a : ValueD} {j i : Nat} (hl : o.length = i) : kidV (o ++ [a]) j = if j < i then kidV o j else if j = i then a else kidV [] 0 := by
  unfold kidV
  by_cases h1 : j < i
  · rw [if_pos h1, List.getD_eq_getElem?_getD, List.getElem?_append_left (by omega), ← List.getD_eq_getElem?_getD]
  · rw [if_neg h1, List.getD_eq_getElem?_getD, List.getElem?_append_right (by omega)]
    by_cases h2 : j = i
    · rw [if_pos h2, h2, hl, Nat.sub_self]; rfl
    · rw [if_neg h2, List.getElem?_eq_none (by simp; omega)]; rfl

theorem vals_agree {ds : List DeclD} {ms ms' : List MeaningD} {ss : List Int} {ns : List NodeD} {F : List Bool} (hlow : KidsLow ns) (hcl : ∀ a, a < ns.length → F.getD a false = true → ∀ k ∈ kidsAt ns a, F.getD k.toNat false = true)
    (hag : ∀ j x, F.getD j false = true → ns[j]? = some x → x.op = 9 → meanAt ms ds x.name = meanAt ms' ds x.name) :
    ∀ (l : List NodeD) (i : Nat) (o o' vs vs' : List ValueD) (q q' : Int), ns.drop i = l → o.length = i → o'.length = i → (∀ j, j < i → F.getD j false = true → kidV o j = kidV o' j) →
      valuesF ds ms ss l i o = (vs, 0, q) → valuesF ds ms' ss l i o' = (vs', 0, q') → ∀ j, j < ns.length → F.getD j false = true → kidV vs j = kidV vs' j := by
  intro l
  induction l with
  | nil =>
    intro i o o' vs vs' q q' hd h1 h2 hk e1 e2 j hj hF
    rw [valuesF, Prod.mk.injEq] at e1 e2
    rw [← e1.1, ← e2.1]
    exact hk j (by have := List.drop_eq_nil_iff.1 hd; omega) hF
  | cons x r ih =>
    intro i o o' vs vs' q q' hd h1 h2 hk e1 e2
    obtain ⟨hx, hr⟩ := drop_at hd
    have hi : i < ns.length := (List.getElem?_eq_some_iff.1 hx).1
    rw [valuesF] at e1 e2
    generalize hb : bitsF (ss.getD i 0) (kidSorts ss x) = b at e1 e2
    cases ha : valF ds ms x b (kidVals o x) with
    | none => rw [ha] at e1; simp at e1
    | some u =>
      cases hc : valF ds ms' x b (kidVals o' x) with
      | none => rw [hc] at e2; simp at e2
      | some u' =>
        rw [ha] at e1
        rw [hc] at e2
        refine ih (i + 1) (o ++ [u]) (o' ++ [u']) vs vs' q q' hr (by simp [h1]) (by simp [h2]) (fun j hj hF => ?_) e1 e2
        rw [kidV_at h1, kidV_at h2]
        by_cases hji : j < i
        · rw [if_pos hji, if_pos hji]; exact hk j hji hF
        · obtain rfl : j = i := by omega
          rw [if_neg hji, if_neg hji, if_pos rfl, if_pos rfl]
          have hkid : kidVals o x = kidVals o' x := by
            unfold kidVals
            refine List.map_congr_left fun k hk2 => hk _ ?_ ?_
            · have := hlow j x hx k hk2; omega
            · exact hcl j hi hF k (by rw [kidsAt, hx]; exact hk2)
          rw [hkid, valF_same b _ (hag j x hF hx)] at ha
          exact Option.some.inj (ha.symm.trans hc)

/-- the marks of the used nodes -/
def usedM (ns : List NodeD) (H : List Int) : List Bool := downM ns ns.length (markAll H (List.replicate ns.length false))
theorem usedM_len (ns : List NodeD) (H : List Int) : (usedM ns H).length = ns.length := by rw [usedM, downM_len, markAll_len, List.length_replicate]
theorem usedM_closed {ns : List NodeD} (H : List Int) (hl : KidsLow ns) : ∀ a, a < ns.length → (usedM ns H).getD a false = true → ∀ k ∈ kidsAt ns a, (usedM ns H).getD k.toNat false = true := fun a ha hF k hk =>
  downM_closed hl ns.length _ a ha hF k hk (by rw [markAll_len, List.length_replicate]; have := kidsAt_low hl hk; omega)
theorem usedM_hold {ns : List NodeD} {H : List Int} (hh : ∀ k ∈ H, 0 ≤ k ∧ k < (ns.length : Int)) {k : Int} (hk : k ∈ H) : (usedM ns H).getD k.toNat false = true :=
  (downM_le ns ns.length _).2 _ ((markAll_get H _ _).2 (.inr ⟨by rw [List.length_replicate]; have := hh k hk; omega, k, hk, rfl⟩))

theorem valuesF_code {ds : List DeclD} {ms : List MeaningD} {ss : List Int} (l : List NodeD) (i : Nat) (out : List ValueD) : (valuesF ds ms ss l i out).2.1 = 0 ∨ (valuesF ds ms ss l i out).2.1 = 10 := by
  by_cases h : (valuesF ds ms ss l i out).2.1 = 0
  · exact .inl h
  · exact .inr (valuesF_no l i out h).2
theorem holdsF_eq {ns : List NodeD} {ss H : List Int} {ms : List MeaningD} (hs : sortsF ⟨declsK, ns, H⟩ = (ss, 0, 0)) (hm : MeansOk declsK ms) :
    meanHoldsF ⟨declsK, ns, H⟩ ms = if ¬ (valuesF declsK ms ss ns 0 []).2.1 = 0 then (false, (valuesF declsK ms ss ns 0 []).2) else (!(H.any fun k => isZero (kidV (valuesF declsK ms ss ns 0 []).1 k.toNat)), 0, 0) := by
  have h0 : (sortsF ⟨declsK, ns, H⟩).2.1 = 0 := by rw [hs]
  have e : meanValF ⟨declsK, ns, H⟩ ms = valuesF declsK ms ss ns 0 [] := by
    rw [meanValF, means_zero h0 hm, if_neg (by simp), hs]
  rw [meanHoldsF, e]
theorem holds_agree {ns : List NodeD} {ss H : List Int} {ms ms' : List MeaningD} (hs : sortsF ⟨declsK, ns, H⟩ = (ss, 0, 0)) (hm : MeansOk declsK ms) (hm' : MeansOk declsK ms')
    (hag : ∀ j x, (usedM ns H).getD j false = true → ns[j]? = some x → x.op = 9 → meanAt ms declsK x.name = meanAt ms' declsK x.name) :
    ∃ (b b' : Bool) (q p q' p' : Int), meanHoldsF ⟨declsK, ns, H⟩ ms = (b, q, p) ∧ meanHoldsF ⟨declsK, ns, H⟩ ms' = (b', q', p') ∧ (q = 0 ∨ q = 10) ∧ (q' = 0 ∨ q' = 10) ∧ (q = 0 → q' = 0 → b = b') := by
  obtain ⟨-, -, hlow, hhold, -, -, -⟩ := sortsF_ok (a := ⟨declsK, ns, H⟩) (by rw [hs])
  replace hlow : KidsLow ns := hlow
  replace hhold : ∀ k ∈ H, 0 ≤ k ∧ k < (ns.length : Int) := hhold
  rw [holdsF_eq hs hm, holdsF_eq hs hm']
  rcases hv : valuesF declsK ms ss ns 0 [] with ⟨vs, q, p⟩
  rcases hv' : valuesF declsK ms' ss ns 0 [] with ⟨vs', q', p'⟩
  have c1 : q = 0 ∨ q = 10 := by have := valuesF_code (ds := declsK) (ms := ms) (ss := ss) ns 0 []; rw [hv] at this; exact this
  have c2 : q' = 0 ∨ q' = 10 := by have := valuesF_code (ds := declsK) (ms := ms') (ss := ss) ns 0 []; rw [hv'] at this; exact this
  dsimp only
  by_cases h1 : q = 0 <;> by_cases h2 : q' = 0
  · subst h1 h2
    refine ⟨_, _, _, _, _, _, if_neg (by simp), if_neg (by simp), .inl rfl, .inl rfl, fun _ _ => ?_⟩
    have hk := vals_agree hlow (usedM_closed H hlow) hag ns 0 [] [] vs vs' p p' rfl rfl rfl (fun j hj => absurd hj (Nat.not_lt_zero _)) hv hv'
    congr 1
    have he : ∀ k ∈ H, isZero (kidV vs k.toNat) = isZero (kidV vs' k.toNat) := fun k hkH => by
      have h3 : 0 ≤ k ∧ k < (ns.length : Int) := hhold k hkH
      rw [hk k.toNat (by omega) (usedM_hold hhold hkH)]
    clear hag hhold hs hk
    induction H with
    | nil => rfl
    | cons k r ih => rw [List.any_cons, List.any_cons, he k (List.mem_cons_self ..), ih (fun k hk => he k (List.mem_cons_of_mem _ hk))]
  · subst h1
    exact ⟨_, _, _, _, _, _, if_neg (by simp), if_pos h2, .inl rfl, c2, fun _ h => absurd h h2⟩
  · subst h2
    exact ⟨_, _, _, _, _, _, if_pos h1, if_neg (by simp), c1, .inl rfl, fun h _ => absurd h h1⟩
  · exact ⟨_, _, _, _, _, _, if_pos h1, if_pos h2, c1, c2, fun h _ => absurd h h1⟩

/-- the second meanings, where those of used names are the first ones: those of the d declarations ahead, and of the one behind them by the i nodes ahead -/
structure Mixed (ns : List NodeD) (F : List Bool) (v w m : List MeaningD) (d i : Nat) : Prop where
  len : m.length = 14
  or_ : ∀ k : Nat, m[k]? = w[k]? ∨ m[k]? = v[k]?
  tied : ∀ (k : Nat) (e : DeclD), declsK[k]? = some e → ∀ (j : Nat) (x : NodeD), k < d ∨ (k = d ∧ j < i) → F.getD j false = true → ns[j]? = some x → x.op = 9 → x.name.toList = e.name.toList → m[k]? = v[k]?
theorem Mixed.start {ns : List NodeD} {F : List Bool} {v w : List MeaningD} (h : w.length = 14) : Mixed ns F v w w 0 0 :=
  ⟨h, fun _ => .inl rfl, fun k e _ j x h => by omega⟩
theorem Mixed.next {ns : List NodeD} {F : List Bool} {v w m : List MeaningD} {d n : Nat} (h : Mixed ns F v w m d n) (hn : ns.length ≤ n) : Mixed ns F v w m (d + 1) 0 :=
  ⟨h.len, h.or_, fun k e he j x hk hF hx => h.tied k e he j x (by have := (List.getElem?_eq_some_iff.1 hx).1; omega) hF hx⟩
theorem Mixed.skip {ns : List NodeD} {F : List Bool} {v w m : List MeaningD} {d i : Nat} (h : Mixed ns F v w m d i) (hno : ∀ e x, declsK[d]? = some e → ns[i]? = some x → F.getD i false = true → x.op = 9 → ¬ x.name.toList = e.name.toList) : Mixed ns F v w m d (i + 1) :=
  ⟨h.len, h.or_, fun k e he j x hk hF hx h9 hn => by
    by_cases hj : k < d ∨ (k = d ∧ j < i)
    · exact h.tied k e he j x hj hF hx h9 hn
    · obtain rfl : k = d := by omega
      obtain rfl : j = i := by omega
      exact absurd hn (hno e x he hx hF h9)⟩
theorem Mixed.put {ns : List NodeD} {F : List Bool} {v w m : List MeaningD} {d i : Nat} (h : Mixed ns F v w m d i) {a : MeaningD} (ha : v[d]? = some a) (hd : d < 14) : Mixed ns F v w (m.set d a) d (i + 1) := by
  have hs : ∀ k, (m.set d a)[k]? = if k = d then v[k]? else m[k]? := fun k => by
    rw [List.getElem?_set]
    by_cases hk : d = k
    · subst hk
      rw [if_pos rfl, if_pos rfl, if_pos (by rw [h.len]; exact hd), ha]
    · rw [if_neg hk, if_neg (fun e => hk e.symm)]
  refine ⟨by rw [List.length_set]; exact h.len, fun k => ?_, fun k e he j x hk hF hx h9 hn => ?_⟩
  · rw [hs]
    by_cases hk : k = d
    · rw [if_pos hk]; exact .inr rfl
    · rw [if_neg hk]; exact h.or_ k
  · rw [hs]
    by_cases hkd : k = d
    · rw [if_pos hkd]
    · rw [if_neg hkd]
      exact h.tied k e he j x (by omega) hF hx h9 hn
theorem Mixed.ok {ns : List NodeD} {F : List Bool} {v w m : List MeaningD} {d i : Nat} (h : Mixed ns F v w m d i) (hv : MeansOk declsK v) (hw : MeansOk declsK w) : MeansOk declsK m :=
  ⟨h.len, fun k e a he ha => by
    rcases h.or_ k with h1 | h1
    · exact hw.2 k e a he (by rw [← h1]; exact ha)
    · exact hv.2 k e a he (by rw [← h1]; exact ha)⟩
theorem Mixed.agree {ns : List NodeD} {ss H : List Int} {v w m : List MeaningD} {i : Nat} (h : Mixed ns (usedM ns H) v w m 14 i) (hs : sortsF ⟨declsK, ns, H⟩ = (ss, 0, 0)) :
    ∀ j x, (usedM ns H).getD j false = true → ns[j]? = some x → x.op = 9 → meanAt v declsK x.name = meanAt m declsK x.name := fun j x hF hx h9 => by
  have h0 : (sortsF ⟨declsK, ns, H⟩).2.1 = 0 := by rw [hs]
  have hd : 0 ≤ idx (nameIs x.name) declsK 0 := (sorts_nodes (a := ⟨declsK, ns, H⟩) h0 hx).nam h9
  obtain ⟨k, e, hk, he, hp⟩ := idx_get (Int.le_refl 0) hd
  have hk' : (idx (nameIs x.name) declsK 0).toNat = k := by omega
  have hn : x.name.toList = e.name.toList := by
    have h1 : e.name.toList = x.name.toList := by simpa [nameIs] using hp
    exact h1.symm
  have hkl : k < 14 := (List.getElem?_eq_some_iff.1 he).1
  unfold meanAt
  rw [hk', List.getD_eq_getElem?_getD, List.getD_eq_getElem?_getD, h.tied k e he j x (.inl hkl) hF hx h9 hn]
end Go.Proofs.Ythooecojopfjbaa
namespace Go.Proofs.Ythooecojopfjbaa
open Go.RowKit

/-- one of the meanings is written anew, cell by cell -/
theorem MeansC.set {w : World} {S : Nat → Prop} {cs : Array Value} {ms : List MeaningD} (h : MeansC w S cs ms) {d : Nat} {a : MeaningD} {u0 u1 u2 u3 u4 : Value} (hd : d < ms.length) (hv : VMeaning w S [u0, u1, u2, u3, u4] a) :
    MeansC w S (((((cs.setIfInBounds (d * 5) u0).setIfInBounds (d * 5 + 1) u1).setIfInBounds (d * 5 + 1 + 1) u2).setIfInBounds (d * 5 + 1 + 2) u3).setIfInBounds (d * 5 + 1 + 3) u4) (ms.set d a) := fun i x hx => by
  have hold : ∀ i x, ms[i]? = some x → ∀ j, j < 5 → i * 5 + j < cs.size := fun i x hx j hj => by
    obtain ⟨l, hl, hc⟩ := h i x hx
    have hlen := tells_meaning.len _ _ _ _ hl
    obtain ⟨u, hu⟩ : ∃ u, l[j]? = some u := ⟨l[j], List.getElem?_eq_getElem (by omega)⟩
    exact (Array.getElem?_eq_some_iff.1 (hc j u hu)).1
  by_cases hi : i = d
  · subst hi
    rw [List.getElem?_set_self hd] at hx
    injection hx with hx
    subst hx
    have h5 : ∀ j, j < 5 → i * 5 + j < cs.size := hold i ms[i] (List.getElem?_eq_getElem hd)
    have k0 := h5 0 (by omega)
    have k1 := h5 1 (by omega)
    have k2 := h5 2 (by omega)
    have k3 := h5 3 (by omega)
    have k4 := h5 4 (by omega)
    refine ⟨_, hv, fun j u hj => ?_⟩
    rcases j with _ | _ | _ | _ | _ | j
    · simp only [List.getElem?_cons_zero, Option.some.injEq] at hj
      subst hj
      rw [Array.getElem?_setIfInBounds_ne (by omega), Array.getElem?_setIfInBounds_ne (by omega), Array.getElem?_setIfInBounds_ne (by omega), Array.getElem?_setIfInBounds_ne (by omega), Nat.add_zero, Array.getElem?_setIfInBounds_self_of_lt (by simpa using k0)]
    · simp only [List.getElem?_cons_zero, List.getElem?_cons_succ, Option.some.injEq] at hj
      subst hj
      rw [Array.getElem?_setIfInBounds_ne (by omega), Array.getElem?_setIfInBounds_ne (by omega), Array.getElem?_setIfInBounds_ne (by omega), Array.getElem?_setIfInBounds_self_of_lt (by simpa using k1)]
    · simp only [List.getElem?_cons_zero, List.getElem?_cons_succ, Option.some.injEq] at hj
      subst hj
      rw [Array.getElem?_setIfInBounds_ne (by omega), Array.getElem?_setIfInBounds_ne (by omega), show i * 5 + (0 + 1 + 1) = i * 5 + 1 + 1 by omega, Array.getElem?_setIfInBounds_self_of_lt (by simpa using k2)]
    · simp only [List.getElem?_cons_zero, List.getElem?_cons_succ, Option.some.injEq] at hj
      subst hj
      rw [Array.getElem?_setIfInBounds_ne (by omega), show i * 5 + (0 + 1 + 1 + 1) = i * 5 + 1 + 2 by omega, Array.getElem?_setIfInBounds_self_of_lt (by simpa using k3)]
    · simp only [List.getElem?_cons_zero, List.getElem?_cons_succ, Option.some.injEq] at hj
      subst hj
      rw [show i * 5 + (0 + 1 + 1 + 1 + 1) = i * 5 + 1 + 3 by omega, Array.getElem?_setIfInBounds_self_of_lt (by simpa using k4)]
    · simp at hj
  · rw [List.getElem?_set_ne (by omega)] at hx
    obtain ⟨l, hl, hc⟩ := h i x hx
    have hlen := tells_meaning.len _ _ _ _ hl
    refine ⟨l, hl, fun j u hj => ?_⟩
    have hj5 : j < 5 := by have := (List.getElem?_eq_some_iff.1 hj).1; omega
    rw [Array.getElem?_setIfInBounds_ne (by omega), Array.getElem?_setIfInBounds_ne (by omega), Array.getElem?_setIfInBounds_ne (by omega), Array.getElem?_setIfInBounds_ne (by omega), Array.getElem?_setIfInBounds_ne (by omega)]
    exact hc j u hj

/-- the second world, while meanings of the first are written into it -/
structure UsedI (Y Z : World) (gB gW cW : Nat) (ns : List NodeD) (F : List Bool) (v v2 : List MeaningD) (wr : World) (d i : Nat) : Prop where
  below : Below Y.heap.size Y wr
  size : wr.heap.size = Z.heap.size
  box : Blk wr gB 47 #[.slice (some ⟨gW, 0, none⟩) 14 cW]
  means : ∃ m cs, Blk wr gW 64 cs ∧ MeansC wr (fun b => b < Z.heap.size ∧ b ≠ gW) cs m ∧ Mixed ns F v v2 m d i
section
variable {Y Z wr : World} {gB gW cW d i : Nat} {ns : List NodeD} {F : List Bool} {v v2 : List MeaningD}
theorem UsedI.next (h : UsedI Y Z gB gW cW ns F v v2 wr d i) (hi : ns.length ≤ i) : UsedI Y Z gB gW cW ns F v v2 wr (d + 1) 0 := by
  obtain ⟨h1, h2, h3, m, cs, h4, h5, h6⟩ := h
  exact ⟨h1, h2, h3, m, cs, h4, h5, h6.next hi⟩
theorem UsedI.drew (h : UsedI Y Z gB gW cW ns F v v2 wr d i) (n : Nat) : UsedI Y Z gB gW cW ns F v v2 (wr.drewN n) d i := by
  obtain ⟨h1, h2, h3, m, cs, h4, h5, h6⟩ := h
  exact ⟨below_drewN h1 n, h2, h3.drewN n, m, cs, h4.drewN n, h5.keep (fun _ h => h) (fun _ _ _ => rfl), h6⟩
theorem UsedI.skip (h : UsedI Y Z gB gW cW ns F v v2 wr d i) (hno : ∀ e x, declsK[d]? = some e → ns[i]? = some x → F.getD i false = true → x.op = 9 → ¬ x.name.toList = e.name.toList) : UsedI Y Z gB gW cW ns F v v2 wr d (i + 1) := by
  obtain ⟨h1, h2, h3, m, cs, h4, h5, h6⟩ := h
  exact ⟨h1, h2, h3, m, cs, h4, h5, h6.skip hno⟩
theorem UsedI.put (h : UsedI Y Z gB gW cW ns F v v2 wr d i) (hY : Y.heap.size ≤ gW) (hB : gB ≠ gW) (hZ : Y.heap.size ≤ Z.heap.size) {a : MeaningD} {u0 u1 u2 u3 u4 : Value} (ha : v[d]? = some a) (hd : d < 14) (hv : VMeaning Y (fun b => b < Y.heap.size) [u0, u1, u2, u3, u4] a) :
    UsedI Y Z gB gW cW ns F v v2 (((((wr.setCell ⟨gW, d * 5, none⟩ u0).setCell ⟨gW, d * 5 + 1, none⟩ u1).setCell ⟨gW, d * 5 + 1 + 1, none⟩ u2).setCell ⟨gW, d * 5 + 1 + 2, none⟩ u3).setCell ⟨gW, d * 5 + 1 + 3, none⟩ u4) d (i + 1) := by
  obtain ⟨h1, h2, h3, m, cs, h4, h5, h6⟩ := h
  refine ⟨((((h1.setCell (p := ⟨gW, _, none⟩) hY _).setCell (p := ⟨gW, _, none⟩) hY _).setCell (p := ⟨gW, _, none⟩) hY _).setCell (p := ⟨gW, _, none⟩) hY _).setCell (p := ⟨gW, _, none⟩) hY _, by simp only [World.size_setCell]; exact h2,
    ((((h3.far (p := ⟨gW, _, none⟩) hB _).far (p := ⟨gW, _, none⟩) hB _).far (p := ⟨gW, _, none⟩) hB _).far (p := ⟨gW, _, none⟩) hB _).far (p := ⟨gW, _, none⟩) hB _, m.set d a, _, ((((h4.set_ _ u0).set_ _ u1).set_ _ u2).set_ _ u3).set_ _ u4, ?_, h6.put ha hd⟩
  have hv' : VMeaning wr (fun b => b < Z.heap.size ∧ b ≠ gW) [u0, u1, u2, u3, u4] a := tells_meaning.keep _ _ _ _ _ _ (fun b hb => ⟨by omega, by omega⟩) (fun b o hb => h1.cell (p := ⟨b, o, none⟩) hb) hv
  refine (h5.set (by rw [h6.len]; exact hd) hv').keep (fun _ hb => hb) (fun b o hb => ?_)
  have hne : ∀ (k : Nat), (⟨gW, k, none⟩ : Addr) ≠ ⟨b, o, none⟩ := fun k e => hb.2 (by injection e with e; exact e.symm)
  rw [World.cell?_setCell_other _ _ _ _ (hne _), World.cell?_setCell_other _ _ _ _ (hne _), World.cell?_setCell_other _ _ _ _ (hne _), World.cell?_setCell_other _ _ _ _ (hne _), World.cell?_setCell_other _ _ _ _ (hne _)]
theorem UsedI.row (h : UsedI Y Z gB gW cW ns F v v2 wr d i) {k : Nat} (hk14 : k < 14) : ∃ u0 u1 u2 u3 u4 : Value, wr.cell? ⟨gW, k * 5, none⟩ = some u0 ∧ wr.cell? ⟨gW, k * 5 + 1, none⟩ = some u1 ∧ wr.cell? ⟨gW, k * 5 + 1 + 1, none⟩ = some u2 ∧ wr.cell? ⟨gW, k * 5 + 1 + 2, none⟩ = some u3 ∧ wr.cell? ⟨gW, k * 5 + 1 + 3, none⟩ = some u4 ∧
    gW < wr.heap.size ∧ ∀ o, wr.frozen? ⟨gW, o, none⟩ = false := by
  obtain ⟨-, -, -, m, cs, hk, hm, hx⟩ := h
  have hl : k < m.length := by rw [hx.len]; exact hk14
  obtain ⟨l, hvl, hc⟩ := hm k m[k] (List.getElem?_eq_getElem hl)
  obtain ⟨A, n, c, A2, n2, c2, rfl, -⟩ := hvl
  exact ⟨_, _, _, _, _, (hk.cell _).trans (hc 0 _ rfl), (hk.cell _).trans (hc 1 _ rfl), (hk.cell _).trans (hc 2 _ rfl), (hk.cell _).trans (hc 3 _ rfl), (hk.cell _).trans (hc 4 _ rfl), hk.lt, fun o => hk.frozen o⟩
theorem UsedI.load (h : UsedI Y Z gB gW cW ns F v v2 wr d i) {gV : Nat} {cv : Array Value} {k : Nat} (hk : Blk Y gV 64 cv) (hv : MeansC Y (fun b => b < Y.heap.size) cv v) (hl : k < v.length) :
    ∃ (a : MeaningD) (A : Option Addr) (n c : Nat) (x y : Int) (A2 : Option Addr) (n2 c2 : Nat) (r : Int), v[k]? = some a ∧ VMeaning Y (fun b => b < Y.heap.size) [.slice A n c, .int .i64 x, .int .i64 y, .slice A2 n2 c2, .int .i64 r] a ∧
      wr.cell? ⟨gV, k * 5, none⟩ = some (.slice A n c) ∧ wr.cell? ⟨gV, k * 5 + 1, none⟩ = some (.int .i64 x) ∧ wr.cell? ⟨gV, k * 5 + 1 + 1, none⟩ = some (.int .i64 y) ∧ wr.cell? ⟨gV, k * 5 + 1 + 2, none⟩ = some (.slice A2 n2 c2) ∧ wr.cell? ⟨gV, k * 5 + 1 + 3, none⟩ = some (.int .i64 r) := by
  obtain ⟨l, hvl, hc⟩ := hv k v[k] (List.getElem?_eq_getElem hl)
  have hvl' := hvl
  obtain ⟨A, n, c, A2, n2, c2, rfl, -⟩ := hvl'
  have hat : ∀ (j : Nat) (u : Value), cv[k * 5 + j]? = some u → wr.cell? ⟨gV, k * 5 + j, none⟩ = some u := fun j u hj => (h.below.cell (p := ⟨gV, k * 5 + j, none⟩) hk.lt).trans ((hk.cell _).trans hj)
  exact ⟨v[k], A, n, c, _, _, A2, n2, c2, _, List.getElem?_eq_getElem hl, hvl, hat 0 _ (hc 0 _ rfl), hat 1 _ (hc 1 _ rfl), hat 2 _ (hc 2 _ rfl), hat 3 _ (hc 3 _ rfl), hat 4 _ (hc 4 _ rfl)⟩
end

set_option maxRecDepth 100000 in
set_option maxHeartbeats 4000000 in
theorem meanUsed_any (A : Option Addr) (n c : Nat) (xs : List Int) (A' : Option Addr) (n' c' : Nat) (xs' : List Int) (A'' : Option Addr) (n'' c'' : Nat) (xs'' : List Int) (w : World) (hxs : ArrB AtInt 1 w w.heap.size A n xs) (hn : n ≤ 9223372036854775807) (hxs' : ArrB AtInt 1 w w.heap.size A' n' xs') (hn' : n' ≤ 9223372036854775807) (hxs'' : ArrB AtInt 1 w w.heap.size A'' n'' xs'') (hn'' : n'' ≤ 9223372036854775807) :
    Calls Try.prog 9 #[.slice A n c, .slice A' n' c', .slice A'' n'' c''] w fun e w' => e = .returned (.bool true) ∧ Below w.heap.size w w' := by
  have HXS := Lib.hid (And.intro hxs hn)
  have HXS1 := Lib.hid (And.intro hxs' hn')
  have HXS2 := Lib.hid (And.intro hxs'' hn'')
  clear hxs hn hxs' hn' hxs'' hn''
  go_enter Try.func9, Try.ntmps9
  go_wp2_with fail
  refine (askOf_any A n c xs 20 w HXS.out.1 HXS.out.2 (by omega)).mono ?_
  rintro e w1 ⟨AD, cD, An, cn, AH, cH, ns, ss, H, rfl, ha, hcD, hcn, hcH, hM, hl, hH, hHs, hb1⟩
  have hs1 := mk_sorts hM (by omega) (by omega) hHs
  have hn80 : ns.length ≤ 80 := by omega
  have HL := Lib.hid (And.intro hs1 (And.intro hcD (And.intro hM.len hM)))
  have hbx : Below w1.heap.size w1 (w1.alloc (.cells #[.slice AD 14 cD, .slice An ns.length cn, .slice AH H.length cH] 26)) := (Below.refl _ _).alloc (Nat.le_refl _) _
  have hk5 := Blk.new w1 26 #[.slice AD 14 cD, .slice An ns.length cn, .slice AH H.length cH]
  obtain ⟨X1, hX1⟩ : ∃ X, w1.alloc (.cells #[.slice AD 14 cD, .slice An ns.length cn, .slice AH H.length cH] 26) = X := ⟨_, rfl⟩
  rw [hX1] at hbx hk5
  have HX1e := Lib.hid hX1
  clear hX1
  have ha2 := ha.below hbx hbx.size
  have hb2 := hb1.trans (hbx.mono hb1.size)
  have HU := Lib.hid (used_good AD An AH 14 cD ns.length cn H.length cH ⟨declsK, ns, H⟩ X1 ha2 hcD (by rw [hs1]))
  have x0 := hk5.cell 0
  have x1 := hk5.cell 1
  have x2 := hk5.cell 2
  simp only [List.getElem?_toArray, List.getElem?_cons_zero, List.getElem?_cons_succ] at x0 x1 x2
  have zq := hk5.lt
  have H1 := Lib.hid (And.intro ha2 (And.intro hb2 hk5))
  clear ha hcn hcH hM hl hH hHs hb1 hs1 hbx hk5 ha2 hb2 hcD
  go_upto_region 2 with fail
  rw [HX1e.out]
  clear HX1e
  go_wp2_with fail
  refine HU.out.mono ?_
  rintro e w2 ⟨gU, rfl, hbu, hgu, hku, hFl⟩
  clear HU
  change Blk w2 gU 4 (boolsC (usedM ns H)) at hku
  have hbf : Below w2.heap.size w2 (w2.alloc (.cells #[.int .i64 0, .int .i64 0] 29)) := (Below.refl _ _).alloc (Nat.le_refl _) _
  have hkf := Blk.new w2 29 #[.int .i64 0, .int .i64 0]
  obtain ⟨X2, hX2⟩ : ∃ X, w2.alloc (.cells #[.int .i64 0, .int .i64 0] 29) = X := ⟨_, rfl⟩
  rw [hX2] at hbf hkf
  have HX2e := Lib.hid hX2
  clear hX2
  have hbX2 := hbu.trans (hbf.mono hbu.size)
  have f0 := hkf.cell 0
  simp only [List.getElem?_toArray, List.getElem?_cons_zero] at f0
  have y1 := (hbX2.cell (p := ⟨w1.heap.size, 1, none⟩) zq).trans x1
  have H2 := Lib.hid (And.intro (H1.out.1.below hbX2 hbX2.size) (And.intro (H1.out.2.1.trans (hbX2.mono H1.out.2.1.size)) (And.intro (H1.out.2.2.below hbX2 zq) (And.intro (hku.below hbf hku.lt) hkf))))
  clear hbu hgu hku hFl hbf hkf hbX2 x0 x1 x2 H1
  go_upto_region 3 with fail
  rw [HX2e.out]
  clear HX2e
  go_wp2_with fail
  refine (askSure_any _).mono ?_
  rintro e w3 ⟨rfl, hb3⟩
  obtain ⟨p1, p2, p3, p4, p5⟩ := H2.out
  have H3 := Lib.hid (And.intro (p1.below hb3 hb3.size) (And.intro (p2.trans (hb3.mono p2.size)) (And.intro (p3.below hb3 p3.lt) (And.intro (p4.below hb3 p4.lt) (p5.below hb3 p5.lt)))))
  clear p1 p2 p3 p4 p5 hb3 H2 f0 y1
  go_wp2_with fail
  refine (world_own A' n' c' xs' _ (ArrB.below HXS1.out.1 stays_int H3.out.2.1 H3.out.2.1.size) HXS1.out.2).mono ?_
  rintro e w4 ⟨gV, cV, v, csV, rfl, hcV, hcVm, hgV, hkV, hmV, hMV, hb4⟩
  have hbv : Below w4.heap.size w4 (w4.alloc (.cells #[.slice (some ⟨gV, 0, none⟩) 14 cV] 47)) := (Below.refl _ _).alloc (Nat.le_refl _) _
  have hkv := Blk.new w4 47 #[.slice (some ⟨gV, 0, none⟩) 14 cV]
  obtain ⟨Y, hY⟩ : ∃ X, w4.alloc (.cells #[.slice (some ⟨gV, 0, none⟩) 14 cV] 47) = X := ⟨_, rfl⟩
  rw [hY] at hbv hkv
  have HYe := Lib.hid hY
  clear hY
  have hbY := hb4.trans (hbv.mono hb4.size)
  obtain ⟨p1, p2, p3, p4, p5⟩ := H3.out
  have HY := Lib.hid (And.intro (p1.below hbY hbY.size) (And.intro (p2.trans (hbY.mono p2.size)) (And.intro (p3.below hbY p3.lt) (And.intro (p4.below hbY p4.lt) (And.intro (p5.below hbY p5.lt) (And.intro hkv (hkV.below hbv hkV.lt)))))))
  have HMV : Hid (MeansC Y (fun b => b < Y.heap.size) csV v ∧ MeansOk declsK v) := ⟨hmV.keep (fun b hb => Nat.lt_of_lt_of_le hb.2.1 hbv.size) (fun b o hb => hbv.cell (p := ⟨b, o, none⟩) hb.2.1), hMV⟩
  have HC1 := Lib.hid hcVm
  clear p1 p2 p3 p4 p5 hbv hbY hb4 hkv hkV hmV hMV hgV hcV hcVm H3 zq
  go_upto_region 6 with fail
  rw [HYe.out]
  clear HYe
  go_wp2_with fail
  refine (world_own A'' n'' c'' xs'' _ (ArrB.below HXS2.out.1 stays_int HY.out.2.1 HY.out.2.1.size) HXS2.out.2).mono ?_
  rintro e w5 ⟨gW, cW, v2, csW, rfl, hcW, hcWm, hgW, hkW, hmW, hMW, hb5⟩
  have hbz : Below w5.heap.size w5 (w5.alloc (.cells #[.slice (some ⟨gW, 0, none⟩) 14 cW] 47)) := (Below.refl _ _).alloc (Nat.le_refl _) _
  have hkz := Blk.new w5 47 #[.slice (some ⟨gW, 0, none⟩) 14 cW]
  obtain ⟨Z, hZ⟩ : ∃ X, w5.alloc (.cells #[.slice (some ⟨gW, 0, none⟩) 14 cW] 47) = X := ⟨_, rfl⟩
  rw [hZ] at hbz hkz
  have HZe := Lib.hid hZ
  clear hZ
  have hbZ := hb5.trans (hbz.mono hb5.size)
  have hgB : w5.heap.size ≠ gW := by have := hkW.lt; omega
  have HI0 : Hid (UsedI Y Z w5.heap.size gW cW ns (usedM ns H) v v2 Z 0 0) := ⟨hbZ, rfl, hkz, v2, csW, hkW.below hbz hkW.lt, hmW.keep (fun b hb => ⟨Nat.lt_of_lt_of_le hb.2.1 hbz.size, hb.2.2⟩) (fun b o hb => hbz.cell (p := ⟨b, o, none⟩) hb.2.1), Mixed.start hMW.1⟩
  have HZ := Lib.hid (And.intro hgW (And.intro hgB (And.intro hbZ.size hMW)))
  clear hbz hkz hkW hmW hMW hb5 hcW hcWm hgW hbZ hgB
  go_upto_region 7 with fail
  rw [HZe.out]
  clear HZe
  go_wp2_with fail
  generalize w5.heap.size = gB at HI0 HZ ⊢
  go_loopw [12] (fun s12 wr => ∃ d : Nat, d ≤ 14 ∧ s12 = .int .i64 (d : Int) ∧ Hid (UsedI Y Z gB gW cW ns (usedM ns H) v v2 wr d 0)) (fun s12 _ => 14 - (intOf s12).toNat)
  case atStart => exact ⟨0, Nat.zero_le _, rfl, HI0⟩
  case round =>
    clear HI0
    obtain ⟨d, hd, rfl, HI⟩ := hrel
    have zY : Y.heap.size ≤ wr.heap.size := HI.out.below.size
    have a0 : wr.cell? ⟨w1.heap.size, 0, none⟩ = some (.slice AD 14 cD) := (HY.out.2.2.1.below HI.out.below HY.out.2.2.1.lt).cell 0
    by_cases hlt : d < 14
    · have hdI : (d : Int) < 14 := by omega
      go_wp2_with fail
      clear a0
      go_loopw [13] (fun s13 wr => ∃ i : Nat, i ≤ ns.length ∧ s13 = .int .i64 (i : Int) ∧ Hid (UsedI Y Z gB gW cW ns (usedM ns H) v v2 wr d i)) (fun s13 _ => ns.length - (intOf s13).toNat)
      case atStart => exact ⟨0, Nat.zero_le _, rfl, HI⟩
      case round =>
        clear HI zY
        obtain ⟨i, hi, rfl, HI⟩ := hrel
        have zA : w1.heap.size < wr.heap.size := Nat.lt_of_lt_of_le HY.out.2.2.1.lt HI.out.below.size
        have a0 : wr.cell? ⟨w1.heap.size, 0, none⟩ = some (.slice AD 14 cD) := (HY.out.2.2.1.below HI.out.below HY.out.2.2.1.lt).cell 0
        have a1 : wr.cell? ⟨w1.heap.size, 1, none⟩ = some (.slice An ns.length cn) := (HY.out.2.2.1.below HI.out.below HY.out.2.2.1.lt).cell 1
        by_cases hil : i < ns.length
        · have hiI : (i : Int) < (ns.length : Int) := by omega
          have hul : i < (usedM ns H).length := by rw [usedM_len]; exact hil
          have hcu := marks_cell (HY.out.2.2.2.1.below HI.out.below HY.out.2.2.2.1.lt) hul
          obtain ⟨bN, oN, hxN, A4, n4, c4, rfl, hbN, hc0, hc1, hc2, hc3, hc4, -, -, -, -, -, -, -⟩ := nodes_get (HY.out.1.below HI.out.below HI.out.below.size).nodes hil
          obtain ⟨bD, oD, hxD, A5, n5, c5, rfl, hbD, hd0, hd1, hd2, -, -, -, -, -⟩ := decls_get (HY.out.1.below HI.out.below HI.out.below.size).decls hlt
          have HXN := Lib.hid (List.getElem?_eq_getElem hxN)
          have HXD := Lib.hid (List.getElem?_eq_getElem hxD)
          dsimp only at hc0 hc1 hc2 hc3 hc4 hd0 hd1 hd2 HXN HXD
          generalize ns[i] = x at hc0 hc4 HXN
          generalize (declsK)[d] = y at hd0 HXD
          clear hc1 hc2 hc3 hd1 hd2 hxN hxD hul
          generalize hu : (usedM ns H).getD i false = u at hcu
          have HU := Lib.hid hu
          clear hu
          have SKIP : (u = true → x.op = 9 → ¬ x.name.toList = y.name.toList) → ∀ k, Hid (UsedI Y Z gB gW cW ns (usedM ns H) v v2 (wr.drewN k) d (i + 1)) := fun hno k => (HI.out.drew k).skip (fun e x' he hx' hF h9 => by
            have e1 := HXD.out
            have e2 := HXN.out
            rw [he] at e1
            rw [hx'] at e2
            injection e1 with e1
            injection e2 with e2
            subst e1 e2
            exact hno (HU.out.symm.trans hF) h9)
          have SK := Lib.hid SKIP
          clear SKIP
          cases u with
          | false =>
            have HN := Lib.hid (SK.out (fun h => absurd h (by simp)))
            clear SK hc0 hc4 hd0
            go_wp2_with fail
            go_quiet (fail)
            go_wp2_with fail
            go_roundw
            case rel => exact ⟨i + 1, by omega, by go_num, HN.out _⟩
            case measure => simp [intOf]; omega
          | true =>
            by_cases h9 : x.op = 9
            · rw [h9] at hc0
              by_cases hnm : x.name.toList = y.name.toList
              · have en : (x.name.toList == y.name.toList) = true := by simpa using hnm
                clear SK
                obtain ⟨a, A6, n6, c6, p6, q6, A7, n7, c7, r6, hva, hvm, l0, l1, l2, l3, l4⟩ := HI.out.load HY.out.2.2.2.2.2.2 HMV.out.1 (k := d) (by rw [HMV.out.2.1]; exact hlt)
                obtain ⟨t0, t1, t2, t3, t4, s0, s1, s2, s3, s4, zW, hfz⟩ := HI.out.row hlt
                have f0 := hfz (d * 5)
                have f1 := hfz (d * 5 + 1)
                have f2 := hfz (d * 5 + 1 + 1)
                have f3 := hfz (d * 5 + 1 + 2)
                have f4 := hfz (d * 5 + 1 + 3)
                have b0 : wr.cell? ⟨gB, 0, none⟩ = some (.slice (some ⟨gW, 0, none⟩) 14 cW) := HI.out.box.cell 0
                have hbV := HY.out.2.2.2.2.2.1.below HI.out.below HY.out.2.2.2.2.2.1.lt
                have b1 : wr.cell? ⟨w4.heap.size, 0, none⟩ = some (.slice (some ⟨gV, 0, none⟩) 14 cV) := hbV.cell 0
                have HP := Lib.hid (fun k => (HI.out.drew k).put HZ.out.1 HZ.out.2.1 HZ.out.2.2.1 hva hlt hvm)
                clear hfz hva hvm hbV
                go_wp2_with fail
                go_quiet (fail)
                go_wp2_with fail
                go_region
                go_wp2_with fail
                go_roundw
                case rel => exact ⟨i + 1, by omega, by go_num, HP.out _⟩
                case measure => simp [intOf]; omega
              · have en : (x.name.toList == y.name.toList) = false := by simpa using hnm
                have HN := Lib.hid (SK.out (fun _ _ => hnm))
                clear SK
                go_wp2_with fail
                go_quiet (fail)
                go_wp2_with fail
                go_roundw
                case rel => exact ⟨i + 1, by omega, by go_num, HN.out _⟩
                case measure => simp [intOf]; omega
            · have e9 : (x.op == 9) = false := by simpa using h9
              have HN := Lib.hid (SK.out (fun _ h => absurd h h9))
              clear SK hc4 hd0
              go_wp2_with fail
              go_quiet (fail)
              go_wp2_with fail
              go_roundw
              case rel => exact ⟨i + 1, by omega, by go_num, HN.out _⟩
              case measure => simp [intOf]; omega
        · have hiI : ¬ (i : Int) < (ns.length : Int) := by omega
          have HN : Hid (UsedI Y Z gB gW cW ns (usedM ns H) v v2 wr (d + 1) 0) := HI.out.next (by omega)
          clear HI
          go_wp2_with fail
          go_roundw
          case rel => exact ⟨d + 1, by omega, by go_num, HN⟩
          case measure => simp [intOf]; omega
    · obtain rfl : d = 14 := by omega
      obtain ⟨hbw, hsw, hbx, m, csm, hkm, hmm, hmx⟩ := HI.out
      have hgV := HY.out.2.2.2.2.2.1.below hbw HY.out.2.2.2.2.2.1.lt
      have hA := HY.out.2.2.1.below hbw HY.out.2.2.1.lt
      obtain ⟨o, hx⟩ : ∃ o : World, o = wr := ⟨_, rfl⟩
      subst hx
      have a1 : o.cell? ⟨w1.heap.size, 1, none⟩ = some (.slice An ns.length cn) := hA.cell 1
      have a2 : o.cell? ⟨w1.heap.size, 2, none⟩ = some (.slice AH H.length cH) := hA.cell 2
      have b0 : o.cell? ⟨w4.heap.size, 0, none⟩ = some (.slice (some ⟨gV, 0, none⟩) 14 cV) := hgV.cell 0
      have zA := hA.lt
      have zV := hgV.lt
      obtain ⟨hb, hb', q, p, q', p', e1, e2, c1, c2, hbb⟩ := holds_agree HL.out.1 HMV.out.2 (hmx.ok HMV.out.2 HZ.out.2.2.2) (hmx.agree HL.out.1)
      have har := (HY.out.1.below hbw hbw.size)
      have hmv : ArrB AtMeaning 5 o o.heap.size (some ⟨gV, 0, none⟩) 14 v := by
        have h9 := ((HMV.out.1.at_ HY.out.2.2.2.2.2.2).arr (S' := fun b => b < Y.heap.size) (fun _ h => h) HY.out.2.2.2.2.2.2.lt).keep stays_meaning (S' := fun b => b < o.heap.size) (w' := o) (fun b hb => Nat.lt_of_lt_of_le hb hbw.size) (fun b o hb => hbw.cell (p := ⟨b, o, none⟩) hb)
        rwa [HMV.out.2.1] at h9
      have hmw : ArrB AtMeaning 5 o o.heap.size (some ⟨gW, 0, none⟩) 14 m := by
        have h9 := (hmm.at_ hkm).arr (S' := fun b => b < o.heap.size) (fun b hb => by rw [hsw]; exact hb.1) hkm.lt
        rwa [hmx.len] at h9
      have HH1 := Lib.hid (holds_any AD An AH 14 cD ns.length cn H.length cH ⟨declsK, ns, H⟩ (some ⟨gV, 0, none⟩) 14 cV v o har HL.out.2.1 hmv)
      rw [e1] at HH1
      have HK := Lib.hid (And.intro har (And.intro hmw (And.intro hA (And.intro hbx (And.intro (HY.out.2.1.trans (hbw.mono HY.out.2.1.size)) (And.intro e2 hbb))))))
      clear hbw hsw hbx hkm hmm hmx hgV hA har hmv hmw e1 e2 hbb HI HY HMV HZ zY
      go_wp2_with fail
      refine HH1.out.mono ?_
      rintro e w6 ⟨rfl, hb6⟩
      dsimp only
      have hbf : Below w6.heap.size w6 (w6.alloc (.cells #[.int .i64 q, .int .i64 p] 29)) := (Below.refl _ _).alloc (Nat.le_refl _) _
      have hkf := Blk.new w6 29 #[.int .i64 q, .int .i64 p]
      obtain ⟨X6, hX6⟩ : ∃ X, w6.alloc (.cells #[.int .i64 q, .int .i64 p] 29) = X := ⟨_, rfl⟩
      rw [hX6] at hbf hkf
      have HX6e := Lib.hid hX6
      clear hX6
      have hb7 := hb6.trans (hbf.mono hb6.size)
      obtain ⟨har, hmw, hA, hbx, hbY, e2, hbb⟩ := HK.out
      have HH2 := Lib.hid (holds_any AD An AH 14 cD ns.length cn H.length cH ⟨declsK, ns, H⟩ (some ⟨gW, 0, none⟩) 14 cW m X6 (har.below hb7 hb7.size) HL.out.2.1 (ArrB.below hmw stays_meaning hb7 hb7.size))
      rw [e2] at HH2
      have hA6 := hA.below hb7 hA.lt
      have hbx6 := hbx.below hb7 hbx.lt
      have d0 : X6.cell? ⟨w1.heap.size, 0, none⟩ = some (.slice AD 14 cD) := hA6.cell 0
      have d1 : X6.cell? ⟨w1.heap.size, 1, none⟩ = some (.slice An ns.length cn) := hA6.cell 1
      have d2 : X6.cell? ⟨w1.heap.size, 2, none⟩ = some (.slice AH H.length cH) := hA6.cell 2
      have d3 : X6.cell? ⟨gB, 0, none⟩ = some (.slice (some ⟨gW, 0, none⟩) 14 cW) := hbx6.cell 0
      have zA6 := hA6.lt
      have zB6 := hbx6.lt
      have HK7 := Lib.hid (And.intro (hbY.trans (hb7.mono hbY.size)) (And.intro hkf hbb))
      clear har hmw hA hbx hbY e2 hbb hb6 hbf hkf hb7 hA6 hbx6 HK HH1 a0 a1 a2 b0 zA zV
      go_upto_region 16 with fail
      rw [HX6e.out]
      clear HX6e
      go_wp2_with fail
      refine HH2.out.mono ?_
      rintro e w8 ⟨rfl, hb8⟩
      dsimp only
      have hbf : Below w8.heap.size w8 (w8.alloc (.cells #[.int .i64 q', .int .i64 p'] 29)) := (Below.refl _ _).alloc (Nat.le_refl _) _
      have hkf := Blk.new w8 29 #[.int .i64 q', .int .i64 p']
      obtain ⟨X8, hX8⟩ : ∃ X, w8.alloc (.cells #[.int .i64 q', .int .i64 p'] 29) = X := ⟨_, rfl⟩
      rw [hX8] at hbf hkf
      have HX8e := Lib.hid hX8
      clear hX8
      have hb9 := hb8.trans (hbf.mono hb8.size)
      have f0 : X8.cell? ⟨w6.heap.size, 0, none⟩ = some (.int .i64 q) := (HK7.out.2.1.below hb9 HK7.out.2.1.lt).cell 0
      have g0 : X8.cell? ⟨w8.heap.size, 0, none⟩ = some (.int .i64 q') := hkf.cell 0
      have zf := Nat.lt_of_lt_of_le HK7.out.2.1.lt hb9.size
      have zg := hkf.lt
      have HBB := HK7.out.2.2
      have HE : Hid (Below w.heap.size w X8) := HK7.out.1.trans (hb9.mono HK7.out.1.size)
      clear hb8 hbf hkf hb9 HK7 d0 d1 d2 d3 zA6 zB6 HH2
      go_upto_region 17 with fail
      rw [HX8e.out]
      clear HX8e
      rcases c1 with rfl | rfl <;> rcases c2 with rfl | rfl
      · obtain rfl := HBB rfl rfl
        go_wp2_with fail
        go_ret
        exact ⟨ret_bool (by simp), HE.out⟩
      all_goals
        clear HBB
        go_wp2_with fail
        go_ret
        exact ⟨rfl, HE.out⟩
end Go.Proofs.Ythooecojopfjbaa
