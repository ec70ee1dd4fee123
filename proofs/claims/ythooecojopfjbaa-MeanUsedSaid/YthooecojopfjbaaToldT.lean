/- Plain: a region that draws its order and whose operations make memory: one lemma an operation serves for whatever order the tape picks. · What a node, a row of kids, a row of nodes and an ask tell while they are being made, whatever memory is made besides. -/
import Derived.RegionTactic
import Derived.Below
import Derived.Test.YthooecojopfjbaaKitFH
import Derived.Test.YthooecojopfjbaaAskOU
namespace Go.Proofs.Ythooecojopfjbaa
open Go Go.RowKit

section
variable {P : Program} {ops : Array Oper} {Q : Exit → Act → World → Prop}

/-- The frame behind all operations of the list (the first has number k), with these values. -/
def putFrom (vs : Nat → Value) : List Oper → Nat → Act → Act
  | [], _, a => a
  | o :: l, k, a => putFrom vs l (k + 1) (a.put o.dst (vs k))

theorem put_defersT (a : Act) (x : Option Tmp) (v : Value) : (a.put x v).defers = a.defers := by cases x <;> rfl
theorem put_sizeT (a : Act) (x : Option Tmp) (v : Value) : (a.put x v).tmps.size = a.tmps.size := by cases x <;> simp [Act.put]
theorem putFrom_defers (vs : Nat → Value) : ∀ (l : List Oper) (k : Nat) (a : Act), (putFrom vs l k a).defers = a.defers
  | [], _, _ => rfl
  | o :: l, k, a => by rw [putFrom, putFrom_defers vs l, put_defersT]
theorem putFrom_size (vs : Nat → Value) : ∀ (l : List Oper) (k : Nat) (a : Act), (putFrom vs l k a).tmps.size = a.tmps.size
  | [], _, _ => rfl
  | o :: l, k, a => by rw [putFrom, putFrom_size vs l, put_sizeT]
theorem put_otherT {a : Act} {x : Option Tmp} {v : Value} {t : Nat} (h : x ≠ some t) : (a.put x v).tmps[t]? = a.tmps[t]? := by
  cases x with
  | none => rfl
  | some d => simp only [Act.put]; exact Array.getElem?_setIfInBounds_ne (fun e => h (by rw [e]))
theorem put_hereT {a : Act} {x : Option Tmp} {v : Value} {t : Nat} (h : x = some t) (ht : t < a.tmps.size) : (a.put x v).tmps[t]? = some v := by
  subst h; simp [Act.put, ht]
theorem putFrom_other (vs : Nat → Value) {t : Nat} : ∀ (l : List Oper) (k : Nat) (a : Act), (∀ o ∈ l, o.dst ≠ some t) → (putFrom vs l k a).tmps[t]? = a.tmps[t]?
  | [], _, _, _ => rfl
  | o :: l, k, a, h => by
    rw [putFrom, putFrom_other vs l (k + 1) _ (fun o' ho' => h o' (List.mem_cons_of_mem _ ho')), put_otherT (h o (List.mem_cons_self ..))]
theorem putFrom_here (vs : Nat → Value) {t : Nat} : ∀ (l : List Oper) (k i : Nat) (a : Act) (o : Oper), l[i]? = some o → o.dst = some t → t < a.tmps.size →
    (∀ j o', l[j]? = some o' → j ≠ i → o'.dst ≠ some t) → (putFrom vs l k a).tmps[t]? = some (vs (k + i))
  | [], _, _, _, _, h, _, _, _ => by simp at h
  | o :: l, k, 0, a, o1, h, hd, ht, hne => by
    obtain rfl : o = o1 := by simpa using h
    rw [putFrom, putFrom_other vs l (k + 1) _ (fun o' ho' => ?_), put_hereT hd ht]
    · rfl
    · obtain ⟨j, hj⟩ := List.mem_iff_getElem?.1 ho'
      exact hne (j + 1) o' (by simpa using hj) (by omega)
  | o :: l, k, i + 1, a, o1, h, hd, ht, hne => by
    rw [putFrom, putFrom_here vs l (k + 1) i _ o1 (by simpa using h) hd (by rw [put_sizeT]; exact ht) (fun j o' hj hji => hne (j + 1) o' (by simpa using hj) (by omega))]
    congr 2; omega

/-- What is asked of the region's text: nothing is guarded, nothing selects; the temporaries are there, each is written once, and read only by operations that wait for its writer. -/
def toldB (ops : Array Oper) (n : Nat) : Bool :=
  Region.noSelect ops && (List.range ops.size).all fun i => match ops[i]? with
    | none => true
    | some o => o.guard.isNone && (match o.dst with | some d => decide (d < n) | none => true) && (o.after.all fun e => !(Region.binds .any e) || decide (e.on < i)) &&
      (List.range ops.size).all fun j => match (ops[j]?).bind (·.dst) with
        | none => true
        | some d => (j == i || o.dst != some d) && (!((o.looksAt ops).contains d) || o.after.any fun e => Region.binds .any e && e.on == j)

/-- every operation but the last of all is waited for by one behind it -/
def lastB (ops : Array Oper) (s : Nat) : Bool :=
  (List.range ops.size).all fun j => j == s || (List.range ops.size).any fun i => decide (j < i) && match ops[i]? with
    | none => false
    | some o => o.after.any fun e => Region.binds .any e && e.on == j

theorem any_edge {o : Oper} {j : Nat} (h : (o.after.any fun e => Region.binds .any e && e.on == j) = true) : ∃ e ∈ o.after, Region.binds .any e = true ∧ e.on = j := by
  obtain ⟨e, he, h1⟩ := Array.any_eq_true'.1 h
  simp only [Bool.and_eq_true, beq_iff_eq] at h1
  exact ⟨e, he, h1⟩

theorem toldB_spec {n : Nat} (h : toldB ops n = true) {i : Nat} {o : Oper} (ho : ops[i]? = some o) :
    (o.guard = none ∧ ∀ e ∈ o.after, Region.binds .any e = true → e.on < i) ∧ (∀ d, o.dst = some d → d < n) ∧ ∀ j o' d, ops[j]? = some o' → o'.dst = some d → (j = i ∨ o.dst ≠ some d) ∧ (.tmp d ∈ o.op.operands → ∃ e ∈ o.after, Region.binds .any e = true ∧ e.on = j) := by
  simp only [toldB, Bool.and_eq_true, List.all_eq_true, List.mem_range] at h
  have hlt : i < ops.size := (Array.getElem?_eq_some_iff.1 ho).1
  have := h.2 i hlt
  simp only [ho, Bool.and_eq_true, List.all_eq_true, List.mem_range] at this
  obtain ⟨⟨⟨h1, h2⟩, h0⟩, h3⟩ := this
  refine ⟨⟨by simpa using h1, fun e he hb => ?_⟩, fun d hd => by simpa [hd] using h2, fun j o' d hj hd => ?_⟩
  · have := Array.all_eq_true_iff_forall_mem.1 h0 e he
    simpa [hb] using this
  have h4 := h3 j (Array.getElem?_eq_some_iff.1 hj).1
  simp only [hj, Option.bind_some, hd, Bool.and_eq_true, Bool.or_eq_true] at h4
  refine ⟨h4.1.imp (by simp) (by simp), fun hm => ?_⟩
  rcases h4.2 with h5 | h5
  · have : d ∈ o.looksAt ops := List.mem_append_left _ (List.mem_filterMap.2 ⟨.tmp d, by simpa using hm, rfl⟩)
    simp [this] at h5
  · exact any_edge h5

/-- operations that are not done -/
def undone (listed : Array Bool) : Nat := (listed.toList.filter (! ·)).length

theorem undone_list : ∀ (l : List Bool) (i : Nat), l[i]? = some false → ((l.set i true).filter (! ·)).length + 1 = (l.filter (! ·)).length
  | [], _, h => by simp at h
  | b :: l, 0, h => by
    obtain rfl : b = false := by simpa using h
    simp
  | b :: l, i + 1, h => by
    have := undone_list l i (by simpa using h)
    simp only [List.set_cons_succ, List.filter_cons]
    cases b <;> simp <;> omega

theorem undone_set {listed : Array Bool} {i : Nat} (h : listed.getD i true = false) : undone (listed.setIfInBounds i true) + 1 = undone listed := by
  have hlt : i < listed.size := by
    rcases Nat.lt_or_ge i listed.size with h' | h'
    · exact h'
    · simp [Array.getElem?_eq_none h'] at h
  unfold undone
  rw [Array.toList_setIfInBounds]
  exact undone_list _ i (by simp [hlt] at h ⊢; exact h)

theorem undone_pos {listed : Array Bool} {i : Nat} (h : listed.getD i true = false) : 0 < undone listed := by
  have := undone_set h
  omega

/-- whatever an invariant says of what is done is kept: the region ends well -/
theorem wpAny_inv {md : Region.Mode} (I : Array Bool → Act → World → Prop)
    (hstep : ∀ listed a w i, I listed a w → i ∈ Region.ready md ops listed → wpOp P ops Q i (I (listed.setIfInBounds i true)) a w)
    (hdone : ∀ listed a w, I listed a w → Region.ready md ops listed = [] → Q .normal a w) :
    ∀ fuel listed a w, undone listed ≤ fuel → I listed a w → wpAny P md ops Q fuel listed a w
  | 0, listed, a, w, hf, hI => by
    have hr : Region.ready md ops listed = [] := by
      apply List.eq_nil_iff_forall_not_mem.2
      intro j hj
      have := undone_pos (mem_ready.1 hj).1
      omega
    exact ⟨hr, hdone _ _ _ hI hr⟩
  | fuel + 1, listed, a, w, hf, hI => by
    refine ⟨fun hr => hdone _ _ _ hI hr, fun i hi => wpOp_mono (fun a' w' h' => wpAny_inv I hstep hdone fuel _ a' w' ?_ h') (hstep listed a w i hI hi)⟩
    have := undone_set (mem_ready.1 hi).1
    omega

/-- the values, with one of them anew -/
def upd (vs : Nat → Value) (i : Nat) (v : Value) : Nat → Value := fun j => if j = i then v else vs j
theorem upd_same (vs : Nat → Value) (i : Nat) (v : Value) : upd vs i v i = v := by simp [upd]
theorem upd_other (vs : Nat → Value) {i j : Nat} (v : Value) (h : j ≠ i) : upd vs i v j = vs j := by simp [upd, h]

/-- what an operation does at one frame it does at another that gives it the same operands -/
theorem Oper.wp_frame {o : Oper} {A a : Act} {w : World} {Z : Value → World → Prop} (he : execOp A.eval o = execOp a.eval o) (hd : ∀ d, o.dst = some d → d < A.tmps.size)
    (h : ∀ K : Act → World → Prop, (∀ v w', Z v w' → K (A.put o.dst v) w') → o.wp P A w K (fun _ _ _ => False)) :
    o.wp P a w (fun a' w' => ∃ v, a' = a.put o.dst v ∧ Z v w') Q := by
  have h0 := h (fun a' w' => ∃ v, a' = A.put o.dst v ∧ Z v w') (fun v w' hz => ⟨v, rfl, hz⟩)
  have back : ∀ u w', (∃ v, A.put o.dst u = A.put o.dst v ∧ Z v w') → ∃ v, a.put o.dst u = a.put o.dst v ∧ Z v w' := by
    rintro u w' ⟨v, e, hz⟩
    cases hdst : o.dst with
    | none => exact ⟨v, rfl, hz⟩
    | some d =>
      have e1 := congrArg (fun x : Act => x.tmps[d]?) e
      simp only [put_hereT hdst (hd d hdst)] at e1
      obtain rfl : u = v := by simpa using e1
      exact ⟨u, rfl, hz⟩
  unfold Oper.wp at *
  rw [he] at h0
  generalize (execOp a.eval o).run P w = r at *
  cases r with
  | ok n w' =>
    cases n <;> simp only [Oper.upon] at h0 ⊢
    case value u => exact back u w' h0
    case skip => exact back undef w' h0
    case defer d =>
      obtain ⟨v, e, -⟩ := h0
      have e1 := congrArg (fun x : Act => x.defers.length) e
      simp [put_defersT] at e1
    case enter f args =>
      refine Calls.mono h0 fun e w'' he' => ?_
      cases e with
      | returned u => exact back u w'' he'
      | panicked c => exact he'.elim
      | outgrown => obtain ⟨_, _, h⟩ := he'; exact h.elim
    case row row args => exact Rows.mono h0 fun u w'' he' => back u w'' he'
  | halt x w' =>
    cases x <;> simp only [Oper.upon] at h0

/-- the state of the walk: what is done has its value, all else is as it was -/
structure Told (ops : Array Oper) (a0 : Act) (vs : Nat → Value) (listed : Array Bool) (a : Act) : Prop where
  defers : a.defers = a0.defers
  size : a.tmps.size = a0.tmps.size
  done : ∀ j o d, ops[j]? = some o → o.dst = some d → listed.getD j false = true → a.tmps[d]? = some (vs j)
  rest : ∀ t : Nat, (∀ j o, ops[j]? = some o → o.dst = some t → listed.getD j false = false) → a.tmps[t]? = a0.tmps[t]?

theorem putFrom_at {n : Nat} (hB : toldB ops n = true) {a0 : Act} (hn : a0.tmps.size = n) (vs : Nat → Value) {j : Nat} {o : Oper} {d : Nat} (ho : ops[j]? = some o) (hd : o.dst = some d) :
    (putFrom vs ops.toList 0 a0).tmps[d]? = some (vs j) := by
  have := putFrom_here vs ops.toList 0 j a0 o (by simpa using ho) hd (hn ▸ (toldB_spec hB ho).2.1 d hd) (fun i (o' : Oper) hi hij => ?_)
  · simpa using this
  · intro hd'
    have hi' : ops[i]? = some o' := by simpa using hi
    rcases ((toldB_spec hB hi').2.2 j o d ho hd).1 with h | h
    · exact hij h.symm
    · exact h hd'

theorem Told.full {n : Nat} (hB : toldB ops n = true) {a0 a : Act} (hn : a0.tmps.size = n) {vs : Nat → Value} {listed : Array Bool} (h : Told ops a0 vs listed a)
    (hall : ∀ j, j < ops.size → listed.getD j false = true) : a = putFrom vs ops.toList 0 a0 := by
  obtain ⟨tm, df⟩ := a
  have e1 : tm = (putFrom vs ops.toList 0 a0).tmps := by
    apply Array.ext_getElem?
    intro t
    by_cases ht : ∃ (j : Nat) (o : Oper), ops[j]? = some o ∧ o.dst = some t
    · obtain ⟨j, o, ho, hd⟩ := ht
      rw [h.done j o t ho hd (hall j (Array.getElem?_eq_some_iff.1 ho).1), putFrom_at hB hn vs ho hd]
    · rw [h.rest t (fun j (o : Oper) ho hd => absurd ⟨j, o, ho, hd⟩ ht), putFrom_other]
      intro (o : Oper) ho hd
      obtain ⟨j, hj⟩ := List.mem_iff_getElem?.1 ho
      exact ht ⟨j, o, by simpa using hj, hd⟩
  have e2 : df = (putFrom vs ops.toList 0 a0).defers := by rw [putFrom_defers]; exact h.defers
  subst e1 e2
  rfl

theorem Told.evals {n : Nat} (hB : toldB ops n = true) {a0 a : Act} (hn : a0.tmps.size = n) {vs : Nat → Value} {listed : Array Bool} (h : Told ops a0 vs listed a) {i : Nat} {o : Oper} (ho : ops[i]? = some o)
    (hr : ∀ e ∈ o.after, Region.binds .any e = true → listed.getD e.on false = true) : execOp (putFrom vs ops.toList 0 a0).eval o = execOp a.eval o := by
  have hs : Region.noSelect ops = true := by simp only [toldB, Bool.and_eq_true] at hB; exact hB.1
  refine execOp_congr o (fun cs b => Region.noSelect_spec hs i o cs b ho) fun x hx => ?_
  cases x with
  | tmp t =>
    simp only [Act.eval, Array.getD_eq_getD_getElem?]
    congr 1
    by_cases ht : ∃ (j : Nat) (o' : Oper), ops[j]? = some o' ∧ o'.dst = some t
    · obtain ⟨j, o', ho', hd⟩ := ht
      obtain ⟨e, he, hb, hon⟩ := ((toldB_spec hB ho).2.2 j o' t ho' hd).2 (by simpa using hx)
      rw [putFrom_at hB hn vs ho' hd, h.done j o' t ho' hd (hon ▸ hr e he hb)]
    · rw [h.rest t (fun j (o : Oper) ho hd => absurd ⟨j, o, ho, hd⟩ ht), putFrom_other]
      intro (o : Oper) ho hd
      obtain ⟨j, hj⟩ := List.mem_iff_getElem?.1 ho
      exact ht ⟨j, o, by simpa using hj, hd⟩
  | _ => rfl

theorem getD_set_eqT {listed : Array Bool} {i j : Nat} (h : (listed.setIfInBounds i true).getD j false = true) : j = i ∨ listed.getD j false = true := by
  by_cases hij : j = i
  · exact .inl hij
  · rw [getD_set_ne false (Ne.symm hij)] at h; exact .inr h

theorem getD_hereT {listed : Array Bool} {i : Nat} (h : listed.getD i true = false) : (listed.setIfInBounds i true).getD i false = true := by
  have hlt : i < listed.size := by
    rcases Nat.lt_or_ge i listed.size with h' | h'
    · exact h'
    · simp [Array.getElem?_eq_none h'] at h
  simp [hlt]

theorem Told.put {n : Nat} (hB : toldB ops n = true) {a0 a : Act} (hn : a0.tmps.size = n) {vs : Nat → Value} {listed : Array Bool} (h : Told ops a0 vs listed a) {i : Nat} {o : Oper} (ho : ops[i]? = some o)
    (hun : listed.getD i true = false) (v : Value) : Told ops a0 (upd vs i v) (listed.setIfInBounds i true) (a.put o.dst v) where
  defers := by rw [put_defersT]; exact h.defers
  size := by rw [put_sizeT]; exact h.size
  done := fun j o' d ho' hd hl => by
    by_cases hji : j = i
    · subst hji
      obtain rfl : o' = o := by rw [ho] at ho'; exact (Option.some.inj ho').symm
      rw [upd_same, put_hereT hd (by rw [h.size, hn]; exact (toldB_spec hB ho).2.1 d hd)]
    · rw [upd_other vs v hji, put_otherT]
      · exact h.done j o' d ho' hd ((getD_set_eqT hl).resolve_left hji)
      · exact (((toldB_spec hB ho).2.2 j o' d ho' hd).1).resolve_left hji
  rest := fun t ht => by
    rw [put_otherT, h.rest t (fun j (o' : Oper) ho' hd => ?_)]
    · have := ht j o' ho' hd
      by_cases hji : j = i
      · subst hji; rw [getD_hereT hun] at this; cases this
      · rwa [getD_set_ne false (Ne.symm hji)] at this
    · intro hd
      have := ht i o ho hd
      rw [getD_hereT hun] at this; cases this

/-- **A region whose operations make memory.** T: what each operation's value tells in a world; it stands whatever memory is made besides. The operation number s (if there is one) comes last of all and may do anything: E. -/
theorem wp_region_told {id : Nat} {a0 : Act} {w0 : World} (n s : Nat) (T : Nat → Value → World → Prop) (E : (Nat → Value) → World → Prop)
    (hm : P.follows .mixedOrders = true) (hn : a0.tmps.size = n) (hB : toldB ops n = true) (hl : s < ops.size → lastB ops s = true)
    (hT : ∀ j v w w', j < ops.size → T j v w → Below w0.heap.size w0 w → Below w.heap.size w w' → T j v w')
    (hstep : ∀ i o vs w, i ≠ s → ops[i]? = some o → Below w0.heap.size w0 w → (∀ j, (∃ e ∈ o.after, Region.binds .any e = true ∧ e.on = j) → T j (vs j) w) →
      ∀ K : Act → World → Prop, (∀ v w', Below w.heap.size w w' ∧ T i v w' → K ((putFrom vs ops.toList 0 a0).put o.dst v) w') → o.wp P (putFrom vs ops.toList 0 a0) w K (fun _ _ _ => False))
    (hlast : ∀ o vs w, ops[s]? = some o → Below w0.heap.size w0 w → (∀ j, j < ops.size → j ≠ s → T j (vs j) w) →
      ∀ K : Act → World → Prop, (∀ v w', E (upd vs s v) w' → K ((putFrom vs ops.toList 0 a0).put o.dst v) w') → o.wp P (putFrom vs ops.toList 0 a0) w K (fun _ _ _ => False))
    (hno : ops.size ≤ s → ∀ vs w, Below w0.heap.size w0 w → (∀ j, j < ops.size → T j (vs j) w) → E vs w)
    (h : ∀ vs w, E vs w → Q .normal (putFrom vs ops.toList 0 a0) w) : (Code.region id ops true).wp P Q a0 w0 := by
  refine wp_region_any hm ?_
  refine wpAny_inv (md := .any)
    (fun listed a w => ∃ vs, Told ops a0 vs listed a ∧ (∀ i o, ops[i]? = some o → listed.getD i false = true → ∀ e ∈ o.after, Region.binds .any e = true → listed.getD e.on false = true) ∧ listed.size = ops.size ∧
      ((listed.getD s false = true ∧ E vs w) ∨ (listed.getD s false = false ∧ Below w0.heap.size w0 w ∧ ∀ j, j < ops.size → listed.getD j false = true → T j (vs j) w))) ?_ ?_ ops.size _ a0 _ ?_ ?_
  · -- a step
    rintro listed a w i ⟨vs, ht, hcl, hsz, hI⟩ hi
    obtain ⟨hun, o, ho, hall⟩ := mem_ready.1 hi
    have hi0 : i < ops.size := (Array.getElem?_eq_some_iff.1 ho).1
    have hcl' : ∀ j o', ops[j]? = some o' → (listed.setIfInBounds i true).getD j false = true → ∀ e ∈ o'.after, Region.binds .any e = true → (listed.setIfInBounds i true).getD e.on false = true := by
      intro j o' ho' hj e he hb
      rcases getD_set_eqT hj with rfl | hj'
      · obtain rfl : o' = o := by rw [ho] at ho'; exact (Option.some.inj ho').symm
        exact getD_set_true (hall e he hb)
      · exact getD_set_true (hcl j o' ho' hj' e he hb)
    unfold wpOp
    simp only [ho]
    have hw : Region.wanted o (yielded ops a.tmps) = true := by simp [Region.wanted, (toldB_spec hB ho).1.1]
    rw [if_pos hw]
    refine .inl ?_
    by_cases his : i = s
    · -- the last of all
      subst his
      have hothers : ∀ k, ∀ j, j < ops.size → ops.size - j ≤ k → j ≠ i → listed.getD j false = true := by
        intro k
        induction k with
        | zero => intro j hj hk _; omega
        | succ k ih =>
          intro j hj hk hji
          have := hl hi0
          simp only [lastB, List.all_eq_true, List.mem_range, Bool.or_eq_true, List.any_eq_true, Bool.and_eq_true, decide_eq_true_eq] at this
          rcases this j hj with h1 | ⟨m, hm', hjm, h2⟩
          · exact absurd (by simpa using h1) hji
          · cases hom : ops[m]? with
            | none => simp [hom] at h2
            | some om =>
              simp only [hom] at h2
              obtain ⟨e, he, hb, hon⟩ := any_edge h2
              by_cases hmi : m = i
              · subst hmi
                obtain rfl : om = o := by rw [ho] at hom; exact (Option.some.inj hom).symm
                exact hon ▸ hall e he hb
              · exact hon ▸ hcl m om hom (ih m hm' (by omega) hmi) e he hb
      have hsf : listed.getD i false = false := by
        have hlt : i < listed.size := by omega
        simp [hlt] at hun ⊢; exact hun
      have hI' : Below w0.heap.size w0 w ∧ ∀ j, j < ops.size → listed.getD j false = true → T j (vs j) w := by
        rcases hI with ⟨h1, _⟩ | ⟨_, h2⟩
        · rw [hsf] at h1; cases h1
        · exact h2
      refine Oper.wp_mono ?_ (Oper.wp_frame (Z := fun v w' => E (upd vs i v) w') (ht.evals hB hn ho hall) (fun d hd => by rw [putFrom_size, hn]; exact (toldB_spec hB ho).2.1 d hd)
        (fun K hK => hlast o vs w ho hI'.1 (fun j hj hji => hI'.2 j hj (hothers _ j hj (Nat.le_refl _) hji)) K hK))
      rintro a' w' ⟨v, rfl, hz⟩
      exact ⟨upd vs i v, ht.put hB hn ho hun v, hcl', by simpa using hsz, .inl ⟨getD_hereT hun, hz⟩⟩
    · have hI' : listed.getD s false = false ∧ Below w0.heap.size w0 w ∧ ∀ j, j < ops.size → listed.getD j false = true → T j (vs j) w := by
        rcases hI with ⟨h1, _⟩ | h2
        · exfalso
          -- s is done: so all is done
          have hs0 : s < ops.size := by
            rcases Nat.lt_or_ge s listed.size with h' | h'
            · omega
            · simp [Array.getElem?_eq_none h'] at h1
          have hnot : ∀ k, ∀ j, j < ops.size → ops.size - j ≤ k → listed.getD j false = true := by
            intro k
            induction k with
            | zero => intro j hj hk; omega
            | succ k ih =>
              intro j hj hk
              have := hl hs0
              simp only [lastB, List.all_eq_true, List.mem_range, Bool.or_eq_true, List.any_eq_true, Bool.and_eq_true, decide_eq_true_eq] at this
              rcases this j hj with h2 | ⟨m, hm', hjm, h2⟩
              · obtain rfl : j = s := by simpa using h2
                exact h1
              · cases hom : ops[m]? with
                | none => simp [hom] at h2
                | some om =>
                  simp only [hom] at h2
                  obtain ⟨e, he, hb, hon⟩ := any_edge h2
                  exact hon ▸ hcl m om hom (ih m hm' (by omega)) e he hb
          have h3 := hnot _ i hi0 (Nat.le_refl _)
          have hlt : i < listed.size := by omega
          simp [hlt] at hun h3
          rw [hun] at h3; cases h3
        · exact h2
      refine Oper.wp_mono ?_ (Oper.wp_frame (Z := fun v w' => Below w.heap.size w w' ∧ T i v w') (ht.evals hB hn ho hall) (fun d hd => by rw [putFrom_size, hn]; exact (toldB_spec hB ho).2.1 d hd)
        (fun K hK => hstep i o vs w his ho hI'.2.1 (fun j ⟨e, he, hb, hon⟩ => hI'.2.2 j ?_ (hon ▸ hall e he hb)) K hK))
      · rintro a' w' ⟨v, rfl, hz1, hz2⟩
        refine ⟨upd vs i v, ht.put hB hn ho hun v, hcl', by simpa using hsz, .inr ⟨by rw [getD_set_ne false his]; exact hI'.1, hI'.2.1.trans (hz1.mono hI'.2.1.size), fun j hj hjl => ?_⟩⟩
        by_cases hji : j = i
        · subst hji; rw [upd_same]; exact hz2
        · rw [upd_other vs v hji]
          exact hT j _ w w' hj (hI'.2.2 j hj ((getD_set_eqT hjl).resolve_left hji)) hI'.2.1 hz1
      · have := hall e he hb
        rw [hon] at this
        rcases Nat.lt_or_ge j listed.size with h' | h'
        · omega
        · simp [Array.getElem?_eq_none h'] at this
  · -- the end
    rintro listed a w ⟨vs, ht, hcl, hsz, hI⟩ hr
    have hall : ∀ k, ∀ j, j < k → j < ops.size → listed.getD j false = true := by
      intro k
      induction k with
      | zero => intro j hj; omega
      | succ k ih =>
        intro j hj hjs
        have hjl : j < listed.size := by omega
        cases hd : listed[j] with
        | true => simp [hjl, hd]
        | false =>
          exfalso
          have ho : ops[j]? = some ops[j] := by simp [hjs]
          have hrd : j ∈ Region.ready .any ops listed := mem_ready.2 ⟨by simp [hjl, hd], ops[j], ho, fun e he hb => ?_⟩
          · rw [hr] at hrd; cases hrd
          · have := (toldB_spec hB ho).1.2 e he hb
            exact ih e.on (by omega) (by omega)
    rw [ht.full hB hn (fun j hj => hall (j + 1) j (by omega) hj)]
    refine h vs w ?_
    rcases hI with ⟨_, h2⟩ | ⟨h1, h2, h3⟩
    · exact h2
    · rcases Nat.lt_or_ge s ops.size with h' | h'
      · rw [hall (s + 1) s (by omega) h'] at h1; cases h1
      · exact hno h' vs w h2 (fun j hj => h3 j hj (hall (j + 1) j (by omega) hj))
  · simp [undone]
  · have hf : ∀ j, (Array.replicate ops.size false).getD j false = false := fun j => by
      rcases Nat.lt_or_ge j ops.size with h' | h'
      · simp [h']
      · simp [Nat.not_lt.2 h']
    refine ⟨fun _ => undef, ⟨rfl, rfl, fun j o d ho hd hl => ?_, fun t _ => rfl⟩, fun i o ho hl => ?_, by simp, .inr ⟨hf s, (Below.refl _ _).drew, fun j hj hl => ?_⟩⟩
    all_goals (rw [hf] at hl; cases hl)

/-- a law for each operation of a list, the first has number k -/
def AllP (p : Nat → Oper → Prop) : List Oper → Nat → Prop
  | [], _ => True
  | o :: l, k => p k o ∧ AllP p l (k + 1)
theorem AllP.at_ {p : Nat → Oper → Prop} : ∀ {l : List Oper} {k : Nat}, AllP p l k → ∀ {i : Nat} {o : Oper}, l[i]? = some o → p (k + i) o
  | [], _, _, _, _, h => by simp at h
  | o :: l, k, h, 0, o1, hi => by
    obtain rfl : o = o1 := by simpa using hi
    exact h.1
  | o :: l, k, h, i + 1, o1, hi => by
    rw [show k + (i + 1) = k + 1 + i by omega]
    exact h.2.at_ (by simpa using hi)

/-- the same, for a region that is written out: one goal an operation -/
theorem wp_region_told_lit {id : Nat} {l : List Oper} {tm : Array Value} {df : List Deferred} {w0 : World} (n s : Nat) (T : Nat → Value → World → Prop) (E : (Nat → Value) → World → Prop) (F : (Nat → Value) → Act)
    (hm : P.follows .mixedOrders = true) (hln : l.length = n) (hB : toldB l.toArray tm.size = true) (hl : s < l.length → lastB l.toArray s = true) (hF : ∀ vs, putFrom vs l 0 ⟨tm, df⟩ = F vs)
    (hT : ∀ j v w w', j < l.length → T j v w → Below w0.heap.size w0 w → Below w.heap.size w w' → T j v w')
    (hstep : AllP (fun i o => (i ≠ s → ∀ vs w, Below w0.heap.size w0 w → (∀ j, (o.after.any fun e => Region.binds .any e && e.on == j) = true → T j (vs j) w) →
        ∀ K : Act → World → Prop, (∀ v w', Below w.heap.size w w' ∧ T i v w' → K ((F vs).put o.dst v) w') → o.wp P (F vs) w K (fun _ _ _ => False)) ∧
      (i = s → ∀ vs w, Below w0.heap.size w0 w → (∀ j, j < n → j ≠ s → T j (vs j) w) →
        ∀ K : Act → World → Prop, (∀ v w', E (upd vs s v) w' → K ((F vs).put o.dst v) w') → o.wp P (F vs) w K (fun _ _ _ => False))) l 0)
    (hno : l.length ≤ s → ∀ vs w, Below w0.heap.size w0 w → (∀ j, j < l.length → T j (vs j) w) → E vs w)
    (h : ∀ vs w, E vs w → Q .normal (F vs) w) : (Code.region id l.toArray true).wp P Q ⟨tm, df⟩ w0 := by
  refine wp_region_told tm.size s T E hm rfl hB (fun h => hl (by simpa using h)) (fun j v w w' hj => hT j v w w' (by simpa using hj)) ?_ ?_ (fun h vs w hb hj => hno (by simpa using h) vs w hb (fun j hjl => hj j (by simpa using hjl))) ?_
  · intro i o vs w his ho hb hj K hK
    rw [show l.toArray.toList = l from rfl, hF] at *
    have := hstep.at_ (i := i) (o := o) (by simpa using ho)
    rw [Nat.zero_add] at this
    refine this.1 his vs w hb (fun j hjj => hj j ?_) K hK
    exact any_edge hjj
  · intro o vs w ho hb hj K hK
    rw [show l.toArray.toList = l from rfl, hF] at *
    have := hstep.at_ (i := s) (o := o) (by simpa using ho)
    rw [Nat.zero_add] at this
    exact this.2 rfl vs w hb (fun j hj1 hj2 => hj j (by simpa [hln] using hj1) hj2) K hK
  · intro vs w hE
    rw [show l.toArray.toList = l from rfl, hF]
    exact h vs w hE
end
end Go.Proofs.Ythooecojopfjbaa
namespace Go.Proofs.Ythooecojopfjbaa
open Go.RowKit

def RowTold (l : List Int) (v : Value) (w : World) : Prop := ∃ g, v = .slice (some ⟨g, 0, none⟩) l.length l.length ∧ Blk w g 3 (intsC l)
def NodeTold (x : NodeD) (v : Value) (w : World) : Prop := ∃ (A : Option Addr) (n c : Nat), v = .agg #[.int .i64 x.op, .slice A n c, .int .i64 x.n, .int .i64 x.d, .string x.name] ∧ VNode w (fun b => b < w.heap.size) [.int .i64 x.op, .slice A n c, .int .i64 x.n, .int .i64 x.d, .string x.name] x
def NodesTold (xs : List NodeD) (v : Value) (w : World) : Prop := ∃ g, v = .slice (some ⟨g, 0, none⟩) xs.length xs.length ∧ Arr AtNode 5 w (fun b => b < w.heap.size) (some ⟨g, 0, none⟩) xs.length xs
def DeclsTold (v : Value) (w : World) : Prop := ∃ A c, v = .slice A 14 c ∧ 14 ≤ c ∧ Arr AtDecl 3 w (fun b => b < w.heap.size) A 14 declsK
def AskTold (xs : List NodeD) (v : Value) (w : World) : Prop := ∃ A c g, v = .agg #[.slice A 14 c, .slice (some ⟨g, 0, none⟩) xs.length xs.length, .slice none 0 0] ∧ 14 ≤ c ∧ Arr AtDecl 3 w (fun b => b < w.heap.size) A 14 declsK ∧
  Arr AtNode 5 w (fun b => b < w.heap.size) (some ⟨g, 0, none⟩) xs.length xs
def BoxTold (B : Nat) (v : Value) (w : World) : Prop := ∃ q, v = .pointer (some ⟨q, 0, none⟩) ∧ B ≤ q ∧ Blk w q 26 #[.slice none 0 0, .slice none 0 0, .slice none 0 0]

section
variable {w w' : World} {v : Value}
theorem RowTold.keep {l : List Int} (h : RowTold l v w) (hb : Below w.heap.size w w') : RowTold l v w' := by
  obtain ⟨g, h1, h2⟩ := h
  exact ⟨g, h1, h2.below hb h2.lt⟩
theorem NodeTold.keep {x : NodeD} (h : NodeTold x v w) (hb : Below w.heap.size w w') : NodeTold x v w' := by
  obtain ⟨A, n, c, h1, h2⟩ := h
  exact ⟨A, n, c, h1, tells_node.keep _ _ _ _ _ _ (fun b hb' => Nat.lt_of_lt_of_le hb' hb.size) (fun b o hb' => hb.cell (p := ⟨b, o, none⟩) hb') h2⟩
theorem NodesTold.keep {xs : List NodeD} (h : NodesTold xs v w) (hb : Below w.heap.size w w') : NodesTold xs v w' := by
  obtain ⟨g, h1, h2⟩ := h
  exact ⟨g, h1, h2.keep stays_node (fun b hb' => Nat.lt_of_lt_of_le hb' hb.size) (fun b o hb' => hb.cell (p := ⟨b, o, none⟩) hb')⟩
theorem DeclsTold.keep (h : DeclsTold v w) (hb : Below w.heap.size w w') : DeclsTold v w' := by
  obtain ⟨A, c, h1, h3, h2⟩ := h
  exact ⟨A, c, h1, h3, h2.keep stays_decl (fun b hb' => Nat.lt_of_lt_of_le hb' hb.size) (fun b o hb' => hb.cell (p := ⟨b, o, none⟩) hb')⟩
theorem AskTold.keep {xs : List NodeD} (h : AskTold xs v w) (hb : Below w.heap.size w w') : AskTold xs v w' := by
  obtain ⟨A, c, g, h1, h3, h2, h4⟩ := h
  exact ⟨A, c, g, h1, h3, h2.keep stays_decl (fun b hb' => Nat.lt_of_lt_of_le hb' hb.size) (fun b o hb' => hb.cell (p := ⟨b, o, none⟩) hb'), h4.keep stays_node (fun b hb' => Nat.lt_of_lt_of_le hb' hb.size) (fun b o hb' => hb.cell (p := ⟨b, o, none⟩) hb')⟩
theorem BoxTold.keep {B : Nat} (h : BoxTold B v w) (hb : Below w.heap.size w w') : BoxTold B v w' := by
  obtain ⟨g, h1, h0, h2⟩ := h
  exact ⟨g, h1, h0, h2.below hb h2.lt⟩

/-- a row of numbers is made -/
theorem row_new (w : World) (l : List Int) : Below w.heap.size w (w.alloc (.cells (intsC l) 3)) ∧ RowTold l (.slice (some ⟨w.heap.size, 0, none⟩) l.length l.length) (w.alloc (.cells (intsC l) 3)) :=
  ⟨(Below.refl _ _).alloc (Nat.le_refl _) _, _, rfl, Blk.new w 3 (intsC l)⟩
theorem box_new {B : Nat} (h : B ≤ w.heap.size) : Below w.heap.size w (w.alloc (.cells #[.slice none 0 0, .slice none 0 0, .slice none 0 0] 26)) ∧ BoxTold B (.pointer (some ⟨w.heap.size, 0, none⟩)) (w.alloc (.cells #[.slice none 0 0, .slice none 0 0, .slice none 0 0] 26)) :=
  ⟨(Below.refl _ _).alloc (Nat.le_refl _) _, _, rfl, h, Blk.new w 26 _⟩
theorem node_name (w : World) (c : UInt8) : NodeTold (nameN c) (.agg #[.int .i64 9, .slice none 0 0, .int .i64 0, .int .i64 0, .string { data := #[c] }]) w := ⟨none, 0, 0, rfl, vnode_name c⟩
theorem node_plain (w : World) (op n d : Int) (ho : 0 ≤ op ∧ op ≤ 100) (hn : 0 ≤ n ∧ n ≤ 100) (hd : 0 ≤ d ∧ d ≤ 100) : NodeTold (opN op [] n d) (.agg #[.int .i64 op, .slice none 0 0, .int .i64 n, .int .i64 d, .string { data := #[] }]) w :=
  ⟨none, 0, 0, rfl, vnode_plain op n d (by unfold I64; omega) (by unfold I64; omega) (by unfold I64; omega)⟩
theorem node_kids {l : List Int} (h : RowTold l v w) (op n d : Int) (hi : ∀ x ∈ l, 0 ≤ x ∧ x ≤ 100) (hl : l.length ≤ 10) (ho : 0 ≤ op ∧ op ≤ 100) (hn : 0 ≤ n ∧ n ≤ 100) (hd : 0 ≤ d ∧ d ≤ 100) :
    NodeTold (opN op l n d) (.agg #[.int .i64 op, v, .int .i64 n, .int .i64 d, .string { data := #[] }]) w := by
  obtain ⟨g, rfl, hk⟩ := h
  exact ⟨_, _, _, rfl, vnode_kids l hk (by simp [intsC]) hi hk.lt hl op n d (by unfold I64; omega) (by unfold I64; omega) (by unfold I64; omega)⟩

/-- nodes, one behind the other, as cells -/
def nodeCells : List (NodeD × Option Addr × Nat × Nat) → List Value
  | [] => []
  | (x, A, n, c) :: r => .int .i64 x.op :: .slice A n c :: .int .i64 x.n :: .int .i64 x.d :: .string x.name :: nodeCells r
theorem nodes_cels {S : Nat → Prop} : ∀ (l : List (NodeD × Option Addr × Nat × Nat)), (∀ p ∈ l, VNode w S [.int .i64 p.1.op, .slice p.2.1 p.2.2.1 p.2.2.2, .int .i64 p.1.n, .int .i64 p.1.d, .string p.1.name] p.1) → Cels VNode w S (l.map (·.1)) (nodeCells l)
  | [], _ => rfl
  | (x, A, n, c) :: r, h => ⟨_, _, rfl, h (x, A, n, c) (by simp), nodes_cels r fun p hp => h p (by simp [hp])⟩
/-- a row of nodes is made -/
theorem nodes_new (l : List (NodeD × Option Addr × Nat × Nat)) (h : ∀ p ∈ l, VNode w (fun b => b < w.heap.size) [.int .i64 p.1.op, .slice p.2.1 p.2.2.1 p.2.2.2, .int .i64 p.1.n, .int .i64 p.1.d, .string p.1.name] p.1) :
    Below w.heap.size w (w.alloc (.cells (nodeCells l).toArray 59)) ∧ NodesTold (l.map (·.1)) (.slice (some ⟨w.heap.size, 0, none⟩) l.length l.length) (w.alloc (.cells (nodeCells l).toArray 59)) := by
  have hb : Below w.heap.size w (w.alloc (.cells (nodeCells l).toArray 59)) := (Below.refl _ _).alloc (Nat.le_refl _) _
  have hk := Blk.new w 59 (nodeCells l).toArray
  refine ⟨hb, w.heap.size, by rw [List.length_map], ?_⟩
  refine arr_of_blk (S := fun b => b < (w.alloc (.cells (nodeCells l).toArray 59)).heap.size) (xs := l.map (·.1)) tells_node (fun _ _ _ _ _ h => atV_node h) hk ?_ hk.lt
  exact nodes_cels l fun p hp => tells_node.keep _ _ _ _ _ _ (fun b hb' => Nat.lt_of_lt_of_le hb' hb.size) (fun b o hb' => hb.cell (p := ⟨b, o, none⟩) hb') (h p hp)

/-- what an operation's value tells -/
inductive TD where
  | decls
  | node (x : NodeD)
  | row (l : List Int)
  | nodes (xs : List NodeD)
  | ask (xs : List NodeD)
  | box (B : Nat)
  | any
def TD.P : TD → Value → World → Prop
  | .decls => DeclsTold
  | .node x => NodeTold x
  | .row l => RowTold l
  | .nodes xs => NodesTold xs
  | .ask xs => AskTold xs
  | .box B => BoxTold B
  | .any => fun _ _ => True
theorem TD.keep {t : TD} (h : t.P v w) (hb : Below w.heap.size w w') : t.P v w' := by
  cases t with
  | decls => exact DeclsTold.keep h hb
  | node x => exact NodeTold.keep h hb
  | row l => exact RowTold.keep h hb
  | nodes xs => exact NodesTold.keep h hb
  | ask xs => exact AskTold.keep h hb
  | box B => exact BoxTold.keep h hb
  | any => exact h

/-- the ask lies in its box -/
def ArrMade (w : World) (xs : List NodeD) (s : Value) (W : World) : Prop := ∃ (A2 : Option Addr) (c2 : Nat) (B : Option Addr) (q : Nat), s = .pointer (some ⟨q, 0, none⟩) ∧ 14 ≤ c2 ∧ Below w.heap.size w W ∧ Blk W q 26 #[.slice A2 14 c2, .slice B xs.length xs.length, .slice none 0 0] ∧
  AskIn W W.heap.size A2 B none 14 xs.length 0 ⟨declsK, xs, []⟩
/-- a block that holds slices only: no number, no text, no declaration and no node lies in it -/
def Slices (w : World) (q : Nat) : Prop := ∀ o v, w.cell? ⟨q, o, none⟩ = some v → ∃ A n c, v = .slice A n c
theorem Blk.slices {q : Nat} {t : TypeId} {A1 A2 A3 : Option Addr} {n1 n2 n3 c1 c2 c3 : Nat} (h : Blk w q t #[.slice A1 n1 c1, .slice A2 n2 c2, .slice A3 n3 c3]) : Slices w q := fun o v hv => by
  rw [h.cell] at hv
  match o, hv with
  | 0, hv => exact ⟨A1, n1, c1, by simpa using hv.symm⟩
  | 1, hv => exact ⟨A2, n2, c2, by simpa using hv.symm⟩
  | 2, hv => exact ⟨A3, n3, c3, by simpa using hv.symm⟩
  | o + 3, hv => simp at hv
section
variable {S : Nat → Prop} {q : Nat}
theorem int_off (hs : Slices w q) {b o : Nat} {x : Int} (h : AtInt w S b o x) : b ≠ q := by
  rintro rfl; obtain ⟨A, n, c, e⟩ := hs o _ h.1; cases e
theorem ints_off (hs : Slices w q) {A : Option Addr} {n : Nat} {xs : List Int} (h : Arr AtInt 1 w S A n xs) : Arr AtInt 1 w (fun b => S b ∧ b ≠ q) A n xs :=
  ⟨h.len, fun i x hx => by obtain ⟨b, off, e, hb, hx'⟩ := h.at_ i x hx; exact ⟨b, off, e, ⟨hb, int_off hs hx'⟩, hx'⟩⟩
theorem decls_off (hs : Slices w q) {A : Option Addr} {n : Nat} {xs : List DeclD} (h : Arr AtDecl 3 w S A n xs) : Arr AtDecl 3 w (fun b => S b ∧ b ≠ q) A n xs :=
  ⟨h.len, fun i x hx => by
    obtain ⟨b, off, e, hb, h1, ⟨A', n', c', h2, h3, h4, h5⟩, h6⟩ := h.at_ i x hx
    exact ⟨b, off, e, ⟨hb, int_off hs h6⟩, h1, ⟨A', n', c', h2, h3, h4, ints_off hs h5⟩, h6⟩⟩
theorem nodes_off (hs : Slices w q) {A : Option Addr} {n : Nat} {xs : List NodeD} (h : Arr AtNode 5 w S A n xs) : Arr AtNode 5 w (fun b => S b ∧ b ≠ q) A n xs :=
  ⟨h.len, fun i x hx => by
    obtain ⟨b, off, e, hb, h1, ⟨A', n', c', h2, h3, h4, h5⟩, h6⟩ := h.at_ i x hx
    exact ⟨b, off, e, ⟨hb, int_off hs h1⟩, h1, ⟨A', n', c', h2, h3, h4, ints_off hs h5⟩, h6⟩⟩
end
theorem three_else (W : World) (q : Nat) (a b c : Value) {p : Addr} (hp : p.block ≠ q) : (((W.setCell ⟨q, 0, none⟩ a).setCell ⟨q, 1, none⟩ b).setCell ⟨q, 2, none⟩ c).cell? p = W.cell? p := by
  rw [World.cell?_setCell_other _ _ _ _ (by rintro rfl; exact hp rfl), World.cell?_setCell_other _ _ _ _ (by rintro rfl; exact hp rfl), World.cell?_setCell_other _ _ _ _ (by rintro rfl; exact hp rfl)]
/-- the ask is put into its box -/
theorem ask_made {w X W : World} {xs : List NodeD} {vq : Value} {q : Nat} {AD : Option Addr} {cD gN : Nat} (hl : xs.length ≤ 100) (hX : Below w.heap.size w X) (hb : Below X.heap.size X W) (vq' : vq = .pointer (some ⟨q, 0, none⟩)) (hq : X.heap.size ≤ q)
    (hkq : Blk W q 26 #[.slice none 0 0, .slice none 0 0, .slice none 0 0]) (hcD : 14 ≤ cD) (hD : Arr AtDecl 3 W (fun b => b < W.heap.size) AD 14 declsK) (hN : Arr AtNode 5 W (fun b => b < W.heap.size) (some ⟨gN, 0, none⟩) xs.length xs) :
    ArrMade w xs vq (((W.setCell ⟨q, 0, none⟩ (.slice AD 14 cD)).setCell ⟨q, 1, none⟩ (.slice (some ⟨gN, 0, none⟩) xs.length xs.length)).setCell ⟨q, 2, none⟩ (.slice none 0 0)) := by
  have hs : Slices W q := hkq.slices
  have h1 := three_blk hkq (.slice AD 14 cD) (.slice (some ⟨gN, 0, none⟩) xs.length xs.length) (.slice none 0 0)
  have h2 : Below w.heap.size w _ := three_below (hX.trans (hb.mono hX.size)) (Nat.le_trans hX.size hq) (.slice AD 14 cD) (.slice (some ⟨gN, 0, none⟩) xs.length xs.length) (.slice none 0 0)
  have h3 := fun (p : Addr) hp => three_else W q (.slice AD 14 cD) (.slice (some ⟨gN, 0, none⟩) xs.length xs.length) (.slice none 0 0) (p := p) hp
  have hz : W.heap.size ≤ (((W.setCell ⟨q, 0, none⟩ (.slice AD 14 cD)).setCell ⟨q, 1, none⟩ (.slice (some ⟨gN, 0, none⟩) xs.length xs.length)).setCell ⟨q, 2, none⟩ (.slice none 0 0)).heap.size := (three_below (B := 0) ((Below.refl W.heap.size W).mono (Nat.zero_le _)) (Nat.zero_le _) (.slice AD 14 cD) (.slice (some ⟨gN, 0, none⟩) xs.length xs.length) (.slice none 0 0)).size
  generalize (((W.setCell ⟨q, 0, none⟩ (.slice AD 14 cD)).setCell ⟨q, 1, none⟩ (.slice (some ⟨gN, 0, none⟩) xs.length xs.length)).setCell ⟨q, 2, none⟩ (.slice none 0 0)) = Z at h1 h2 h3 hz ⊢
  refine ⟨AD, cD, _, q, vq', hcD, h2, h1, ⟨?_, ?_, Arr.nil_, by decide, ?_, Nat.zero_le _⟩⟩
  · exact (decls_off hs hD).keep stays_decl (fun b hb' => Nat.lt_of_lt_of_le hb'.1 hz) (fun b o hb' => h3 ⟨b, o, none⟩ hb'.2)
  · exact (nodes_off hs hN).keep stays_node (fun b hb' => Nat.lt_of_lt_of_le hb'.1 hz) (fun b o hb' => h3 ⟨b, o, none⟩ hb'.2)
  · omega
end
end Go.Proofs.Ythooecojopfjbaa
