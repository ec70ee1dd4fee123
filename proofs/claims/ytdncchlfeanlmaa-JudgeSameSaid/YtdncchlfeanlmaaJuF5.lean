/- An append of one thing to a slice whose capacity is its length, wherever it lies: it makes a new row of the call's own. No program is named here. · Walk: judge.step at kind 5 (an atom). -/
import Derived.Test.YtdncchlfeanlmaaOwnC
import Derived.Test.YtdncchlfeanlmaaJuEX
import Derived.Test.YtdncchlfeanlmaaJuS
import Derived.Deep.RegionLaw
import Derived.Lib.QuietBelow
namespace Go.Proofs.Ytdncchlfeanlmaa
open Go.RowKit

/-- a slice without room behind it, wherever it lies -/
def TightV {α : Type} (V : Val α) (w : World) (S : Nat → Prop) (v : Value) (xs : List α) : Prop :=
  (v = .slice none 0 0 ∧ xs = []) ∨ ∃ ad cells, v = .slice (some ad) xs.length xs.length ∧ Cels V w S xs cells ∧ ∀ j u, cells[j]? = some u → w.cell? (ad.add j) = some u

section
variable {α : Type} {V : Val α} {E : Ent α} {sz : Nat} {w w' : World} {S S' : Nat → Prop} {e base : Nat} {v : Value} {xs : List α}
/-- a slice that came in, clipped -/
theorem Arr.tight (hV : Tells V sz) (hE : ∀ w S b o x, E w S b o x → AtV V w S b o x) {A : Option Addr} (h : Arr E sz w S A xs.length xs) : TightV V w S (.slice A xs.length xs.length) xs := by
  rcases A with _ | ad
  · have h0 : xs = [] := by
      cases xs with
      | nil => rfl
      | cons x r => obtain ⟨b, off, e, _⟩ := h.at_ 0 x rfl; cases e
    subst h0
    exact .inl ⟨rfl, rfl⟩
  · obtain ⟨cells, h1, _, _, h4⟩ := h.news hV hE
    exact .inr ⟨ad, cells, rfl, h1, h4⟩
/-- a row of the call's own, clipped -/
theorem OwnV.tight {A : Option Addr} {n c : Nat} (h : OwnV V e sz w base S (.slice A n c) xs) : TightV V w S (.slice A xs.length xs.length) xs := by
  obtain ⟨cells, hown, hels⟩ := h
  rcases hown.2 with ⟨he, h0⟩ | ⟨g, cap, cur, he, hb, hh, hn, hcap, hcs, htake⟩
  · injection he with h1 h2 h3
    subst h1
    rw [h0]
    exact .inl ⟨rfl, List.eq_nil_of_length_eq_zero h0⟩
  · have hc := fun hg => hown.cells (g := g) hg
    injection he with h1 h2 h3
    subst h1
    refine .inr ⟨_, cells, rfl, hels, fun j u hu => ?_⟩
    exact hc rfl j u hu
theorem TightV.kept (hV : Tells V sz) (h : TightV V w S v xs) (hS : ∀ b, S b → S' b) (hk : ∀ b o, S b → w'.cell? ⟨b, o, none⟩ = w.cell? ⟨b, o, none⟩) (hc : ∀ ad : Addr, v = .slice (some ad) xs.length xs.length → ∀ (j : Nat), j < xs.length * sz → w'.cell? (ad.add j) = w.cell? (ad.add j)) : TightV V w' S' v xs := by
  rcases h with ⟨h1, h2⟩ | ⟨ad, cells, rfl, h1, h2⟩
  · exact .inl ⟨h1, h2⟩
  · have hl := h1.len hV
    refine .inr ⟨ad, cells, rfl, Cels.keep hV hS hk _ _ h1, fun j u hu => (hc ad rfl j ?_).trans (h2 j u hu)⟩
    rw [← hl]
    exact (List.getElem?_eq_some_iff.1 hu).1

theorem run_append_tight_item {P : Program} {t ty : TypeId} {bytes : Nat} (T : RowT P t e sz bytes) (hV : Tells V sz) (hown : TightV V w S v xs)
    {g : Nat} {cs : Array Value} {t' : TypeId} {c : Nat} (hblk : Blk w g t' cs) {x : α} (hx : V w S cs.toList x) (hS : ∀ b, S b → b < w.heap.size)
    (h63 : xs.length + 1 ≤ maxLen) (hbytes : (xs.length + 1) * bytes ≤ 140737488355328) (hbase : base ≤ w.heap.size) :
    ∃ g' cap w', (Builtin.append_ #[t, t] ty #[v, .slice (some ⟨g, 0, none⟩) 1 c]).run P w = .ok (.slice (some ⟨g', 0, none⟩) (xs.length + 1) cap) w' ∧ OwnV V e sz w' base S (.slice (some ⟨g', 0, none⟩) (xs.length + 1) cap) (xs ++ [x]) ∧
      w.grownBy w' none ∧ w.heap.size ≤ g' ∧ g' < w'.heap.size := by
  obtain ⟨ht, ⟨i, z, hi, hz, hsize, hby, hzs⟩, hpos⟩ := T
  have hl := hV.len _ _ _ _ hx
  have hnews : ∀ j u, cs.toList[j]? = some u → w.cell? ((⟨g, 0, none⟩ : Addr).add j) = some u := fun j u hj => by
    rw [Go.WideShapes.add_plain, Nat.zero_add, hblk.cell]
    simpa using hj
  rcases hown with ⟨rfl, rfl⟩ | ⟨ad, cells, rfl, h3, h4⟩
  · obtain ⟨cells, hrow, hels⟩ := OwnV.none_ V e sz w base S
    obtain ⟨g', cap, w', hr, h2, h3, h4, h5⟩ := run_append_lies (P := P) w t ty base e i z sz bytes ht hi hz hsize hby hzs hpos (.slice none 0 0) 0 cells hrow ⟨g, 0, none⟩ 1 c cs.toList (by omega) hnews (hV.one _ _ _ _ hx) (by omega) (by simpa using h63) (by simpa using hbytes) hbase _ rfl
    refine ⟨g', cap, w', by simpa using hr, ?_, h3, ?_, h5⟩
    · exact OwnV.push hV hels hx (by simpa using h2) h3 (fun b hb => ⟨hb, hS b hb, by simp [Value.ownBlock]⟩)
    · rcases h4 with h4 | h4
      · simp [Value.ownBlock] at h4
      · omega
  · subst hsize
    subst hby
    have hcl := h3.len hV
    have hr := run_append_grow (P := P) w t ty e i z ht hi hz ad xs.length xs.length cells hcl h4 ⟨g, 0, none⟩ 1 c cs.toList (by omega) hnews (by omega) (by unfold maxLen at h63; omega) (growslice_fits (by omega) hbytes)
    have hge := grownCap_ge w (xs.length + 1) xs.length e
    have hcm2 : grownCap w (xs.length + 1) xs.length e ≤ maxLen := grownCap_le_maxLen w (xs.length + 1) xs.length e h63
    have hgn : w.grownBy (w.drew.alloc (.cells (cells.toArray ++ cs.toList.toArray ++ Builtin.zeroCells z.cells (grownCap w (xs.length + 1) xs.length e - (xs.length + 1))) e)) none := ⟨rfl, rfl, rfl, by simp, fun k hk _ => (Below.heap_alloc w.drew _ k hk)⟩
    refine ⟨w.heap.size, _, _, hr, ?_, hgn, Nat.le_refl _, by simp⟩
    refine ⟨cells ++ cs.toList, ⟨by rw [List.length_append, hcl, hl, List.length_append, List.length_singleton, Nat.add_mul, Nat.one_mul], .inr ⟨w.heap.size, _, _, by simp, hbase, heap_alloc_new w.drew _, by simpa using hge, hcm2, ?_, ?_⟩⟩, Cels.keep hV (fun _ h => h) (fun b o hb => only_cell hgn (hS b hb) (by simp)) _ _ (Cels.app _ _ _ _ h3 (Cels.single hx))⟩
    · simp only [Array.size_append, List.size_toArray, size_zeroCells, hzs, hcl, hl]
      have : (xs.length + 1) * i.size ≤ grownCap w (xs.length + 1) xs.length e * i.size := Nat.mul_le_mul_right _ hge
      rw [Nat.sub_mul]
      rw [Nat.add_mul, Nat.one_mul] at this ⊢
      omega
    · simp only [Array.toList_append, List.append_assoc, List.length_append, List.length_singleton]
      rw [← List.append_assoc, show (xs.length + 1) * i.size = (cells ++ cs.toList).length from by rw [List.length_append, hcl, hl, Nat.add_mul, Nat.one_mul]]
      exact List.take_left

theorem step_append_tight {P : Program} {ops : Array Oper} {o : Oper} {a : Act} {K : Act → World → Prop} {Q : Exit → Act → World → Prop} {E0 : Prop} (hgd : o.guard = none) (s x : Operand) (t : TypeId)
    (ho : o.op = .call { callee := .builtin .append, args := #[s, x], argTypes := #[t, t] }) {bytes : Nat} (T : RowT P t e sz bytes) (hV : Tells V sz)
    (hs : a.eval s = v) (hown : TightV V w S v xs) {g : Nat} {cs : Array Value} {t' : TypeId} {c : Nat} (hxe : a.eval x = .slice (some ⟨g, 0, none⟩) 1 c) (hblk : Blk w g t' cs) {y : α} (hx : V w S cs.toList y)
    (hS : ∀ b, S b → b < w.heap.size) (h63 : xs.length + 1 ≤ maxLen) (hbytes : (xs.length + 1) * bytes ≤ 140737488355328) (hbase : base ≤ w.heap.size)
    (h : ∀ g' cap w', OwnV V e sz w' base S (.slice (some ⟨g', 0, none⟩) (xs.length + 1) cap) (xs ++ [y]) → w.grownBy w' none → w.heap.size ≤ g' → g' < w'.heap.size → K (a.put o.dst (.slice (some ⟨g', 0, none⟩) (xs.length + 1) cap)) w') :
    if Region.wanted o (yielded ops a.tmps) = true then Oper.wp P o a w K Q else E0 := by
  have hw : Region.wanted o (yielded ops a.tmps) = true := by simp [Region.wanted, hgd]
  rw [if_pos hw]
  obtain ⟨g', cap, w', hr, h2, h3, h4, h5⟩ := run_append_tight_item (P := P) (ty := o.type) (c := c) (base := base) T hV hown hblk hx hS h63 hbytes hbase
  unfold Oper.wp execOp
  simp only [ho, resolve, invoke, builtin, Sem.run_bind, Sem.run_pure, Result.andThen_ok, List.map_toArray, List.map_cons, List.map_nil, hs, hxe, hr]
  exact h g' cap w' h2 h3 h4 h5
end
end Go.Proofs.Ytdncchlfeanlmaa
namespace Go.Proofs.Ytdncchlfeanlmaa
open Go.RowKit

section
variable {w w3 X : World} {B G : Nat} {A1 : Option Addr} {c1 : Nat} {A2 : Option Addr} {c2 : Nat} {vF vA vC : Value} {ts : List TermD} {ints : List Bool} {s : JSt}
theorem atom_told {w : World} {S : Nat → Prop} {b o : Nat} {x : AtomD} (h : AtAtom w S b o x) : AtV VAtom w S b o x := by
  obtain ⟨⟨h1, i1⟩, ⟨h2, i2⟩, ⟨h3, i3⟩, ⟨A, n, c, h4, h5, h6, h7⟩, ⟨h8, i8⟩, h9, i9⟩ := h
  refine ⟨[.int .i64 x.kind, .int .i64 x.a, .int .i64 x.b, .slice A n c, .int .i64 x.row.kind, .int .i64 x.row.to_], ⟨A, n, c, rfl, ⟨i1, i2, i3, i8, i9⟩, h5, h6, h7⟩, fun j u hj => ?_⟩
  rcases j with _ | _ | _ | _ | _ | _ | j
  all_goals simp only [List.getElem?_cons_zero, List.getElem?_cons_succ, Option.some.injEq, List.getElem?_nil, reduceCtorEq] at hj
  · rw [← hj]; exact h1
  · rw [← hj]; exact h2
  · rw [← hj]; exact h3
  · rw [← hj]; exact h4
  · rw [← hj]; exact h8
  · rw [← hj]; exact h9
/-- the atoms, clipped -/
theorem JudgeM.tight (h : JudgeM w B G A1 c1 A2 c2 vF vA vC ts ints s) {A3 : Option Addr} {n c3 : Nat} (hv : vA = .slice A3 n c3) (hg : w.grownBy X none) : TightV VAtom X (fun b => b < B) (.slice A3 n n) s.atoms := by
  have hb : Below w.heap.size w X := below_then (Below.refl _ _) hg (Nat.le_refl _) (fun x hx => by cases hx)
  rcases (h.later hb).a with ⟨A4, c4, h1, h2, h3, h4⟩ | ⟨h1, _⟩
  · rw [hv] at h1
    injection h1 with e1 e2 e3
    subst e1
    rw [e2]
    exact h4.tight tells_atom (fun _ _ _ _ _ h => atom_told h)
  · obtain ⟨A5, c5, e, _⟩ := h1.len
    rw [hv] at e h1
    injection e with _ e2 _
    rw [e2]
    exact h1.tight
/-- the atoms' row is a new one, and is stored -/
theorem JudgeM.atomsTo (h : JudgeM w B G A1 c1 A2 c2 vF vA vC ts ints s) (hgw : w.grownBy w3 none) {g n c : Nat} {ats : List AtomD} (hown : OwnV VAtom 35 6 w3 B (fun b => b < B) (.slice (some ⟨g, 0, none⟩) n c) ats)
    (hat : w.heap.size ≤ g) (hl : ats.length ≤ 120) :
    JudgeM (w3.setCell ⟨G, 2, none⟩ (.slice (some ⟨g, 0, none⟩) n c)) B G A1 c1 A2 c2 vF (.slice (some ⟨g, 0, none⟩) n c) vC ts ints ⟨ats, s.cls⟩ ∧ Below B w (w3.setCell ⟨G, 2, none⟩ (.slice (some ⟨g, 0, none⟩) n c)) := by
  have hBw := h.hBw
  have hGw := h.blk.lt
  have hgG : g ≠ G := by omega
  have hset := set_grown w3 G 2 (.slice (some ⟨g, 0, none⟩) n c)
  have hz := hgw.size
  have hcell : ∀ b o, b < B → (w3.setCell ⟨G, 2, none⟩ (.slice (some ⟨g, 0, none⟩) n c)).cell? ⟨b, o, none⟩ = w.cell? ⟨b, o, none⟩ := fun b o hb =>
    (only_cell hset (Nat.lt_of_lt_of_le hb (Nat.le_trans hBw hz)) (by intro e; injection e with e; have := h.hB; omega)).trans (only_cell hgw (by omega) (by simp))
  have hS1 : ∀ b, b < B → b < B ∧ b < w.heap.size ∧ (none : Option Nat) ≠ some b := fun b hb => ⟨hb, by omega, by simp⟩
  have hS2 : ∀ b, b < B → b < B ∧ b < w3.heap.size ∧ (some G : Option Nat) ≠ some b := fun b hb => ⟨hb, by omega, by intro e; injection e with e; have := h.hB; omega⟩
  refine ⟨⟨(Blk.grown h.blk hgw (by simp)).set_ 2 _, h.t.keep stays_term (fun _ h => h) (fun b o hb => hcell b o hb), h.i.keep stays_bool (fun _ h => h) (fun b o hb => hcell b o hb), h.l1, h.hB, ?_, hl, (h.c.kept (tells_arr stays_int) hgw (by cases vC.ownBlock <;> simp) hS1).kept (tells_arr stays_int) hset (.inr h.n2) hS2, h.n2⟩, ?_⟩
  · refine .inr ⟨hown.kept tells_atom hset (.inr (by intro e; injection e with e; exact hgG e)) hS2, by intro e; injection e with e; exact hgG e, ?_⟩
    cases hv : vC.ownBlock with
    | none => exact .inl rfl
    | some x =>
      refine .inr fun e => ?_
      have e' : some g = some x := e
      injection e' with e'
      have := (h.c.lt x hv).2
      omega
  · exact ((Below.refl B w).grown hgw hBw (fun k hk => by cases hk)).grown hset (Nat.le_trans hBw hz) (fun k hk => by injection hk with hk; have := h.hB; omega)
end

set_option maxHeartbeats 1000000 in
theorem clipAtoms2_any (A : Option Addr) (n c : Nat) (w : World) (hn : n ≤ c) (hA : A = none → n = 0) :
    Calls Try.prog 35 #[.slice A n c] w fun e w' => e = .returned (.slice A n n) ∧ w' = w := by
  rcases A with _ | ⟨b, off, th⟩
  · obtain rfl := hA rfl
    go_enter Try.func35, Try.ntmps35
    go_wp2
    go_ret
    exact ⟨rfl, rfl⟩
  · clear hA
    have hnI : ((n : Int)) ≤ (c : Int) := by omega
    go_enter Try.func35, Try.ntmps35
    go_wp2
    go_ret
    exact ⟨rfl, rfl⟩
theorem Arr.none_zero {α : Type} {E : Ent α} {sz : Nat} {w : World} {S : Nat → Prop} {n : Nat} {xs : List α} (h : Arr E sz w S none n xs) : n = 0 := by
  rw [← h.len]
  cases xs with
  | nil => rfl
  | cons x r => obtain ⟨b, off, e, _⟩ := h.at_ 0 x rfl; cases e

set_option maxRecDepth 100000 in
set_option maxHeartbeats 4000000 in
theorem stepK5_any (B G : Nat) (A1 : Option Addr) (c1 : Nat) (A2 : Option Addr) (c2 : Nat) (vF vA vC : Value) (ts : List TermD) (ints : List Bool) (s : JSt) (L : Option Addr) (nl cl : Nat) (lits : List Int) (M : Option Addr) (nm cm : Nat) (nums : List FracD) (ak aa ab : Int) (O : Option Addr) (no co : Nat) (of_ : List Int) (rk rt : Int) (w : World)
    (h : JudgeM w B G A1 c1 A2 c2 vF vA vC ts ints s) (hlits : IntsB w B L nl lits) (hnl : nl ≤ 1000) (hcl : nl ≤ cl) (hnm : nums.length = nm) (hof : IntsB w B O no of_) (hnoc : no ≤ co) (hcom : co ≤ maxLen)
    (hVF : ∃ A5 n5 c5, vF = .slice A5 n5 c5) (hI : I64 ak ∧ I64 aa ∧ I64 ab ∧ I64 rk ∧ I64 rt) (hni : ints.length ≤ 12)
    (hform : formedF s.atoms.length ⟨5, lits, nums, ⟨ak, aa, ab, ⟨of_, rk, rt⟩⟩⟩ = true) (R : Bool) (hR : (!decide (¬ ak = 3 ∨ ¬ atomCode ⟨ak, aa, ab, ⟨of_, rk, rt⟩⟩ ts.length ints.length = 0 ∨ 120 ≤ s.atoms.length)) = R) :
    Calls Try.prog 18 #[.pointer (some ⟨G, 0, none⟩), .agg #[.int .i64 5, .slice L nl cl, .slice M nm cm, .int .i64 ak, .int .i64 aa, .int .i64 ab, .slice O no co, .int .i64 rk, .int .i64 rt]] w fun e w' => e = .returned (.bool R) ∧ Below B w w' ∧ (R = true → ∃ vA', JudgeM w' B G A1 c1 A2 c2 vF vA' vC ts ints ⟨s.atoms ++ [⟨ak, aa, ab, ⟨of_, rk, rt⟩⟩], s.cls⟩) := by
  obtain ⟨AF, nF, cF, rfl⟩ := hVF
  have hb0 : Below w.heap.size w (w.alloc (.cells #[.int .i64 5, .slice L nl cl, .slice M nm cm, .int .i64 ak, .int .i64 aa, .int .i64 ab, .slice O no co, .int .i64 rk, .int .i64 rt] 44)) := (Below.refl _ _).alloc (Nat.le_refl _) _
  have hk0 := Blk.new w 44 #[.int .i64 5, .slice L nl cl, .slice M nm cm, .int .i64 ak, .int .i64 aa, .int .i64 ab, .slice O no co, .int .i64 rk, .int .i64 rt]
  have hBw := h.hBw
  have hno := hof.len
  obtain ⟨A3, c3, hvA, hc3, hc3m, hst⟩ := (h.later hb0).reads
  have hF := formed_any G A3 s.atoms.length c3 5 L nl cl lits M nm cm nums ak aa ab O no co of_ rk rt _ hst.q2 hst.lt hst.l3 ((hlits.below stays_int (hb0.mono hBw) (Nat.le_refl _)).keep stays_int (fun b hb => Nat.lt_of_lt_of_le hb (Nat.le_trans hBw hb0.size)) (fun _ _ _ => rfl)) (by omega) hcl hnm hno
  rw [hform] at hF
  have HF := Lib.hid hF
  have HK := Lib.hid (And.intro hb0 hk0)
  have H := Lib.hid (And.intro h (And.intro hof (And.intro hI (And.intro hno hR))))
  clear hst hvA hc3 hc3m hF hb0 hk0 h hlits hform hof hI hR
  go_enter Try.func18, Try.ntmps18
  go_wp2_with fail
  refine HF.out.mono ?_
  rintro e w9 ⟨rfl, hb9⟩
  have hbw : Below w.heap.size w w9 := HK.out.1.trans (hb9.mono HK.out.1.size)
  have hkb : Blk w9 w.heap.size 44 #[.int .i64 5, .slice L nl cl, .slice M nm cm, .int .i64 ak, .int .i64 aa, .int .i64 ab, .slice O no co, .int .i64 rk, .int .i64 rt] := (hb9.block _ HK.out.2.lt).trans HK.out.2
  have b0 : w9.cell? ⟨w.heap.size, 0, none⟩ = some (.int .i64 5) := hkb.cell 0
  have b3 : w9.cell? ⟨w.heap.size, 3, none⟩ = some (.int .i64 ak) := hkb.cell 3
  have b4 : w9.cell? ⟨w.heap.size, 4, none⟩ = some (.int .i64 aa) := hkb.cell 4
  have b5 : w9.cell? ⟨w.heap.size, 5, none⟩ = some (.int .i64 ab) := hkb.cell 5
  have b6 : w9.cell? ⟨w.heap.size, 6, none⟩ = some (.slice O no co) := hkb.cell 6
  have b7 : w9.cell? ⟨w.heap.size, 7, none⟩ = some (.int .i64 rk) := hkb.cell 7
  have b8 : w9.cell? ⟨w.heap.size, 8, none⟩ = some (.int .i64 rt) := hkb.cell 8
  have hM9 := H.out.1.later hbw
  obtain ⟨A3, c3, hvA, hc3, hc3m, hst⟩ := hM9.reads
  obtain ⟨n3, hn3⟩ : ∃ n, s.atoms.length = n := ⟨_, rfl⟩
  obtain ⟨n1, hn1⟩ : ∃ n, ts.length = n := ⟨_, rfl⟩
  obtain ⟨n2, hn2⟩ : ∃ n, ints.length = n := ⟨_, rfl⟩
  have q0 := hst.q0
  have q1 := hst.q1
  have q2 := hst.q2
  have hl3 := hst.l3
  rw [hn1] at q0
  rw [hn2] at q1 hni
  rw [hn3] at q2 hc3 hl3 hvA
  obtain ⟨A4, c4, hvC0, -, -, -⟩ := hM9.clauses
  obtain ⟨R0, hR0⟩ : ∃ r, atomCode ⟨ak, aa, ab, ⟨of_, rk, rt⟩⟩ n1 n2 = r := ⟨_, rfl⟩
  have hCA : ∀ d os, Calls Try.prog 11 #[.agg #[.slice A1 n1 c1, .slice A2 n2 c2, .slice A3 n3 c3, .slice AF nF cF], .agg #[.int .i64 ak, .int .i64 aa, .int .i64 ab, .slice O no co, .int .i64 rk, .int .i64 rt]] (Sort.grow (redrawn w9 d) os) fun e w'' => e = .returned (.int .i64 R0) ∧ ∃ p : Regrown, w'' = Sort.grow (redrawn w9 p.d) p.os := fun d os => by
    have hbx := below_regrown w9 d os
    exact Calls.regrown_of (checkAtom_any ak aa ab rk rt O no co of_ A1 A2 A3 AF n1 c1 n2 c2 n3 c3 nF cF R0 _ (((H.out.2.1.below stays_int (hbw.mono hBw) (Nat.le_refl _)).below stays_int (hbx.mono (Nat.le_trans hBw hbw.size)) (Nat.le_refl _)).keep stays_int (fun b hb => Nat.lt_of_lt_of_le hb (Nat.le_trans (Nat.le_trans hBw hbw.size) hbx.size)) (fun _ _ _ => rfl)) H.out.2.2.1.2.2.2.2 (Nat.le_trans hnoc hcom) hni hR0)
  have HCA := Lib.hid hCA
  have HR : Hid ((!decide (¬ ak = 3 ∨ ¬ R0 = 0 ∨ 120 ≤ n3)) = R) := by have := H.out.2.2.2.2; rw [hn1, hn2, hR0, hn3] at this; exact this
  have HN := Lib.hid (And.intro hn3 (And.intro hvA hc3m))
  have HB9 := Lib.hid (And.intro hbw hkb)
  have q3 : w9.cell? ⟨G, 3, none⟩ = some (.slice AF nF cF) := hM9.blk.cell 3
  have hGl : G < w9.heap.size := hst.lt
  have hsl : w.heap.size < w9.heap.size := hkb.lt
  have r0 := cell_regrown q0
  have r1 := cell_regrown q1
  have r2 := cell_regrown q2
  have r3 := cell_regrown q3
  have s3 := cell_regrown b3
  have s4 := cell_regrown b4
  have s5 := cell_regrown b5
  have s6 := cell_regrown b6
  have s7 := cell_regrown b7
  have s8 := cell_regrown b8
  clear hst hM9 hvA hvC0 hCA hkb hbw hb9 hR0 hn1 hn2 hn3 hc3m HF HK
  by_cases h3 : ak = 3
  · subst h3
    by_cases h4 : R0 = 0
    · subst h4
      by_cases h5 : 120 ≤ n3
      · have h5b : decide ((n3 : Int) ≥ 120) = true := by simpa using (by omega : (120 : Int) ≤ n3)
        have h5c : (120 : Int) ≤ n3 := by omega
        go_wp2_with fail
        refine wp_region_quiet_below (by kernel_rfl) (by kernel_rfl) ?_
        repeat (with_reducible refine wpQuiet_step (fun K hK => ?_); go_simp; first | (with_reducible refine hK _ ?_; clear hK K) | (apply Exists.intro; with_reducible refine ⟨fun _ => ?_, hK _ ?_⟩; (go_at_call 11; with_reducible exact HCA.out _ _); clear hK K))
        with_reducible refine wpQuiet_nil ?_
        intro _ hw'
        obtain ⟨⟨dq, osq⟩, hw''⟩ := hw'
        subst hw''
        have hb8 := below_regrown w9 dq osq
        clear r0 r1 r2 r3 s3 s4 s5 s6 s7 s8 q0 q1 q2 q3
        generalize Sort.grow (redrawn w9 dq) osq = w8 at hb8 ⊢
        go_wp2_with fail
        go_ret
        refine ⟨ret_bool (by have := HR.out; simpa [h5] using this), (HB9.out.1.trans (hb8.mono HB9.out.1.size)).mono hBw, fun h => ?_⟩
        have := HR.out
        rw [h] at this
        simp [h5] at this
      · have h5b : decide ((n3 : Int) ≥ 120) = false := by simpa using (by omega : (n3 : Int) < 120)
        have h5c : ¬ (120 : Int) ≤ n3 := by omega
        go_wp2_with fail
        refine wp_region_quiet_below (by kernel_rfl) (by kernel_rfl) ?_
        repeat (with_reducible refine wpQuiet_step (fun K hK => ?_); go_simp; first | (with_reducible refine hK _ ?_; clear hK K) | (apply Exists.intro; with_reducible refine ⟨fun _ => ?_, hK _ ?_⟩; (go_at_call 11; with_reducible exact HCA.out _ _); clear hK K))
        with_reducible refine wpQuiet_nil ?_
        intro _ hw'
        obtain ⟨⟨dq, osq⟩, hw''⟩ := hw'
        subst hw''
        have hb8 := below_regrown w9 dq osq
        clear r0 r1 r2 r3 s3 s4 s5 s6 s7 s8 q0 q1 q2 q3
        generalize Sort.grow (redrawn w9 dq) osq = w8 at hb8 ⊢
        have hbw : Below w.heap.size w w8 := HB9.out.1.trans (hb8.mono HB9.out.1.size)
        have hkb : Blk w8 w.heap.size 44 #[.int .i64 5, .slice L nl cl, .slice M nm cm, .int .i64 3, .int .i64 aa, .int .i64 ab, .slice O no co, .int .i64 rk, .int .i64 rt] := (hb8.block _ HB9.out.2.lt).trans HB9.out.2
        have d3 : w8.cell? ⟨w.heap.size, 3, none⟩ = some (.int .i64 3) := hkb.cell 3
        have d4 : w8.cell? ⟨w.heap.size, 4, none⟩ = some (.int .i64 aa) := hkb.cell 4
        have d5 : w8.cell? ⟨w.heap.size, 5, none⟩ = some (.int .i64 ab) := hkb.cell 5
        have d6 : w8.cell? ⟨w.heap.size, 6, none⟩ = some (.slice O no co) := hkb.cell 6
        have d7 : w8.cell? ⟨w.heap.size, 7, none⟩ = some (.int .i64 rk) := hkb.cell 7
        have d8 : w8.cell? ⟨w.heap.size, 8, none⟩ = some (.int .i64 rt) := hkb.cell 8
        have hM8 := H.out.1.later hbw
        have p2 : w8.cell? ⟨G, 2, none⟩ = some (.slice A3 n3 c3) := by rw [← HN.out.2.1]; exact hM8.blk.cell 2
        have hGw : G < w8.heap.size := hM8.blk.lt
        have hsw : w.heap.size < w8.heap.size := hkb.lt
        have hz2 : w8.frozen? ⟨G, 2, none⟩ = false := hM8.blk.frozen 2
        have hA3 : A3 = none → n3 = 0 := fun e => by
          obtain ⟨A6, c6, e6, _, _, hs6⟩ := hM8.reads
          have := HN.out.2.1.symm.trans e6
          injection this with e7 e8 e9
          subst e
          rw [← e7] at hs6
          rw [← HN.out.1]; exact hs6.a.none_zero
        have HCL := Lib.hid (fun W => clipAtoms2_any A3 n3 c3 W hc3 hA3)
        have HM := Lib.hid (And.intro hM8 (And.intro hbw (H.out.2.1.below stays_int (hbw.mono hBw) (Nat.le_refl _))))
        clear hM8 hbw hkb hb8 b0 b3 b4 b5 b6 b7 b8 hA3
        go_wp2_with fail
        go_region_law (first
          | (refine step_append_tight (by rfl) _ _ _ (by rfl) rowAtoms tells_atom (v := .slice A3 n3 n3) (xs := s.atoms) (base := B) (S := fun b => b < B) (by rfl)
              (HM.out.1.tight HN.out.2.1 (by first | exact only_drew (only_alloc (only_refl w8 none) _) | exact only_alloc (only_drew (only_refl w8 none)) _ | exact only_alloc (only_refl w8 none) _)) (g := w8.heap.size) (cs := #[.int .i64 3, .int .i64 aa, .int .i64 ab, .slice O no co, .int .i64 rk, .int .i64 rt]) (by rfl)
              (by first | exact Blk.drew (Blk.new w8 _ _) | exact Blk.new w8.drew _ _ | exact Blk.new w8 _ _) (y := ⟨3, aa, ab, ⟨of_, rk, rt⟩⟩) ⟨O, no, co, rfl, H.out.2.2.1, hnoc, hcom, HM.out.2.2.keep stays_int (fun _ h => h) (fun b o hb => (only_cell (row := none) (by first | exact only_drew (only_alloc (only_refl w8 none) _) | exact only_alloc (only_drew (only_refl w8 none)) _ | exact only_alloc (only_refl w8 none) _) (by omega) (by simp)))⟩ (fun b hb => by first | omega | (simp; omega)) (by have := HN.out.1; unfold maxLen; omega) (by have := HN.out.1; omega) (by first | omega | (simp; omega)) ?_
             intro ga ca w3 hown3 hgrow3 hat3 hlt3
             have hgw : w8.grownBy w3 none := only_trans (by first | exact only_drew (only_alloc (only_refl w8 none) _) | exact only_alloc (only_drew (only_refl w8 none)) _ | exact only_alloc (only_refl w8 none) _) hgrow3
             have hkG : Blk w3 G 60 _ := Blk.grown HM.out.1.blk hgw (by simp)
             have y4 : w3.frozen? ⟨G, 2, none⟩ = false := hkG.frozen 2
             have y5 : w3.cell? ⟨G, 2, none⟩ = some (.slice A3 n3 c3) := (hkG.cell 2).trans (by rw [← HN.out.2.1]; rfl)
             have zG3 : G < w3.heap.size := hkG.lt
             have HA := Lib.hid (And.intro hown3 (And.intro hgw (show w8.heap.size ≤ ga by first | omega | (simp at hat3; omega))))
             clear hown3 hgrow3 hat3 hlt3 hgw hkG)
          | (go_simp
             go_at_call 35
             with_reducible refine (HCL.out _).mono ?_
             rintro e w7 ⟨rfl, rfl⟩)
          | fail)
        all_goals go_wp2_with fail
        all_goals go_ret
        all_goals
          have hend := HM.out.1.atomsTo (w3 := w3) HA.out.2.1 HA.out.1 HA.out.2.2 (by have := HN.out.1; simp; omega)
          refine ⟨ret_bool (by have := HR.out; simpa [h5] using this), (HM.out.2.1.mono hBw).trans hend.2, fun _ => ⟨_, hend.1⟩⟩
    · have h4b : (R0 == 0) = false := by simpa using h4
      have h4c : decide (R0 = 0) = false := by simpa using h4
      go_wp2_with fail
      refine wp_region_quiet_below (by kernel_rfl) (by kernel_rfl) ?_
      repeat (with_reducible refine wpQuiet_step (fun K hK => ?_); go_simp; first | (with_reducible refine hK _ ?_; clear hK K) | (apply Exists.intro; with_reducible refine ⟨fun _ => ?_, hK _ ?_⟩; (go_at_call 11; with_reducible exact HCA.out _ _); clear hK K))
      with_reducible refine wpQuiet_nil ?_
      intro _ hw'
      obtain ⟨⟨dq, osq⟩, hw''⟩ := hw'
      subst hw''
      have hb8 := below_regrown w9 dq osq
      clear r0 r1 r2 r3 s3 s4 s5 s6 s7 s8 q0 q1 q2 q3
      generalize Sort.grow (redrawn w9 dq) osq = w8 at hb8 ⊢
      go_wp2_with fail
      go_ret
      refine ⟨ret_bool (by have := HR.out; simpa [h4] using this), (HB9.out.1.trans (hb8.mono HB9.out.1.size)).mono hBw, fun h => ?_⟩
      have := HR.out
      rw [h] at this
      simp [h4] at this
  · have h3b : (ak == 3) = false := by simpa using h3
    have h3c : decide (ak = 3) = false := by simpa using h3
    go_wp2_with fail
    refine wp_region_quiet_below (by kernel_rfl) (by kernel_rfl) ?_
    repeat (with_reducible refine wpQuiet_step (fun K hK => ?_); go_simp; first | (with_reducible refine hK _ ?_; clear hK K) | (apply Exists.intro; with_reducible refine ⟨fun _ => ?_, hK _ ?_⟩; (go_at_call 11; with_reducible exact HCA.out _ _); clear hK K))
    with_reducible refine wpQuiet_nil ?_
    intro _ hw'
    obtain ⟨⟨dq, osq⟩, hw''⟩ := hw'
    subst hw''
    have hb8 := below_regrown w9 dq osq
    clear r0 r1 r2 r3 s3 s4 s5 s6 s7 s8 q0 q1 q2 q3
    generalize Sort.grow (redrawn w9 dq) osq = w8 at hb8 ⊢
    go_wp2_with fail
    go_ret
    refine ⟨ret_bool (by have := HR.out; simpa [h3] using this), (HB9.out.1.trans (hb8.mono HB9.out.1.size)).mono hBw, fun h => ?_⟩
    have := HR.out
    rw [h] at this
    simp [h3] at this
end Go.Proofs.Ytdncchlfeanlmaa
