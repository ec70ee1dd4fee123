/- The maker while a node is grown: what its methods leave, told from the start of the growth on; the row of kids. -/
import Derived.Test.YthooecojopfjbaaMkD
import Derived.Test.YthooecojopfjbaaMkPQ
namespace Go.Proofs.Ythooecojopfjbaa
open Go.RowKit

def rowC (l : List Int) : Array Value := (l.map (Value.int .i64)).toArray
/-- since w at most m nodes have been made, none with a fault; the row u of kids is the call's own and holds L -/
structure Grew (w : World) (q : Nat) (vn vs : Value) (ns : List NodeD) (ss : List Int) (m : Nat) (w' : World) (vn' vs' u : Value) (L : List Int) (ns' : List NodeD) (ss' : List Int) : Prop where
  isIn : MkIn w' q vn' vs' (fun b => u.ownBlock = some b) ns' ss'
  to : MkTo w q vn vs w' vn' vs'
  made : Mk ns' ss'
  pre : ss <+: ss'
  le : ns'.length ≤ ns.length + m
  row : OwnV VInt 3 1 w' w.heap.size (fun _ => False) u L
  lt : q < w.heap.size

section
variable {w w1 w2 W : World} {q m : Nat} {vn vs vn1 vs1 u u' : Value} {ns ns1 : List NodeD} {ss ss1 : List Int} {L : List Int}
theorem ints_kept {base : Nat} (h : OwnV VInt 3 1 w1 base (fun _ => False) u L) (hk : ∀ g, u.ownBlock = some g → w2.heap[g]? = w1.heap[g]?) : OwnV VInt 3 1 w2 base (fun _ => False) u L := by
  obtain ⟨cells, hown, hels⟩ := h
  refine ⟨cells, ⟨hown.1, ?_⟩, Cels.keep tells_int (w := w1) (S := fun _ => False) (fun b hb => hb) (fun b o hb => hb.elim) _ _ hels⟩
  rcases hown.2 with hn | ⟨g, cap, cur, rfl, hb, hgg, rest⟩
  · exact .inl hn
  · exact .inr ⟨g, cap, cur, rfl, hb, (hk g rfl).trans hgg, rest⟩
theorem nil_own {b : Nat} : ¬ (Value.slice none 0 0).ownBlock = some b := by simp [Value.ownBlock]
theorem Grew.start (hI : MkIn w q vn vs (fun b => (Value.slice none 0 0).ownBlock = some b) ns ss) (hM : Mk ns ss) : Grew w q vn vs ns ss 0 w vn vs (.slice none 0 0) [] ns ss :=
  ⟨hI, MkTo.refl _ _ _ _, hM, List.prefix_refl _, Nat.le_refl _, OwnV.none_ _ _ _ _ _ _, hI.lt⟩
theorem Grew.below (h : Grew w q vn vs ns ss m w1 vn1 vs1 u L ns1 ss1) (hb : Below w1.heap.size w1 W) : Grew w q vn vs ns ss m W vn1 vs1 u L ns1 ss1 :=
  ⟨h.isIn.below hb, h.to.trans (MkTo.of_below hb), h.made, h.pre, h.le, ints_kept h.row fun g hg => hb.block g (h.isIn.away g hg).1, h.lt⟩
theorem Grew.len (h : Grew w q vn vs ns ss m w1 vn1 vs1 u L ns1 ss1) : ss1.length = ns1.length := h.made.len
/-- a number is put behind the kids -/
theorem Grew.add {x : Int} (h : Grew w q vn vs ns ss m w1 vn1 vs1 u L ns1 ss1) (hown : OwnV VInt 3 1 w2 w.heap.size (fun _ => False) u' (L ++ [x])) (hg : w1.grownBy w2 u.ownBlock) (hat : u'.ownBlock = u.ownBlock ∨ u'.ownBlock = some w1.heap.size) :
    Grew w q vn vs ns ss m w2 vn1 vs1 u' (L ++ [x]) ns1 ss1 := by
  have hI := h.isIn
  have hql := hI.blk.lt
  have hnl := hI.nodes.lt
  have hsl := hI.sorts.lt
  have hz := hg.size
  have hne : ∀ {v : Value}, (∀ x, u.ownBlock = some x → v.ownBlock ≠ some x) → v.ownBlock = none ∨ v.ownBlock ≠ u.ownBlock := fun {v} hv => by
    cases hc : v.ownBlock with
    | none => exact .inl rfl
    | some y => exact .inr (fun e => hv y e.symm hc)
  refine ⟨⟨hI.blk.grown hg (fun e => (hI.away q e.symm).2.2.2 rfl), ?_, ?_, hI.ne, fun x hx => ?_⟩, ?_, h.made, h.pre, h.le, hown, h.lt⟩
  · refine hI.nodes.kept tells_node hg (hne fun x hx => (hI.away x hx).2.1) (fun b hS => ⟨⟨by have := hS.1; omega, hS.2.1, hS.2.2.1, hS.2.2.2.1, fun e => ?_⟩, hS.1, fun e => hS.2.2.2.2 e⟩)
    rcases hat with h1 | h1
    · exact hS.2.2.2.2 (h1 ▸ e)
    · rw [h1] at e; injection e with e; have := hS.1; omega
  · exact hI.sorts.kept tells_int hg (hne fun x hx => (hI.away x hx).2.2.1) (fun b hS => hS.elim)
  · rcases hat with h1 | h1
    · obtain ⟨a1, a2⟩ := hI.away x (h1 ▸ hx)
      exact ⟨by omega, a2⟩
    · have h2 := (hown.lt x hx).2
      rw [h1] at hx; injection hx with hx
      exact ⟨h2, fun e => by have := (hnl x e).2; omega, fun e => by have := (hsl x e).2; omega, by omega⟩
  · refine ⟨hg.os.trans h.to.os, hg.tape.trans h.to.tape, hg.output.trans h.to.output, Nat.le_trans h.to.size hz, fun b hb h1 h2 h3 => (hg.block b (Nat.lt_of_lt_of_le hb h.to.size) (fun e => ?_)).trans (h.to.block b hb h1 h2 h3), h.to.n, h.to.s⟩
    have := (h.row.lt b e.symm).1; omega
/-- the kids are no longer kept apart -/
theorem Grew.shed (h : Grew w q vn vs ns ss m w1 vn1 vs1 u L ns1 ss1) : Grew w q vn vs ns ss m w1 vn1 vs1 (.slice none 0 0) [] ns1 ss1 :=
  ⟨⟨h.isIn.blk, h.isIn.nodes.kept tells_node (only_refl _ none) (by cases vn1.ownBlock <;> simp) (fun b hS => ⟨⟨hS.1, hS.2.1, hS.2.2.1, hS.2.2.2.1, nil_own⟩, hS.1, by simp⟩), h.isIn.sorts, h.isIn.ne, fun x hx => absurd hx nil_own⟩, h.to, h.made, h.pre, h.le, OwnV.none_ _ _ _ _ _ _, h.lt⟩

/-- a method of the maker has handed back a node -/
def GotG (w : World) (q : Nat) (vn vs : Value) (ns : List NodeD) (ss : List Int) (m : Nat) (u : Value) (L : List Int) (ss1 : List Int) (s : Int) (e : Ending) (w2 : World) : Prop :=
  ∃ (k : Nat) (vn2 vs2 : Value) (ns2 : List NodeD) (ss2 : List Int), e = .returned (.int .i64 k) ∧ Grew w q vn vs ns ss (m + 1) w2 vn2 vs2 u L ns2 ss2 ∧ ss1 <+: ss2 ∧ ss2[k]? = some s
theorem Grew.got {e : Ending} {s : Int} (h : Grew w q vn vs ns ss m w1 vn1 vs1 u L ns1 ss1) (hk : GotP w1 q vn1 vs1 (fun b => u.ownBlock = some b) ns1 ss1 s 1 e w2) : GotG w q vn vs ns ss m u L ss1 s e w2 := by
  obtain ⟨k, ns', ss', vn', vs', he, hI, hT, hM, hp, hs, hl⟩ := hk
  exact ⟨k, vn', vs', ns', ss', he, ⟨hI, h.to.trans hT, hM, h.pre.trans hp, by have := h.le; omega, ints_kept h.row fun g hg => by
    obtain ⟨a1, a2, a3, a4⟩ := h.isIn.away g hg
    exact hT.block g a1 a4 a2 a3, h.lt⟩, hp, hs⟩
theorem last_grew (s back deep : Int) (h : Grew w q vn vs ns ss m w1 vn1 vs1 u L ns1 ss1) (hb : Below w1.heap.size w1 W) (hn : ns.length + m ≤ 900) (hi : I64 back) (hs : SortK s) :
    Calls Try.prog 55 #[.pointer (some ⟨q, 0, none⟩), .int .i64 s, .int .i64 back, .int .i64 deep] W (GotG w q vn vs ns ss m u L ss1 s) :=
  (last_any s back deep q vn1 vs1 _ ns1 ss1 W (h.below hb).isIn h.made (by have := h.le; omega) hi hs).mono fun _ _ hk => (h.below hb).got hk
theorem number_grew (n deep : Int) (h : Grew w q vn vs ns ss m w1 vn1 vs1 u L ns1 ss1) (hb : Below w1.heap.size w1 W) (hn : ns.length + m ≤ 900) (hi : I64 n) :
    ∃ s, (s = 2 ∨ s = 3) ∧ Calls Try.prog 56 #[.pointer (some ⟨q, 0, none⟩), .int .i64 n, .int .i64 deep] W (GotG w q vn vs ns ss m u L ss1 s) := by
  obtain ⟨s, hs, hc⟩ := number_any n deep q vn1 vs1 _ ns1 ss1 W (h.below hb).isIn h.made (by have := h.le; omega) hi
  exact ⟨s, hs, hc.mono fun _ _ hk => (h.below hb).got hk⟩

/-- a node has been grown -/
def PutG (w : World) (q : Nat) (vn vs : Value) (ns : List NodeD) (ss : List Int) (m : Nat) (e : Ending) (w2 : World) : Prop :=
  ∃ (k : Nat) (vn2 vs2 : Value) (ns2 : List NodeD) (ss2 : List Int), e = .returned (.int .i64 k) ∧ Grew w q vn vs ns ss m w2 vn2 vs2 (.slice none 0 0) [] ns2 ss2
theorem put_grew {op n d s : Int} {nm : ByteArray} {kids : List Int} {A : Option Addr} {kn kc : Nat} (h : Grew w q vn vs ns ss m w1 vn1 vs1 u L ns1 ss1) (hb : Below w1.heap.size w1 W) (hn : ns.length + m ≤ 900)
    (hk : Arr AtInt 1 W (MkS W q vn1 vs1 (fun b => (Value.slice none 0 0).ownBlock = some b)) A kn kids) (hkc : kn ≤ kc) (hkm : kc ≤ maxLen)
    (hx : nodeF declsK ns1.length ss1 ⟨op, kids, n, d, nm⟩ = (s, 0)) (h1 : 0 ≤ op ∧ op ≤ 100) (h2 : -100 ≤ n ∧ n ≤ 100) (h3 : 0 ≤ d ∧ d ≤ 100) (h4 : nm.size ≤ maxLen) (hs : 0 ≤ s ∧ s ≤ 100) :
    Calls Try.prog 54 #[.pointer (some ⟨q, 0, none⟩), .agg #[.int .i64 op, .slice A kn kc, .int .i64 n, .int .i64 d, .string nm], .int .i64 s] W (PutG w q vn vs ns ss (m + 1)) := by
  have hle := h.le
  have hG := (h.below hb).shed
  refine (mkPut_any q vn1 vs1 _ ns1 ss1 op n d nm kids A kn kc s W hG.isIn ⟨A, kn, kc, rfl, ⟨⟨by show (_ : Int) ≤ op; omega, by show op ≤ _; omega⟩, ⟨by show (_ : Int) ≤ n; omega, by show n ≤ _; omega⟩, ⟨by show (_ : Int) ≤ d; omega, by show d ≤ _; omega⟩, h4⟩, hkc, hkm, hk⟩ (by unfold I64; omega) (by omega) h.made.len).mono ?_
  rintro e w' ⟨rfl, vn', vs', h5, h6⟩
  exact ⟨ns1.length, vn', vs', _, _, rfl, ⟨h5, hG.to.trans h6, h.made.put hx, h.pre.trans (List.prefix_append _ _), by simp; omega, OwnV.none_ _ _ _ _ _ _, h.lt⟩⟩
/-- a row of kids that is made last of all -/
theorem lit_kids {g : Nat} {l : List Nat} (h : Grew w q vn vs ns ss m w1 vn1 vs1 u L ns1 ss1) (hg1 : w1.heap.size ≤ g) (hk : Blk W g 3 (rowC (kidsZ l))) (hl : ∀ k ∈ kidsZ l, 0 ≤ k ∧ k < (ss1.length : Int)) (hn : ns.length + m ≤ 900) :
    Arr AtInt 1 W (MkS W q vn1 vs1 (fun b => (Value.slice none 0 0).ownBlock = some b)) (some ⟨g, 0, none⟩) l.length (kidsZ l) := by
  have e : (kidsZ l).length = l.length := by simp [kidsZ]
  rw [← e]
  refine arr_ints hk (by simp [rowC]) (fun x hx => ?_) ⟨hk.lt, ?_, fun e => ?_, fun e => ?_, nil_own⟩
  · have := hl x hx; have := h.len; have := h.le; unfold I64; omega
  · have := h.isIn.lt; omega
  · have := (h.isIn.nodes.lt g e).2; omega
  · have := (h.isIn.sorts.lt g e).2; omega
/-- the row of kids that has grown by numbers -/
theorem row_kids (h : Grew w q vn vs ns ss m w1 vn1 vs1 u L ns1 ss1) : ∃ A c, u = .slice A L.length c ∧ L.length ≤ c ∧ c ≤ maxLen ∧ Arr AtInt 1 w1 (MkS w1 q vn1 vs1 (fun b => (Value.slice none 0 0).ownBlock = some b)) A L.length L := by
  refine h.row.reads (E := AtInt) tells_int (fun _ _ _ _ _ h => atV_int.1 h) (fun b hb => hb.elim) (fun g hg => ?_)
  obtain ⟨a1, a2, a3, a4⟩ := h.isIn.away g hg
  have h1 := (h.row.lt g hg).1
  have h2 := h.lt
  exact ⟨a1, by omega, a2, a3, nil_own⟩
end
end Go.Proofs.Ythooecojopfjbaa
