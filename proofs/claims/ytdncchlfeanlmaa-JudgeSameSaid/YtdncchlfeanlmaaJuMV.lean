/- A map from numbers to truth values that a call makes itself: which numbers are in it. · Walks: propagation over clauses: the trail, what a clause is on it. · Walks: propagation over clauses: a literal comes onto the trail. -/
import Derived.Test.YtdncchlfeanlmaaJuAB
import Derived.Test.YtdncchlfeanlmaaFuncs
import Derived.Maps.OwnOps
import Derived.Maps.Views
import Derived.Test.YtdncchlfeanlmaaOutP
import Derived.Test.YtdncchlfeanlmaaClone
import Derived.BigRegion
import Derived.Test.YtdncchlfeanlmaaOwnC
import Derived.Deep.RegionLaw
namespace Go.Proofs.Ytdncchlfeanlmaa
open Go.RowKit Go.Maps

theorem zeroBool (w : World) : (zeroValue 4).run Try.prog w = .ok (.bool false) w := by kernel_rfl
theorem keyInt : Keyed Try.prog 3 := int_keyed Try.underlying3
theorem wf_i64 {x : Int} (h : I64 x) : (Lit.int .i64 x).wf = true := WalkArith.wf_i64 (by unfold I64 at h; omega)
theorem key_int {x : Int} (h : I64 x) : keyOf Try.prog 3 (.int .i64 x) = some (.int .i64 x) := keyOf_int_mk Try.underlying3 (wf_i64 h)

/-- block b is a map of at most n entries that says true of just the numbers of T -/
def TMap (w : World) (b n : Nat) (T : List Int) : Prop := ∃ D : DataW Unit, IsMap D ∧ w.ownsMap Try.prog 3 (plainElem Try.prog 4) b n D ∧ ∀ x, I64 x → D.atKey (.int .i64 x) (.lit (.bool false)) = .lit (.bool (hasT T x))

section
variable {w w' : World} {b n : Nat} {T : List Int}
theorem TMap.made (w : World) : TMap (w.alloc (.map #[] 0)) w.heap.size 0 [] := ⟨.map [], isMap_empty, World.ownsMap_made _ _ _ _, fun _ _ => rfl⟩
theorem TMap.lt (h : TMap w b n T) : b < w.heap.size := by obtain ⟨D, _, h, _⟩ := h; exact h.lt
theorem TMap.kept {row : Option Nat} (h : TMap w b n T) (hg : w.grownBy w' row) (hne : some b ≠ row) : TMap w' b n T := by
  obtain ⟨D, h0, h1, h2⟩ := h
  exact ⟨D, h0, h1.kept hg hne, h2⟩
theorem TMap.drewN (h : TMap w b n T) (k : Nat) : TMap (w.drewN k) b n T := h.kept (only_drewN (only_refl w none) k) (by simp)
set_option maxRecDepth 100000 in
theorem TMap.lookup (h : TMap w b n T) {x : Int} (hx : I64 x) : (Instr.lookup 113 (.map (some b)) (.int .i64 x) false).run Try.prog w = .ok (.bool (hasT T x)) w := by
  obtain ⟨D, -, h1, h2⟩ := h
  obtain ⟨v, ps, hrun, hv⟩ := h1.lookup keyInt Try.underlying113 (zeroBool w) (plainElem_bool Try.underlying4 false) (key_int hx)
  rw [h2 x hx] at hv
  rw [hrun]
  unfold plainElem at hv
  rw [Try.underlying4] at hv
  cases v <;> simp at hv
  rw [hv.1]
theorem TMap.store (h : TMap w b n T) {x : Int} (hx : I64 x) (hn : n < maxLen) : ∃ w', (Instr.mapUpdate 113 (.map (some b)) (.int .i64 x) (.bool true)).run Try.prog w = .ok () w' ∧ TMap w' b (n + 1) (T ++ [x]) ∧ w.grownBy w' (some b) := by
  obtain ⟨D, h0, h1, h2⟩ := h
  obtain ⟨w', hrun, h3, h4⟩ := h1.update keyInt Try.underlying113 hn (key_int hx) (plainElem_bool Try.underlying4 true)
  refine ⟨w', hrun, ⟨_, h0.put _ _, h3, fun y hy => ?_⟩, h4⟩
  by_cases e : y = x
  · subst e
    rw [atKey_put_same h0 (by simp [WideAt.IsKeyLit])]
    simp [hasT]
  · rw [atKey_put_other (by simpa using e), h2 y hy]
    simp [hasT, e]

theorem wpList_lookup_t {ops : Array Oper} {rest : List Oper} {o : Oper} {a : Act} {Q : Exit → Act → World → Prop} (hg : o.guard = none) (m x : Operand) (hop : o.op = Op.lookup 113 m x false)
    {y : Int} (hm : a.eval m = .map (some b)) (hx : a.eval x = .int .i64 y) (hy : I64 y) (h : TMap w b n T) (hK : wpList Try.prog ops Q rest (a.put o.dst (.bool (hasT T y))) w) : wpList Try.prog ops Q (o :: rest) a w := by
  refine wpList_plain hg fun K' hK' => ?_
  unfold Oper.wp
  simp [execOp, hop, hm, hx, h.lookup hy, Result.andThen]
  exact hK' _ _ hK
theorem wpList_store_t {ops : Array Oper} {rest : List Oper} {o : Oper} {a : Act} {Q : Exit → Act → World → Prop} (hg : o.guard = none) (m x v : Operand) (hop : o.op = Op.mapUpdate 113 m x v)
    {y : Int} (hm : a.eval m = .map (some b)) (hx : a.eval x = .int .i64 y) (hv : a.eval v = .bool true) (hy : I64 y) (hn : n < maxLen) (h : TMap w b n T) (hK : ∀ w', TMap w' b (n + 1) (T ++ [y]) → w.grownBy w' (some b) → wpList Try.prog ops Q rest (a.put o.dst undef) w') : wpList Try.prog ops Q (o :: rest) a w := by
  refine wpList_plain hg fun K' hK' => ?_
  obtain ⟨w', hrun, r1, r2⟩ := h.store hy hn
  unfold Oper.wp
  simp [execOp, hop, hm, hx, hv, hrun, Result.andThen]
  exact hK' _ _ (hK w' r1 r2)
end
end Go.Proofs.Ytdncchlfeanlmaa
namespace Go.Proofs.Ytdncchlfeanlmaa
open Go.RowKit

abbrev OwnT (w : World) (B : Nat) (v : Value) (l : List Int) : Prop := OwnV VInt 3 1 w B (fun _ => False) v l
theorem own_later {w w' : World} {B : Nat} {v : Value} {c : List Int} (h : OwnT w B v c) {row : Option Nat} (hb : w.grownBy w' row) (hne : v.ownBlock = none ∨ v.ownBlock ≠ row) : OwnT w' B v c := h.kept tells_int hb hne (fun _ hb => False.elim hb)

/-- the trail in memory: its struct in block G, its map in block M, its two rows -/
structure Trail (w : World) (B G M : Nat) (Cv v2 v3 : Value) (T Y : List Int) : Prop where
  blk : Blk w G 115 #[Cv, v2, v3, .map (some M)]
  tm : TMap w M T.length T
  lits : OwnT w B v2 T
  why : OwnT w B v3 Y
  len : Y.length = T.length
  apart : v2.ownBlock = none ∨ v2.ownBlock ≠ v3.ownBlock
  bG : B ≤ G
  bM : B ≤ M
  n1 : v2.ownBlock ≠ some G ∧ v3.ownBlock ≠ some G
  n2 : v2.ownBlock ≠ some M ∧ v3.ownBlock ≠ some M
  n3 : M ≠ G
theorem Trail.later {w w' : World} {B G M : Nat} {Cv v2 v3 : Value} {T Y : List Int} (h : Trail w B G M Cv v2 v3 T Y) (hb : Below w.heap.size w w') : Trail w' B G M Cv v2 v3 T Y :=
  have hg := only_of_below hb none
  ⟨h.blk.below hb h.blk.lt, h.tm.kept hg (by simp), own_later h.lits hg (by cases v2.ownBlock <;> simp), own_later h.why hg (by cases v3.ownBlock <;> simp), h.len, h.apart, h.bG, h.bM, h.n1, h.n2, h.n3⟩

theorem wpList_lookup_tb {w : World} {b n : Nat} {T : List Int} {ops : Array Oper} {rest : List Oper} {o : Oper} {a : Act} {Q : Exit → Act → World → Prop} (hg : o.guard = none) (m x : Operand) (hop : o.op = Op.lookup 113 m x false)
    {y : Int} {bb : Bool} (hm : a.eval m = .map (some b)) (hx : a.eval x = .int .i64 y) (hy : I64 y) (h : TMap w b n T) (he : hasT T y = bb) (hK : wpList Try.prog ops Q rest (a.put o.dst (.bool bb)) w) : wpList Try.prog ops Q (o :: rest) a w :=
  wpList_lookup_t hg m x hop hm hx hy h (by rw [he]; exact hK)

set_option maxRecDepth 100000 in
set_option maxHeartbeats 2000000 in
theorem tstate_any (G M k : Nat) (T : List Int) (A : Option Addr) (n c : Nat) (xs : List Int) (no : Bool) (r : Int) (w : World) (hb : w.cell? ⟨G, 3, none⟩ = some (.map (some M))) (ht : TMap w M k T) (hxs : IntsB w w.heap.size A n xs)
    (hn : n ≤ 1000000) (hr : ∀ x ∈ xs, -1000000 ≤ x ∧ x ≤ 1000000) (hR : stateF (hasT T) xs 0 = (no, r)) :
    Calls Try.prog 72 #[.pointer (some ⟨G, 0, none⟩), .slice A n c] w fun e w' => e = .returned (.tuple #[.bool no, .int .i64 r]) ∧ w = w' := by
  have HR := Lib.hid hR
  have HT := Lib.hid ht
  have HX := Lib.hid hr
  clear hR ht hr
  go_enter Try.func72, Try.ntmps72
  go_wp2_with fail
  go_loopw [6, 11] (fun s6 s11 wr => ∃ (j : Nat) (o : Int), j ≤ n ∧ s11 = .int .i64 (j : Int) ∧ s6 = .int .i64 o ∧ Hid (stateF (hasT T) (xs.drop j) o = (no, r)) ∧ wr = w) (fun _ s11 _ => n - (intOf s11).toNat)
  case atStart => exact ⟨0, 0, Nat.zero_le _, rfl, rfl, HR, rfl⟩
  case round =>
    clear HR
    obtain ⟨j, o, hj, rfl, rfl, HS, rfl⟩ := hrel
    by_cases hlt : j < n
    · have hltI : (j : Int) < (n : Int) := by omega
      obtain ⟨b, off, hx, rfl, hb2, hcell, hlo, hhi⟩ := ints_get hxs hlt
      have hrg := HX.out _ (List.getElem_mem hx)
      have e1 := HS.out
      rw [drop_cons hx, stateF] at e1
      generalize xs[j] = y at e1 hcell hrg hlo hhi
      clear HS hlo hhi
      have IY : Hid (I64 y ∧ I64 (-y)) := ⟨by unfold I64; omega, by unfold I64; omega⟩
      cases h1 : hasT T (-y) with
      | true =>
        have H1 := Lib.hid h1
        rw [if_pos h1] at e1
        have HE := Lib.hid e1
        clear e1 h1
        go_wp2_with (at_lookup; refine wpList_lookup_tb rfl _ _ rfl rfl rfl IY.out.2 HT.out H1.out ?_)
        go_roundw
        case rel => exact ⟨j + 1, o, by omega, by go_num, rfl, HE, trivial⟩
        case measure => simp [intOf]; omega
      | false =>
        have H1 := Lib.hid h1
        rw [if_neg (by simp [h1])] at e1
        cases h2 : hasT T y with
        | true =>
          have H2 := Lib.hid h2
          rw [if_pos (.inl h2)] at e1
          simp only [Prod.mk.injEq] at e1
          obtain ⟨rfl, rfl⟩ := e1
          clear h1 h2
          go_wp2_with (at_lookup; first | refine wpList_lookup_tb rfl _ _ rfl rfl rfl IY.out.2 HT.out H1.out ?_ | refine wpList_lookup_tb rfl _ _ rfl rfl rfl IY.out.1 HT.out H2.out ?_)
          go_ret2
          exact ⟨rfl, rfl⟩
        | false =>
          have H2 := Lib.hid h2
          by_cases ho : o = 0
          · subst ho
            rw [if_neg (by simp [h2])] at e1
            have HE := Lib.hid e1
            clear e1 h1 h2
            go_wp2_with (at_lookup; first | refine wpList_lookup_tb rfl _ _ rfl rfl rfl IY.out.2 HT.out H1.out ?_ | refine wpList_lookup_tb rfl _ _ rfl rfl rfl IY.out.1 HT.out H2.out ?_)
            go_roundw
            case rel => exact ⟨j + 1, y, by omega, by go_num, rfl, HE, trivial⟩
            case measure => simp [intOf]; omega
          · rw [if_pos (.inr ho)] at e1
            simp only [Prod.mk.injEq] at e1
            obtain ⟨rfl, rfl⟩ := e1
            have hob : (o != 0) = true := by simpa using ho
            clear h1 h2 ho
            go_wp2_with (at_lookup; first | refine wpList_lookup_tb rfl _ _ rfl rfl rfl IY.out.2 HT.out H1.out ?_ | refine wpList_lookup_tb rfl _ _ rfl rfl rfl IY.out.1 HT.out H2.out ?_)
            go_ret2
            exact ⟨rfl, rfl⟩
    · have hltI : ¬ (j : Int) < (n : Int) := by omega
      have e1 := HS.out
      rw [List.drop_of_length_le (by have := hxs.len; omega), stateF] at e1
      simp only [Prod.mk.injEq] at e1
      obtain ⟨e1, rfl⟩ := e1
      have HE := Lib.hid e1
      clear HS e1
      go_wp2_with fail
      go_ret2
      exact ⟨by rw [← HE.out]; congr 3, rfl⟩
end Go.Proofs.Ytdncchlfeanlmaa
namespace Go.Proofs.Ytdncchlfeanlmaa
open Go.RowKit

def AddP (B G M : Nat) (Cv : Value) (T Y : List Int) (l y : Int) (w : World) (e : Ending) (w' : World) : Prop := e = .returned (.tuple #[]) ∧ (∃ v2 v3, Trail w' B G M Cv v2 v3 (T ++ [l]) (Y ++ [y])) ∧ Below B w w'

theorem Trail.apart' {w : World} {B G M : Nat} {Cv v2 v3 : Value} {T Y : List Int} (h : Trail w B G M Cv v2 v3 T Y) : v3.ownBlock = none ∨ v3.ownBlock ≠ v2.ownBlock := by
  by_cases e : v3.ownBlock = none
  · exact .inl e
  · rcases h.apart with e2 | e2
    · exact .inr (fun e3 => e (e3.trans e2))
    · exact .inr (fun e3 => e2 e3.symm)
theorem Trail.added {w wa w3 wb w4 : World} {B G M ga na ca gb nb cb : Nat} {Cv v2 v3 : Value} {T Y : List Int} {l y : Int} (h : Trail w B G M Cv v2 v3 T Y) (h1 : w.grownBy wa none)
    (ho3 : OwnT w3 B (.slice (some ⟨ga, 0, none⟩) na ca) (T ++ [l])) (hg3 : wa.grownBy w3 v2.ownBlock) (hat3 : v2.ownBlock = some ga ∨ ga = wa.heap.size) (hl3 : ga < w3.heap.size) (h2 : w3.grownBy wb none)
    (ho4 : OwnT w4 B (.slice (some ⟨gb, 0, none⟩) nb cb) (Y ++ [y])) (hg4 : wb.grownBy w4 v3.ownBlock) (hat4 : v3.ownBlock = some gb ∨ gb = wb.heap.size) :
    Blk w4 G 115 #[Cv, v2, v3, .map (some M)] ∧ TMap w4 M T.length T ∧ OwnT w4 B (.slice (some ⟨ga, 0, none⟩) na ca) (T ++ [l]) ∧ (ga ≠ G ∧ gb ≠ G ∧ ga ≠ M ∧ gb ≠ M ∧ ga ≠ gb) ∧ Below B w w4 := by
  have z1 := h1.size
  have z3 := hg3.size
  have z2 := h2.size
  have z4 := hg4.size
  have zG := h.blk.lt
  have zM := h.tm.lt
  have l2 := h.lits.lt
  have l3 := h.why.lt
  have hA : ga ≠ G ∧ ga ≠ M := by
    rcases hat3 with e | e
    · exact ⟨fun e2 => h.n1.1 (by rw [e, e2]), fun e2 => h.n2.1 (by rw [e, e2])⟩
    · exact ⟨by omega, by omega⟩
  have hB : gb ≠ G ∧ gb ≠ M := by
    rcases hat4 with e | e
    · exact ⟨fun e2 => h.n1.2 (by rw [e, e2]), fun e2 => h.n2.2 (by rw [e, e2])⟩
    · exact ⟨by omega, by omega⟩
  have hne : v3.ownBlock ≠ some ga := fun e => by
    have := (l3 ga e).2
    rcases hat3 with e3 | e3
    · rcases h.apart with e4 | e4
      · rw [e4] at e3; cases e3
      · exact e4 (by rw [e3, e])
    · omega
  have hgw : w.grownBy w3 v2.ownBlock := only_trans ⟨h1.os, h1.tape, h1.output, h1.size, fun i hi _ => h1.block i hi (by simp)⟩ hg3
  have hgb : ∀ i, i < w.heap.size → v2.ownBlock ≠ some i → v3.ownBlock ≠ some i → w4.heap[i]? = w.heap[i]? := fun i hi e2 e3 =>
    (hg4.block i (by omega) (fun e => e3 e.symm)).trans ((h2.block i (by omega) (by simp)).trans (hgw.block i hi (fun e => e2 e.symm)))
  refine ⟨(hgb G zG h.n1.1 h.n1.2).trans h.blk, ?_, ?_, ⟨hA.1, hB.1, hA.2, hB.2, fun e => ?_⟩, ?_⟩
  · have a1 := h.tm.kept hgw (fun e => h.n2.1 e.symm)
    exact (a1.kept h2 (by simp)).kept hg4 (fun e => h.n2.2 e.symm)
  · exact own_later (own_later ho3 h2 (.inr (by simp [Value.ownBlock]))) hg4 (.inr (fun e => hne (by rw [← e]; rfl)))
  · subst e
    rcases hat4 with e | e
    · exact hne e
    · omega
  · exact ⟨hg4.os.trans (h2.os.trans hgw.os), hg4.tape.trans (h2.tape.trans hgw.tape), hg4.output.trans (h2.output.trans hgw.output), by omega, fun i hi => by
      have := h.bG
      exact hgb i (by omega) (fun e => by have := (l2 i e).1; omega) (fun e => by have := (l3 i e).1; omega)⟩

def two' (w : World) (g : Nat) (a b : Value) : World := (w.setCell ⟨g, 1, none⟩ a).setCell ⟨g, 2, none⟩ b
theorem Trail.stored {w w4 w5 : World} {B G M ga na ca gb nb cb : Nat} {Cv v2 v3 : Value} {T Y : List Int} {l y : Int} (h : Trail w B G M Cv v2 v3 T Y)
    (hk : Blk w4 G 115 #[Cv, v2, v3, .map (some M)] ∧ TMap w4 M T.length T ∧ OwnT w4 B (.slice (some ⟨ga, 0, none⟩) na ca) (T ++ [l]) ∧ (ga ≠ G ∧ gb ≠ G ∧ ga ≠ M ∧ gb ≠ M ∧ ga ≠ gb) ∧ Below B w w4)
    (ho4 : OwnT w4 B (.slice (some ⟨gb, 0, none⟩) nb cb) (Y ++ [y])) (ht : TMap w5 M (T.length + 1) (T ++ [l]))
    (hg : (two' w4 G (.slice (some ⟨ga, 0, none⟩) na ca) (.slice (some ⟨gb, 0, none⟩) nb cb)).grownBy w5 (some M)) : (∃ v2 v3, Trail w5 B G M Cv v2 v3 (T ++ [l]) (Y ++ [y])) ∧ Below B w w5 := by
  obtain ⟨hb, hm, ho3, ⟨n1, n2, n3, n4, n5⟩, hbel⟩ := hk
  have g1 : w4.grownBy (two' w4 G (.slice (some ⟨ga, 0, none⟩) na ca) (.slice (some ⟨gb, 0, none⟩) nb cb)) (some G) := one_only (one_only (only_refl _ _) 1 _) 2 _
  have b1 : Blk (two' w4 G (.slice (some ⟨ga, 0, none⟩) na ca) (.slice (some ⟨gb, 0, none⟩) nb cb)) G 115 #[Cv, .slice (some ⟨ga, 0, none⟩) na ca, .slice (some ⟨gb, 0, none⟩) nb cb, .map (some M)] := (hb.set_ 1 _).set_ 2 _
  have e3 := h.n3
  refine ⟨⟨_, _, b1.grown hg (fun e => by injection e with e; exact e3 e.symm), by rw [List.length_append]; exact ht, ?_, ?_, by simp [h.len], .inr (fun e => n5 (by simpa [Value.ownBlock] using e)), h.bG, h.bM, ⟨fun e => n1 (by simpa [Value.ownBlock] using e), fun e => n2 (by simpa [Value.ownBlock] using e)⟩, ⟨fun e => n3 (by simpa [Value.ownBlock] using e), fun e => n4 (by simpa [Value.ownBlock] using e)⟩, h.n3⟩, ?_⟩
  · exact own_later (own_later ho3 g1 (.inr (fun e => n1 (by simpa [Value.ownBlock] using e)))) hg (.inr (fun e => n3 (by simpa [Value.ownBlock] using e)))
  · exact own_later (own_later ho4 g1 (.inr (fun e => n2 (by simpa [Value.ownBlock] using e)))) hg (.inr (fun e => n4 (by simpa [Value.ownBlock] using e)))
  · have hz := hbel.size
    have hB := h.bG
    have hM := h.bM
    have hG := h.blk.lt
    exact below_then (below_then hbel g1 (by omega) (fun x hx => by injection hx with hx; omega)) hg (by have := g1.size; omega) (fun x hx => by injection hx with hx; omega)

set_option maxRecDepth 100000 in
set_option maxHeartbeats 4000000 in
theorem tadd_any (B G M : Nat) (Cv v2 v3 : Value) (T Y : List Int) (l y : Int) (w : World) (h : Trail w B G M Cv v2 v3 T Y) (hl : I64 l) (hy : I64 y) (hn : T.length ≤ 2000000) :
    Calls Try.prog 58 #[.pointer (some ⟨G, 0, none⟩), .int .i64 l, .int .i64 y] w (AddP B G M Cv T Y l y w) := by
  have HT := Lib.hid h
  have HI : Hid (I64 l ∧ I64 y) := ⟨hl, hy⟩
  have hG := h.blk.lt
  have hBG := h.bG
  have hYl := h.len
  have c1 : w.cell? ⟨G, 1, none⟩ = some v2 := h.blk.cell 1
  have c2 : w.cell? ⟨G, 2, none⟩ = some v3 := h.blk.cell 2
  obtain ⟨A2, n2, hv2, hn2, hn2m⟩ := h.lits.len
  obtain ⟨A3, n3, hv3, hn3, hn3m⟩ := h.why.len
  subst hv2 hv3
  rw [hYl] at c2 hn3 HT
  have HLen := Lib.hid hYl
  clear h hl hy hYl
  go_enter Try.func58, Try.ntmps58
  go_wp2_with fail
  go_region_law (first
    | (refine step_append_item (by rfl) _ _ _ (by rfl) rowInts tells_int (v := .slice A2 T.length n2) (xs := T) (base := B) (S := fun _ => False) (by rfl)
        (.inl (own_later HT.out.lits (row := none) (by first | exact only_drew (only_alloc (only_refl _ none) _) | exact only_drew (only_alloc (only_alloc (only_refl _ none) _) _)) (by cases A2 <;> simp [Value.ownBlock]))) (g := w.heap.size) (cs := #[.int .i64 l]) (by rfl)
        (by first | exact Blk.drew (Blk.new w _ _) | exact Blk.drew (Blk.alloc (Blk.new w _ _) _)) (y := l) ⟨rfl, HI.out.1⟩ (fun b h => False.elim h) (by unfold maxLen; omega) (by omega) (by first | omega | (simp <;> omega)) ?_
       intro ga ca w3 hown3 hgrow3 hat3 hlt3
       have hgw : w.grownBy w3 (Value.slice A2 T.length n2).ownBlock := by first | exact only_trans (only_drew (only_alloc (only_refl w _) _)) hgrow3 | exact only_trans (only_drew (only_alloc (only_alloc (only_refl w _) _) _)) hgrow3
       have y2 : w3.cell? ⟨G, 2, none⟩ = some (.slice A3 T.length n3) := (only_cell hgw hG HT.out.n1.1).trans c2
       have HA := Lib.hid (And.intro hown3 (And.intro hgrow3 (And.intro hat3 (And.intro hlt3 hgw))))
       have zz3 : w.heap.size ≤ w3.heap.size := hgw.size
       have zG3 : G < w3.heap.size := by omega
       clear hown3 hgrow3 hat3 hlt3 hgw)
    | (refine step_append_item (by rfl) _ _ _ (by rfl) rowInts tells_int (v := .slice A2 T.length n2) (xs := T) (base := B) (S := fun _ => False) (by rfl)
        (.inl (own_later HT.out.lits (row := none) (by first | exact only_drew (only_alloc (only_refl _ none) _) | exact only_drew (only_alloc (only_alloc (only_refl _ none) _) _)) (by cases A2 <;> simp [Value.ownBlock]))) (g := w.heap.size + 1) (cs := #[.int .i64 l]) (by rfl)
        (by have := Blk.new (w.alloc (.cells #[.int .i64 y] 3)) 3 #[.int .i64 l]; rw [World.size_alloc] at this; exact Blk.drew this) (y := l) ⟨rfl, HI.out.1⟩ (fun b h => False.elim h) (by unfold maxLen; omega) (by omega) (by first | omega | (simp <;> omega)) ?_
       intro ga ca w3 hown3 hgrow3 hat3 hlt3
       have hgw : w.grownBy w3 (Value.slice A2 T.length n2).ownBlock := by first | exact only_trans (only_drew (only_alloc (only_refl w _) _)) hgrow3 | exact only_trans (only_drew (only_alloc (only_alloc (only_refl w _) _) _)) hgrow3
       have y2 : w3.cell? ⟨G, 2, none⟩ = some (.slice A3 T.length n3) := (only_cell hgw hG HT.out.n1.1).trans c2
       have HA := Lib.hid (And.intro hown3 (And.intro hgrow3 (And.intro hat3 (And.intro hlt3 hgw))))
       have zz3 : w.heap.size ≤ w3.heap.size := hgw.size
       have zG3 : G < w3.heap.size := by omega
       clear hown3 hgrow3 hat3 hlt3 hgw)
    | (refine step_append_item (by rfl) _ _ _ (by rfl) rowInts tells_int (v := .slice A3 T.length n3) (xs := Y) (base := B) (S := fun _ => False) (by rfl)
        (.inl (own_later (own_later HT.out.why HA.out.2.2.2.2 HT.out.apart') (row := none) (by first | exact only_refl _ none | exact only_alloc (only_refl _ none) _) (by cases A3 <;> simp [Value.ownBlock]))) (g := w3.heap.size) (cs := #[.int .i64 y]) (by rfl)
        (Blk.new w3 _ _) (y := y) ⟨rfl, HI.out.2⟩ (fun b h => False.elim h) (by have := HLen.out; unfold maxLen; omega) (by have := HLen.out; omega) (by first | omega | (simp <;> omega)) ?_
       intro gb cb w4 hown4 hgrow4 hat4 hlt4
       have hadd := Trail.added HT.out (by first | exact only_drew (only_alloc (only_refl _ none) _) | exact only_drew (only_alloc (only_alloc (only_refl _ none) _) _)) HA.out.1 HA.out.2.1 HA.out.2.2.1 HA.out.2.2.2.1 (by first | exact only_refl _ none | exact only_alloc (only_refl _ none) _) hown4 hgrow4 hat4
       have z1 : w4.frozen? ⟨G, 1, none⟩ = false := hadd.1.frozen 1
       have z2 : w4.frozen? ⟨G, 2, none⟩ = false := hadd.1.frozen 2
       have y1' : w4.cell? ⟨G, 1, none⟩ = some (.slice A2 T.length n2) := hadd.1.cell 1
       have y2' : w4.cell? ⟨G, 2, none⟩ = some (.slice A3 T.length n3) := hadd.1.cell 2
       have y3 : w4.cell? ⟨G, 3, none⟩ = some (.map (some M)) := hadd.1.cell 3
       have zG4 : G < w4.heap.size := hadd.1.lt
       have HB := Lib.hid (And.intro hadd hown4)
       clear hadd hown4 hgrow4 hat4 hlt4)
    | (refine step_append_item (by rfl) _ _ _ (by rfl) rowInts tells_int (v := .slice A3 T.length n3) (xs := Y) (base := B) (S := fun _ => False) (by rfl)
        (.inl (own_later (own_later HT.out.why HA.out.2.2.2.2 HT.out.apart') (row := none) (by first | exact only_refl _ none | exact only_alloc (only_refl _ none) _) (by cases A3 <;> simp [Value.ownBlock]))) (g := w.heap.size + 1) (cs := #[.int .i64 y]) (by rfl)
        (Blk.grown (by have := Blk.new (w.alloc (.cells #[.int .i64 l] 3)) 3 #[.int .i64 y]; rw [World.size_alloc] at this; exact Blk.drew this) HA.out.2.1 (fun e => by have := (HT.out.lits.lt _ e.symm).2; omega)) (y := y) ⟨rfl, HI.out.2⟩ (fun b h => False.elim h) (by have := HLen.out; unfold maxLen; omega) (by have := HLen.out; omega) (by first | omega | (simp <;> omega)) ?_
       intro gb cb w4 hown4 hgrow4 hat4 hlt4
       have hadd := Trail.added HT.out (by first | exact only_drew (only_alloc (only_refl _ none) _) | exact only_drew (only_alloc (only_alloc (only_refl _ none) _) _)) HA.out.1 HA.out.2.1 HA.out.2.2.1 HA.out.2.2.2.1 (by first | exact only_refl _ none | exact only_alloc (only_refl _ none) _) hown4 hgrow4 hat4
       have z1 : w4.frozen? ⟨G, 1, none⟩ = false := hadd.1.frozen 1
       have z2 : w4.frozen? ⟨G, 2, none⟩ = false := hadd.1.frozen 2
       have y1' : w4.cell? ⟨G, 1, none⟩ = some (.slice A2 T.length n2) := hadd.1.cell 1
       have y2' : w4.cell? ⟨G, 2, none⟩ = some (.slice A3 T.length n3) := hadd.1.cell 2
       have y3 : w4.cell? ⟨G, 3, none⟩ = some (.map (some M)) := hadd.1.cell 3
       have zG4 : G < w4.heap.size := hadd.1.lt
       have HB := Lib.hid (And.intro hadd hown4)
       clear hadd hown4 hgrow4 hat4 hlt4)
    | (refine step_append_item (by rfl) _ _ _ (by rfl) rowInts tells_int (v := .slice A3 T.length n3) (xs := Y) (base := B) (S := fun _ => False) (by rfl)
        (.inl (own_later (own_later HT.out.why HA.out.2.2.2.2 HT.out.apart') (row := none) (by first | exact only_refl _ none | exact only_alloc (only_refl _ none) _) (by cases A3 <;> simp [Value.ownBlock]))) (g := w.heap.size) (cs := #[.int .i64 y]) (by rfl)
        (Blk.grown (Blk.drew (Blk.alloc (Blk.new w _ _) _)) HA.out.2.1 (fun e => by have := (HT.out.lits.lt _ e.symm).2; omega)) (y := y) ⟨rfl, HI.out.2⟩ (fun b h => False.elim h) (by have := HLen.out; unfold maxLen; omega) (by have := HLen.out; omega) (by first | omega | (simp <;> omega)) ?_
       intro gb cb w4 hown4 hgrow4 hat4 hlt4
       have hadd := Trail.added HT.out (by first | exact only_drew (only_alloc (only_refl _ none) _) | exact only_drew (only_alloc (only_alloc (only_refl _ none) _) _)) HA.out.1 HA.out.2.1 HA.out.2.2.1 HA.out.2.2.2.1 (by first | exact only_refl _ none | exact only_alloc (only_refl _ none) _) hown4 hgrow4 hat4
       have z1 : w4.frozen? ⟨G, 1, none⟩ = false := hadd.1.frozen 1
       have z2 : w4.frozen? ⟨G, 2, none⟩ = false := hadd.1.frozen 2
       have y1' : w4.cell? ⟨G, 1, none⟩ = some (.slice A2 T.length n2) := hadd.1.cell 1
       have y2' : w4.cell? ⟨G, 2, none⟩ = some (.slice A3 T.length n3) := hadd.1.cell 2
       have y3 : w4.cell? ⟨G, 3, none⟩ = some (.map (some M)) := hadd.1.cell 3
       have zG4 : G < w4.heap.size := hadd.1.lt
       have HB := Lib.hid (And.intro hadd hown4)
       clear hadd hown4 hgrow4 hat4 hlt4)
    | fail)
  all_goals
    go_wp2_with (at_mapUpdate; refine wpList_store_t rfl _ _ _ rfl rfl rfl rfl HI.out.1 (n := T.length) (by unfold maxLen; omega) (HB.out.1.2.1.kept (one_only (one_only (only_refl _ _) 1 _) 2 _) (fun e => HT.out.n3 (by injection e))) ?_; intro w5 ht5 hg5)
    go_end0
    exact ⟨rfl, Trail.stored HT.out HB.out.1 HB.out.2 ht5 hg5⟩
end Go.Proofs.Ytdncchlfeanlmaa
