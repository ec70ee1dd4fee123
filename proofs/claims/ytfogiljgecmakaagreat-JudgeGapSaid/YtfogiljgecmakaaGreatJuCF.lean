/- Plain: what the judge does with a step. No walk. · Walks: the judge's state in memory; an atom of it; whether all are of a kind. · Walks: what is the same, in the judge. · Walk: whether a clause follows by what is the same. · Plain: the ways of a step of the judge. No walk. -/
import Derived.Test.YtfogiljgecmakaaGreatJuAM
import Derived.Test.YtfogiljgecmakaaGreatFuFr
import Derived.Test.YtfogiljgecmakaaGreatForm
import Derived.Test.YtfogiljgecmakaaGreatJuXY
import Derived.Test.YtfogiljgecmakaaGreatTC
import Derived.IntWalk
import Derived.Deep.RegionWith
import Derived.Deep.RegionHeld3
namespace Go.Proofs.YtfogiljgecmakaaGreat
open Go.RowKit

structure StepD where
  kind : Int
  lits : List Int
  nums : List FracD
  atom : AtomD
structure JSt where
  atoms : List AtomD
  cls : List (List Int)

def nilAtom : AtomD := ⟨0, 0, 0, ⟨[], 0, 0⟩⟩
def atomAt (ats : List AtomD) (l : Int) : AtomD := ats.getD (l.natAbs - 1) nilAtom
def zeroA (a : AtomD) : Bool := decide (a.kind = 0 ∧ a.a = 0 ∧ a.b = 0 ∧ a.row.of_.length = 0 ∧ a.row.kind = 0 ∧ a.row.to_ = 0)
def formedF (na : Nat) (x : StepD) : Bool :=
  decide (¬ (x.kind < 1 ∨ 6 < x.kind)) && decide (¬ ((¬ x.kind = 4 ∧ 0 < x.nums.length) ∨ (¬ x.kind = 5 ∧ zeroA x.atom = false) ∨ (x.kind = 5 ∧ 0 < x.lits.length))) && decide ((badL na [] x.lits 0).2 = 0)
def allK (ats : List AtomD) (k : Int) (lits : List Int) : Bool := lits.all fun l => decide ((atomAt ats l).kind = k)
def pairsOf (ats : List AtomD) (lits : List Int) : List (Int × Int) := (lits.filter fun l => decide (l < 0)).map fun l => ((atomAt ats l).a, (atomAt ats l).b)
noncomputable def congB (ts : List TermD) (ps : List (Int × Int)) (a b : Nat) : Bool := @decide (Cong ts ps a b) (Classical.propDecidable _)
theorem congB_iff {ts : List TermD} {ps : List (Int × Int)} {a b : Nat} : congB ts ps a b = true ↔ Cong ts ps a b := by unfold congB; simp
noncomputable def sameF (ts : List TermD) (ats : List AtomD) (lits : List Int) : Bool :=
  allK ats 2 lits && lits.any fun l => decide (0 < l) && congB ts (pairsOf ats lits) (atomAt ats l).a.toNat (atomAt ats l).b.toNat

structure SumD where
  of_ : List FracD
  to_ : FracD
  less : Bool
def addC (a : FracD) (x : Int) (m : FracD) : Option FracD := (timesQ ⟨x, 1⟩ m).bind fun p => addQ a p
def addRow (m : FracD) (s : Int) : List FracD → List Int → Option (List FracD)
  | of_, [] => some of_
  | [], _ :: _ => none
  | a :: r, c :: cs => (addC a (s * c) m).bind fun a' => (addRow m s r cs).map (a' :: ·)
def signF (pos : Bool) : Int := if pos then -1 else 1
def lessF (k : Int) (pos : Bool) : Bool := if pos then decide (k = 1) else decide (k = 2)
def takeF (t : SumD) (r : RowD) (pos : Bool) (m : FracD) : Option SumD :=
  if pos = true ∧ r.kind = 3 then none else if m.num < 0 ∧ ¬ r.kind = 3 then none
  else (addRow m (signF pos) t.of_ r.of_).bind fun o => (addC t.to_ (signF pos * r.to_) m).map fun t' => ⟨o, t', t.less || (lessF r.kind pos && decide (¬ m.num = 0))⟩
def sumF (ats : List AtomD) : SumD → List Int → List FracD → Option SumD
  | t, [], _ => some t
  | _, _ :: _, [] => none
  | t, l :: r, m :: ms => if fracGood m.num m.den = true then (takeF t (atomAt ats l).row (decide (0 < l)) m).bind fun t' => sumF ats t' r ms else none
def sum0 (ni : Nat) : SumD := ⟨List.replicate ni ⟨0, 1⟩, ⟨0, 1⟩, false⟩
def sumOk (t : SumD) : Bool := t.of_.all (fun f => decide (f.num = 0)) && (decide (t.to_.num < 0) || (decide (t.to_.num = 0) && t.less))
def rowsF (ni : Nat) (ats : List AtomD) (lits : List Int) (nums : List FracD) : Bool :=
  allK ats 3 lits && decide (nums.length = lits.length) && match sumF ats (sum0 ni) lits nums with
    | none => false
    | some t => sumOk t
def turnedF (n : Nat) (a b : List Int) (s : Int) : Bool := (List.range n).all fun i => decide (b.getD i 0 = s * a.getD i 0)
def wholeF (ints : List Bool) (a : List Int) : Bool := (List.range ints.length).all fun i => ints.getD i false || decide (a.getD i 0 = 0)
def gapRows (ints : List Bool) : List RowD → Bool
  | [a, b] => wholeF ints a.of_ && decide (a.kind = 1 ∧ b.kind = 1) && turnedF ints.length a.of_ b.of_ (-1) && decide (b.to_ = -a.to_ - 1)
  | [a, b, c] => decide (a.kind = 3 ∧ b.kind = 2 ∧ c.kind = 2) && turnedF ints.length a.of_ b.of_ 1 && decide (b.to_ = a.to_) && turnedF ints.length a.of_ c.of_ (-1) && decide (c.to_ = -a.to_)
  | _ => false
def gapF (ints : List Bool) (ats : List AtomD) (lits : List Int) : Bool := allK ats 3 lits && (lits.all fun l => decide (0 < l)) && gapRows ints (lits.map fun l => (atomAt ats l).row)

/-- two clauses of the same literals -/
def permB (a b : List Int) : Bool := decide (a.Perm b)
noncomputable def stepJ (ts : List TermD) (ints : List Bool) (s : JSt) (x : StepD) : Option JSt :=
  if formedF s.atoms.length x = false then none
  else if x.kind = 2 then (if s.cls.any (fun c => permB c x.lits) = true then some ⟨s.atoms, s.cls.eraseIdx (idx (fun c => permB c x.lits) s.cls 0).toNat⟩ else none)
  else if x.kind = 5 then (if ¬ x.atom.kind = 3 ∨ ¬ atomCode x.atom ts.length ints.length = 0 ∨ 120 ≤ s.atoms.length then none else some ⟨s.atoms ++ [x.atom], s.cls⟩)
  else if (if x.kind = 1 then @decide (Clash s.cls (x.lits.map fun l => -l)) (Classical.propDecidable _) else if x.kind = 3 then sameF ts s.atoms x.lits else if x.kind = 4 then rowsF ints.length s.atoms x.lits x.nums else gapF ints s.atoms x.lits) = true
    then some ⟨s.atoms, s.cls ++ [x.lits]⟩ else none
noncomputable def runJ (ts : List TermD) (ints : List Bool) : JSt → List StepD → Int → Int
  | s, [], i => if s.cls.any (fun c => decide (c.length = 0)) then -1 else i
  | s, x :: r, i => match stepJ ts ints s x with
    | none => i
    | some s' => runJ ts ints s' r (i + 1)
/-- what judge.Why answers: a number, and a fault -/
noncomputable def whyJ (F : FormD) (l : List StepD) : Int × Int × Int :=
  if ¬ (formF F).1 = 0 then (0, formF F) else if 3000 < l.length then (0, 2, -1) else (runJ F.terms F.ints ⟨F.atoms, F.clauses⟩ l 0, 0, 0)
end Go.Proofs.YtfogiljgecmakaaGreat
namespace Go.Proofs.YtfogiljgecmakaaGreat
open Go.RowKit

/-- what the judge's state leads to, in memory (to be read) -/
structure StR (w : World) (B0 G : Nat) (A1 : Option Addr) (c1 : Nat) (A2 : Option Addr) (c2 : Nat) (A3 : Option Addr) (c3 : Nat) (ts : List TermD) (ints : List Bool) (ats : List AtomD) : Prop where
  q0 : w.cell? ⟨G, 0, none⟩ = some (.slice A1 ts.length c1)
  q1 : w.cell? ⟨G, 1, none⟩ = some (.slice A2 ints.length c2)
  q2 : w.cell? ⟨G, 2, none⟩ = some (.slice A3 ats.length c3)
  lt : G < w.heap.size
  t : ArrB AtTerm 2 w B0 A1 ts.length ts
  i : ArrB AtBool 1 w B0 A2 ints.length ints
  a : ArrB AtAtom 6 w B0 A3 ats.length ats
  l1 : ts.length ≤ c1
  l3 : ats.length ≤ 120
  hB : B0 ≤ w.heap.size
theorem StR.later {w w' : World} {B0 G : Nat} {A1 A2 A3 : Option Addr} {c1 c2 c3 : Nat} {ts : List TermD} {ints : List Bool} {ats : List AtomD} (h : StR w B0 G A1 c1 A2 c2 A3 c3 ts ints ats) (hb : Below w.heap.size w w') : StR w' B0 G A1 c1 A2 c2 A3 c3 ts ints ats :=
  ⟨(hb.cell (p := ⟨G, 0, none⟩) h.lt).trans h.q0, (hb.cell (p := ⟨G, 1, none⟩) h.lt).trans h.q1, (hb.cell (p := ⟨G, 2, none⟩) h.lt).trans h.q2, Nat.lt_of_lt_of_le h.lt hb.size, h.t.below stays_term (hb.mono h.hB) (Nat.le_refl _), h.i.below stays_bool (hb.mono h.hB) (Nat.le_refl _), h.a.below stays_atom (hb.mono h.hB) (Nat.le_refl _), h.l1, h.l3, Nat.le_trans h.hB hb.size⟩

def AtomP (B0 : Nat) (x : AtomD) (w : World) (e : Ending) (w' : World) : Prop := ∃ (A : Option Addr) (n c : Nat), e = .returned (.agg #[.int .i64 x.kind, .int .i64 x.a, .int .i64 x.b, .slice A n c, .int .i64 x.row.kind, .int .i64 x.row.to_]) ∧ IntsB w B0 A n x.row.of_ ∧ n ≤ c ∧ c ≤ maxLen ∧ Below w.heap.size w w'
def LitIn (n : Nat) (l : Int) : Prop := ¬ l = 0 ∧ -(n : Int) ≤ l ∧ l ≤ n

theorem atomAt_mem {ats : List AtomD} {l : Int} (h : LitIn ats.length l) : atomAt ats l ∈ ats := by
  obtain ⟨h0, h1, h2⟩ := h
  have hk : l.natAbs - 1 < ats.length := by omega
  unfold atomAt
  rw [List.getD_eq_getElem?_getD, List.getElem?_eq_getElem hk]
  exact List.getElem_mem hk

set_option maxRecDepth 100000 in
set_option maxHeartbeats 4000000 in
theorem jatom_any (B0 G : Nat) (A1 A2 A3 : Option Addr) (c1 c2 c3 : Nat) (ts : List TermD) (ints : List Bool) (ats : List AtomD) (l : Int) (w : World) (h : StR w B0 G A1 c1 A2 c2 A3 c3 ts ints ats) (hl : LitIn ats.length l) :
    Calls Tryz.prog 104 #[.pointer (some ⟨G, 0, none⟩), .int .i64 l] w (AtomP B0 (atomAt ats l) w) := by
  obtain ⟨h0, h1, h2⟩ := hl
  have hl3 := h.l3
  have hk : l.natAbs - 1 < ats.length := by omega
  obtain ⟨b, off, hx, hA, hb, hc0, hc1, hc2, A', n', c', hc3, hnc, hcm, har, hc4, hc5⟩ : ∃ (b off : Nat) (_ : l.natAbs - 1 < ats.length), A3 = some ⟨b, off, none⟩ ∧ b < B0 ∧ AtInt w (fun b => b < B0) b (off + (l.natAbs - 1) * 6) (atomAt ats l).kind ∧ AtInt w (fun b => b < B0) b (off + (l.natAbs - 1) * 6 + 1) (atomAt ats l).a ∧ AtInt w (fun b => b < B0) b (off + (l.natAbs - 1) * 6 + 2) (atomAt ats l).b ∧
      ∃ (A' : Option Addr) (n' c' : Nat), w.cell? ⟨b, off + (l.natAbs - 1) * 6 + 3, none⟩ = some (.slice A' n' c') ∧ n' ≤ c' ∧ c' ≤ maxLen ∧ IntsB w B0 A' n' (atomAt ats l).row.of_ ∧ AtInt w (fun b => b < B0) b (off + (l.natAbs - 1) * 6 + 3 + 1) (atomAt ats l).row.kind ∧ AtInt w (fun b => b < B0) b (off + (l.natAbs - 1) * 6 + 3 + 2) (atomAt ats l).row.to_ := by
    obtain ⟨b, off, hx, e, hb, g0, g1, g2, ⟨A', n', c', g3, g4, g5, g6⟩, g7, g8⟩ := Arr.get h.a hk
    have he : atomAt ats l = ats[l.natAbs - 1] := by unfold atomAt; rw [List.getD_eq_getElem?_getD, List.getElem?_eq_getElem hx]; rfl
    rw [he]
    exact ⟨b, off, hx, e, hb, g0, g1, g2, A', n', c', g3, g4, g5, g6, g7, g8⟩
  subst hA
  have q2 := h.q2
  have hG := h.lt
  have hB := h.hB
  have hbw : b < w.heap.size := by omega
  have hal : (IntKind.i64.wrap (absI l - 1)) = ((l.natAbs - 1 : Nat) : Int) := by unfold absI; rw [IntWalk.i64_in _ (by split <;> omega)]; split <;> omega
  obtain ⟨j, hj⟩ : ∃ j, l.natAbs - 1 = j := ⟨_, rfl⟩
  rw [hj] at hc0 hc1 hc2 hc3 hc4 hc5 hk hal
  obtain ⟨hc0, -⟩ := hc0
  obtain ⟨hc1, -⟩ := hc1
  obtain ⟨hc2, -⟩ := hc2
  obtain ⟨hc4, -⟩ := hc4
  obtain ⟨hc5, -⟩ := hc5
  have HR := Lib.hid (And.intro har (And.intro hnc hcm))
  generalize atomAt ats l = x at hc0 hc1 hc2 hc4 hc5 HR ⊢
  have hkI : (j : Int) < (ats.length : Int) := by omega
  clear har hnc hcm h hj hx
  go_enter Tryz.func104, Tryz.ntmps104
  go_wp2_with fail
  go_region_with (go_at_call 81; refine (var_any l _ (by omega) (by omega)).mono ?_; rintro e w9 ⟨rfl, rfl⟩)
  all_goals
    go_wp2_with fail
    refine bodyPost_ret (v := .agg #[.int .i64 x.kind, .int .i64 x.a, .int .i64 x.b, .slice A' n' c', .int .i64 x.row.kind, .int .i64 x.row.to_]) (by simp [results, Tryz.results104, go_sem]) rfl ⟨A', n', c', rfl, HR.out.1, HR.out.2.1, HR.out.2.2, ?_⟩
    exact below_drewN ((Below.refl _ _).alloc (Nat.le_refl _) _) 1

set_option maxRecDepth 100000 in
set_option maxHeartbeats 2000000 in
theorem all1_any (B0 G B1 B2 : Nat) (A1 A2 A3 : Option Addr) (c1 c2 c3 : Nat) (ts : List TermD) (ints : List Bool) (ats : List AtomD) (l k : Int) (w : World) (h : StR w B0 G A1 c1 A2 c2 A3 c3 ts ints ats) (hl : LitIn ats.length l)
    (hb1 : w.cell? ⟨B1, 0, none⟩ = some (.pointer (some ⟨G, 0, none⟩))) (hb2 : w.cell? ⟨B2, 0, none⟩ = some (.int .i64 k)) (hB2 : B2 < w.heap.size) :
    Calls Tryz.prog 133 #[.int .i64 l, .pointer (some ⟨B1, 0, none⟩), .pointer (some ⟨B2, 0, none⟩)] w fun e w' => e = .returned (.bool (!decide ((atomAt ats l).kind = k))) ∧ Below w.heap.size w w' := by
  have HC := Lib.hid (jatom_any B0 G A1 A2 A3 c1 c2 c3 ts ints ats l w.drew (h.later (below_drewN (Below.refl _ _) 1)) hl)
  have hfld : ∀ (x : AtomD) (A : Option Addr) (n c : Nat) (w : World), (Instr.field 47 (.agg #[.int .i64 x.kind, .int .i64 x.a, .int .i64 x.b, .slice A n c, .int .i64 x.row.kind, .int .i64 x.row.to_]) 0).run Tryz.prog w = .ok (.int .i64 x.kind) w := fun _ _ _ _ _ => by kernel_rfl
  generalize atomAt ats l = x at HC ⊢
  clear h hl
  go_enter Tryz.func133, Tryz.ntmps133
  go_wp2_with fail
  go_region_with (go_at_call 104; refine HC.out.mono ?_; rintro e w9 ⟨A, n, c, rfl, har, hnc, hcm, hb9⟩; have hk9 : w9.cell? ⟨B2, 0, none⟩ = some (.int .i64 k) := (hb9.cell (p := ⟨B2, 0, none⟩) hB2).trans hb2; have HB9 : Hid (Below w.heap.size w w9) := below_of_drew hb9; clear har hb9)
  all_goals
    go_wp2_with fail
    go_ret
    refine ⟨ret_bool ?_, HB9.out⟩
    by_cases e : x.kind = k <;> simp [e]

set_option maxRecDepth 100000 in
set_option maxHeartbeats 2000000 in
theorem jall_any (B0 G : Nat) (A1 A2 A3 : Option Addr) (c1 c2 c3 : Nat) (ts : List TermD) (ints : List Bool) (ats : List AtomD) (A : Option Addr) (n c : Nat) (lits : List Int) (k : Int) (w : World) (h : StR w B0 G A1 c1 A2 c2 A3 c3 ts ints ats)
    (hlits : IntsB w w.heap.size A n lits) (hl : ∀ l ∈ lits, LitIn ats.length l) (hn : n ≤ 1000000) :
    Calls Tryz.prog 103 #[.pointer (some ⟨G, 0, none⟩), .slice A n c, .int .i64 k] w fun e w' => e = .returned (.bool (allK ats k lits)) ∧ Below w.heap.size w w' := by
  have eg := enters_of Tryz.func133 (by kernel_rfl) rfl
  have EG := Lib.hid eg
  have hb := two_boxes w 86 3 #[.pointer (some ⟨G, 0, none⟩)] #[.int .i64 k]
  have hp : PredOn Tryz.prog 133 #[.pointer (some ⟨w.heap.size, 0, none⟩), .pointer (some ⟨w.heap.size + 1, 0, none⟩)] (fun l => !decide ((atomAt ats l).kind = k)) lits ((w.alloc (.cells #[.pointer (some ⟨G, 0, none⟩)] 86)).alloc (.cells #[.int .i64 k] 3)) := fun W y hy hbW => by
    have h1 := (h.later hb.1).later hbW
    have hz := hb.2.2.2
    have hzW := hbW.size
    refine (all1_any B0 G w.heap.size (w.heap.size + 1) A1 A2 A3 c1 c2 c3 ts ints ats y k W h1 (hl y hy) ?_ ?_ (by omega)).mono fun _ _ ⟨he, hb'⟩ => ⟨he, hbW.trans (hb'.mono hbW.size)⟩
    · exact (hb.2.1.below hbW (by omega)).cell 0
    · exact (hb.2.2.1.below hbW (by omega)).cell 0
  have HC := Lib.hid (fun R hR => containsInts_any 133 _ EG.out _ A n c lits R _ (hlits.below stays_int hb.1 hb.1.size) hn hp hR)
  have HR := Lib.hid (show lits.any (fun l => !decide ((atomAt ats l).kind = k)) = !(allK ats k lits) by unfold allK; rw [← List.not_all_eq_any_not])
  have HB := Lib.hid hb.1
  have hcm : n ≤ n := Nat.le_refl _
  clear h hlits hl hp hb
  go_enter Tryz.func103, Tryz.ntmps103
  go_wp2_with fail
  refine (HC.out _ HR.out).mono ?_
  rintro e w9 ⟨rfl, hb9⟩
  have HB9 := Lib.hid (HB.out.trans (hb9.mono HB.out.size))
  clear hb9
  go_wp2_with fail
  go_ret
  exact ⟨ret_bool (by simp), HB9.out⟩
end Go.Proofs.YtfogiljgecmakaaGreat
namespace Go.Proofs.YtfogiljgecmakaaGreat
open Go.RowKit

theorem field_a (x : AtomD) (A : Option Addr) (n c : Nat) (w : World) : (Instr.field 47 (.agg #[.int .i64 x.kind, .int .i64 x.a, .int .i64 x.b, .slice A n c, .int .i64 x.row.kind, .int .i64 x.row.to_]) 1).run Tryz.prog w = .ok (.int .i64 x.a) w := by kernel_rfl
theorem field_b (x : AtomD) (A : Option Addr) (n c : Nat) (w : World) : (Instr.field 47 (.agg #[.int .i64 x.kind, .int .i64 x.a, .int .i64 x.b, .slice A n c, .int .i64 x.row.kind, .int .i64 x.row.to_]) 2).run Tryz.prog w = .ok (.int .i64 x.b) w := by kernel_rfl

set_option maxRecDepth 100000 in
set_option maxHeartbeats 4000000 in
theorem same1_any (B0 G B1 B2 g B n : Nat) (A1 A2 A3 : Option Addr) (c1 c2 c3 : Nat) (ts : List TermD) (ints : List Bool) (ats : List AtomD) (l : Int) (cl : List Int) (w : World) (h : StR w B0 G A1 c1 A2 c2 A3 c3 ts ints ats) (hl : LitIn ats.length l)
    (hb1 : w.cell? ⟨B1, 0, none⟩ = some (.slice (some ⟨g, 0, none⟩) n n)) (hb2 : w.cell? ⟨B2, 0, none⟩ = some (.pointer (some ⟨G, 0, none⟩))) (hl1 : B1 < w.heap.size) (hl2 : B2 < w.heap.size)
    (hown : OwnT w B (.slice (some ⟨g, 0, none⟩) n n) cl) (hn : cl.length = n) (ha : 0 ≤ (atomAt ats l).a ∧ (atomAt ats l).a < n) (hb : 0 ≤ (atomAt ats l).b ∧ (atomAt ats l).b < n) :
    Calls Tryz.prog 106 #[.int .i64 l, .pointer (some ⟨B1, 0, none⟩), .pointer (some ⟨B2, 0, none⟩)] w fun e w' => e = .returned (.bool (decide (0 < l) && decide (cl[(atomAt ats l).a.toNat]? = cl[(atomAt ats l).b.toNat]?))) ∧ Below w.heap.size w w' := by
  by_cases hp : 0 < l
  · have HC : Hid (∀ W, Below w.heap.size w W → Calls Tryz.prog 104 #[.pointer (some ⟨G, 0, none⟩), .int .i64 l] W (AtomP B0 (atomAt ats l) W)) := fun W hW => jatom_any B0 G A1 A2 A3 c1 c2 c3 ts ints ats l W (h.later hW) hl
    have hpb : decide (0 < l) = true := by simpa using hp
    have HFA := Lib.hid (field_a (atomAt ats l))
    have HFB := Lib.hid (field_b (atomAt ats l))
    obtain ⟨i, hi⟩ := Int.eq_ofNat_of_zero_le ha.1
    obtain ⟨k, hk⟩ := Int.eq_ofNat_of_zero_le hb.1
    have hil : i < cl.length := by omega
    have hkl : k < cl.length := by omega
    have hiI : (i : Int) < (n : Int) := by omega
    have hkI : (k : Int) < (n : Int) := by omega
    have cell : ∀ (i : Nat) (hi : i < cl.length), w.cell? ⟨g, i, none⟩ = some (.int .i64 cl[i]) := fun i hi => by
      obtain ⟨u, h1, h2⟩ := OwnV.elem tells_int hown (List.getElem?_eq_getElem hi)
      rw [h1, (List.cons.inj h2.1).1]
    have e1 := cell i hil
    have e2 := cell k hkl
    have hgl := (hown.lt g rfl).2
    have HG : Hid (decide (cl[(atomAt ats l).a.toNat]? = cl[(atomAt ats l).b.toNat]?) = decide (cl[i] = cl[k])) := by
      show _ = _
      rw [hi, hk, Int.toNat_natCast, Int.toNat_natCast, List.getElem?_eq_getElem hil, List.getElem?_eq_getElem hkl]
      simp
    rw [HG.out]
    generalize cl[i] = x at e1
    generalize cl[k] = y at e2
    generalize atomAt ats l = z at HC HFA HFB hi hk
    rw [hi, hk] at HFA HFB
    have hfa := HFA.out
    have hfb := HFB.out
    clear h hl hown cell ha hb HG hn hil hkl
    go_enter Tryz.func106, Tryz.ntmps106
    go_wp2_with fail
    go_region_held3 (fun w' => w'.cell? ⟨B1, 0, none⟩ = some (.slice (some ⟨g, 0, none⟩) n n) ∧ w'.cell? ⟨B2, 0, none⟩ = some (.pointer (some ⟨G, 0, none⟩)) ∧ w'.cell? ⟨g, i, none⟩ = some (.int .i64 x) ∧ w'.cell? ⟨g, k, none⟩ = some (.int .i64 y))
      (go_keep)
      (first
        | (go_simp
           go_at_call 104
           with_reducible refine (HC.out w.drew (below_drewN (Below.refl _ _) 1)).mono ?_
           rintro e w1 ⟨A, n1, c1, rfl, har1, hnc1, hcm1, hbx1⟩
           have hbw1 : Below w.heap.size w w1 := below_of_drew hbx1
           have f1 : w1.cell? ⟨B1, 0, none⟩ = some (.slice (some ⟨g, 0, none⟩) n n) := (hbw1.cell (p := ⟨B1, 0, none⟩) hl1).trans hb1
           have f2 : w1.cell? ⟨B2, 0, none⟩ = some (.pointer (some ⟨G, 0, none⟩)) := (hbw1.cell (p := ⟨B2, 0, none⟩) hl2).trans hb2
           have f3 : w1.cell? ⟨g, i, none⟩ = some (.int .i64 x) := (hbw1.cell (p := ⟨g, i, none⟩) hgl).trans e1
           have f4 : w1.cell? ⟨g, k, none⟩ = some (.int .i64 y) := (hbw1.cell (p := ⟨g, k, none⟩) hgl).trans e2
           have HB1 := Lib.hid hbw1
           clear har1 hnc1 hcm1 hbx1 hbw1)
        | (go_simp
           go_at_call 104
           with_reducible refine (HC.out w1 HB1.out).mono ?_
           rintro e w2 ⟨A, n1, c1, rfl, har1, hnc1, hcm1, hbx1⟩
           have hbw2 : Below w.heap.size w w2 := HB1.out.trans (hbx1.mono HB1.out.size)
           have k1 : w2.cell? ⟨B1, 0, none⟩ = some (.slice (some ⟨g, 0, none⟩) n n) := (hbw2.cell (p := ⟨B1, 0, none⟩) hl1).trans hb1
           have k2 : w2.cell? ⟨B2, 0, none⟩ = some (.pointer (some ⟨G, 0, none⟩)) := (hbw2.cell (p := ⟨B2, 0, none⟩) hl2).trans hb2
           have k3 : w2.cell? ⟨g, i, none⟩ = some (.int .i64 x) := (hbw2.cell (p := ⟨g, i, none⟩) hgl).trans e1
           have k4 : w2.cell? ⟨g, k, none⟩ = some (.int .i64 y) := (hbw2.cell (p := ⟨g, k, none⟩) hgl).trans e2
           have HB2 := Lib.hid hbw2
           clear har1 hnc1 hcm1 hbx1 hbw2)
        | fail)
    all_goals
      go_wp2_with fail
      go_ret
      refine ⟨ret_bool ?_, HB2.out⟩
      by_cases e : x = y <;> simp [e, hp]
  · have hpb : decide (0 < l) = false := by simpa using hp
    clear h hl hown ha hb hn hb1 hb2
    rw [hpb]
    go_enter Tryz.func106, Tryz.ntmps106
    go_wp2_with fail
    go_quiet (fail)
    go_wp2_with fail
    go_ret
    exact ⟨rfl, below_drewN (Below.refl _ _) _⟩
end Go.Proofs.YtfogiljgecmakaaGreat
namespace Go.Proofs.YtfogiljgecmakaaGreat
open Go.RowKit

def VPair : Val (Int × Int) := fun _ _ cs x => cs = [.int .i64 x.1, .int .i64 x.2] ∧ I64 x.1 ∧ I64 x.2
theorem tells_pair : Tells VPair 2 := ⟨fun _ _ _ _ _ _ _ _ h => h, fun _ _ _ _ h => by rw [h.1]; rfl, fun _ _ _ _ h u hu => by rw [h.1] at hu; simp only [List.mem_cons, List.not_mem_nil, or_false] at hu; rcases hu with rfl | rfl <;> rfl⟩
theorem atV_pair {w : World} {S : Nat → Prop} {b o : Nat} {x : Int × Int} (h : AtV VPair w S b o x) : AtPair w S b o x := by
  obtain ⟨cs, ⟨rfl, h1, h2⟩, hc⟩ := h
  exact ⟨⟨hc 0 _ rfl, h1⟩, hc 1 _ rfl, h2⟩
abbrev OwnP (w : World) (B : Nat) (v : Value) (l : List (Int × Int)) : Prop := OwnV VPair 141 2 w B (fun _ => False) v l
theorem pair_later {w w' : World} {B : Nat} {v : Value} {c : List (Int × Int)} (h : OwnP w B v c) (hb : w.grownBy w' none) : OwnP w' B v c := h.kept tells_pair hb (by cases v.ownBlock <;> simp) (fun _ hb => False.elim hb)
theorem infoPair : (Tryz.prog.info? 141).map (fun i => (i.zero, i.size, i.bytes)) = some (some (.agg #[.int .i64 0, .int .i64 0]), 2, 16) := by kernel_rfl
theorem rowPairs : RowT Tryz.prog 139 141 2 16 := rowT_of Tryz.underlying139 infoPair rfl (by omega)
theorem pairsOf_neg {ats : List AtomD} {pre : List Int} {l : Int} (h : l < 0) : pairsOf ats (pre ++ [l]) = pairsOf ats pre ++ [((atomAt ats l).a, (atomAt ats l).b)] := by
  unfold pairsOf; rw [List.filter_append, List.map_append]; simp [h]
theorem pairsOf_pos {ats : List AtomD} {pre : List Int} {l : Int} (h : ¬ l < 0) : pairsOf ats (pre ++ [l]) = pairsOf ats pre := by
  unfold pairsOf; rw [List.filter_append, List.map_append]; simp [h]
theorem pairsOf_len (ats : List AtomD) (lits : List Int) : (pairsOf ats lits).length ≤ lits.length := by unfold pairsOf; rw [List.length_map]; exact List.length_filter_le _ _

/-- atoms that say that two terms are the same are over terms -/
def GoodSame (n : Nat) (ats : List AtomD) : Prop := ∀ x ∈ ats, x.kind = 2 → 0 ≤ x.a ∧ x.a < x.b ∧ x.b < n
set_option maxRecDepth 100000 in
set_option maxHeartbeats 4000000 in
theorem jsame_any (B0 G : Nat) (A1 A2 A3 : Option Addr) (c1 c2 c3 : Nat) (ts : List TermD) (ints : List Bool) (ats : List AtomD) (A : Option Addr) (n c : Nat) (lits : List Int) (w : World) (h : StR w B0 G A1 c1 A2 c2 A3 c3 ts ints ats)
    (hlits : IntsB w w.heap.size A n lits) (hl : ∀ l ∈ lits, LitIn ats.length l) (hn : n ≤ 1000) (hg : GoodTs ts) (hgs : GoodSame ts.length ats) (hts : ts.length ≤ 1000) :
    Calls Tryz.prog 70 #[.pointer (some ⟨G, 0, none⟩), .slice A n c] w fun e w' => e = .returned (.bool (sameF ts ats lits)) ∧ Below w.heap.size w w' := by
  have hb0 : Below w.heap.size w (w.alloc (.cells #[.pointer (some ⟨G, 0, none⟩)] 86)) := (Below.refl _ _).alloc (Nat.le_refl _) _
  have HALL := Lib.hid (jall_any B0 G A1 A2 A3 c1 c2 c3 ts ints ats A n c lits 2 _ (h.later hb0) (hlits.below stays_int hb0 hb0.size) hl (by omega))
  have hk0 := Blk.new w 86 #[.pointer (some ⟨G, 0, none⟩)]
  have HK := Lib.hid (And.intro hb0 hk0)
  have H := Lib.hid (And.intro h (And.intro hlits (And.intro hl (And.intro hg (And.intro hgs hts)))))
  have hGl := h.lt
  cases hall : allK ats 2 lits with
  | false =>
    rw [hall] at HALL
    rw [show sameF ts ats lits = false from by unfold sameF; rw [hall]; rfl]
    clear h hlits hl hg hgs hts hb0 hk0 hall
    go_enter Tryz.func70, Tryz.ntmps70
    go_wp2_with fail
    refine HALL.out.mono ?_
    rintro e w9 ⟨rfl, hb9⟩
    have HB9 := Lib.hid (HK.out.1.trans (hb9.mono HK.out.1.size))
    clear hb9
    go_wp2_with fail
    go_ret
    exact ⟨rfl, HB9.out⟩
  | true =>
    rw [hall] at HALL
    have HA := Lib.hid hall
    clear h hlits hl hg hgs hts hb0 hk0 hall
    go_enter Tryz.func70, Tryz.ntmps70
    go_wp2_with fail
    refine HALL.out.mono ?_
    rintro e w9 ⟨rfl, hb9⟩
    have HB9 := Lib.hid hb9
    clear hb9
    go_wp2_with fail
    go_loopw [5, 16] (fun s5 s16 wr => ∃ j : Nat, s16 = .int .i64 (j : Int) ∧ j ≤ n ∧ Hid (OwnV VPair 141 2 wr (w.heap.size + 1) (fun _ => False) s5 (pairsOf ats (lits.take j)) ∧ Below (w.heap.size + 1) (w.alloc (.cells #[.pointer (some ⟨G, 0, none⟩)] 86)) wr)) (fun _ s _ => n - (intOf s).toNat)
    case atStart => exact ⟨0, rfl, Nat.zero_le _, OwnV.none_ _ _ _ _ _ _, by have := HB9.out; rwa [World.size_alloc] at this⟩
    case round =>
      obtain ⟨j, rfl, hj, HJ⟩ := hrel
      obtain ⟨A5, c5, rfl, hc5, hc5m⟩ := HJ.out.1.len
      unfold maxLen at hc5m
      have hbx : wr.cell? ⟨w.heap.size, 0, none⟩ = some (.pointer (some ⟨G, 0, none⟩)) := (HJ.out.2.cell (p := ⟨w.heap.size, 0, none⟩) (Nat.lt_succ_self _)).trans (HK.out.2.cell 0)
      have hwz : w.heap.size + 1 ≤ wr.heap.size := by have := HJ.out.2.size; simp at this; omega
      have hbel : Below w.heap.size w wr := HK.out.1.trans (HJ.out.2.mono (by omega))
      have HBL := Lib.hid hbel
      clear hbel
      by_cases hlt : j < n
      · have hltI : (j : Int) < (n : Int) := by omega
        obtain ⟨b, off, hx, rfl, hb, hcell, hlo, hhi⟩ := ints_get (H.out.2.1.below stays_int HBL.out (Nat.le_refl _)) hlt
        have hlm := List.getElem_mem hx
        have hlit := H.out.2.2.1 _ hlm
        have hts := take_snoc_l hx
        have hC := jatom_any B0 G A1 A2 A3 c1 c2 c3 ts ints ats lits[j] wr (H.out.1.later (HBL.out.mono (Nat.le_refl _))) hlit
        obtain ⟨y, hy⟩ : ∃ y, lits[j] = y := ⟨_, rfl⟩
        rw [hy] at hcell hlit hts hC hlm
        have hz2 : (atomAt ats y).kind = 2 := by
          have h1 := HA.out
          unfold allK at h1
          exact of_decide_eq_true (List.all_eq_true.1 h1 y hlm)
        have hgs2 := H.out.2.2.2.2.1 _ (atomAt_mem hlit) hz2
        have hts1 := H.out.2.2.2.2.2
        obtain ⟨z, hz⟩ : ∃ z, atomAt ats y = z := ⟨_, rfl⟩
        rw [hz] at hC hgs2
        have HIZ : Hid (I64 z.a ∧ I64 z.b) := ⟨by unfold I64; omega, by unfold I64; omega⟩
        have HC := Lib.hid hC
        have HT := Lib.hid (And.intro hts hz)
        have hpl : (pairsOf ats (lits.take j)).length ≤ n := Nat.le_trans (pairsOf_len _ _) (by simp; omega)
        obtain ⟨m, hm⟩ : ∃ m, (pairsOf ats (lits.take j)).length = m := ⟨_, rfl⟩
        rw [hm] at HJ hc5 hpl ⊢
        have HM := Lib.hid hm
        clear hy hlo hhi hlm hlit hts hC hz2 hgs2 hts1 hz hm hx
        go_wp2_with fail
        refine HC.out.mono ?_
        rintro e w8 ⟨Az, nz, cz, rfl, har, hnc, hcm, hb8⟩
        have hz8 := hb8.size
        by_cases hneg : y < 0
        · have hbA : Below wr.heap.size wr (w8.alloc (.cells #[.int .i64 z.kind, .int .i64 z.a, .int .i64 z.b, .slice Az nz cz, .int .i64 z.row.kind, .int .i64 z.row.to_] 47)) := hb8.alloc hz8 _
          have hbB : Below wr.heap.size wr ((w8.alloc (.cells #[.int .i64 z.kind, .int .i64 z.a, .int .i64 z.b, .slice Az nz cz, .int .i64 z.row.kind, .int .i64 z.row.to_] 47)).alloc (.cells #[.int .i64 z.a, .int .i64 z.b] 141)) := hbA.alloc (by simp; omega) _
          have hbk := Blk.new (w8.alloc (.cells #[.int .i64 z.kind, .int .i64 z.a, .int .i64 z.b, .slice Az nz cz, .int .i64 z.row.kind, .int .i64 z.row.to_] 47)) 141 #[.int .i64 z.a, .int .i64 z.b]
          rw [World.size_alloc] at hbk
          have HO := Lib.hid (And.intro (pair_later HJ.out.1 (only_of_below hbB none)) (And.intro hbk (HJ.out.2.trans (hbB.mono hwz))))
          clear har hnc hcm hb8 hbA hbB hbk
          go_wp2_with (at_builtin; refine wpList_append_item rfl _ _ _ rfl rowPairs tells_pair (v := .slice A5 m c5) (xs := pairsOf ats (lits.take j)) (base := w.heap.size + 1) (S := fun _ => False) rfl HO.out.1 (g := w8.heap.size + 1) (cs := #[.int .i64 z.a, .int .i64 z.b]) rfl HO.out.2.1 (y := (z.a, z.b)) ⟨rfl, HIZ.out⟩ (fun b h => False.elim h) (by rw [HM.out]; unfold maxLen; omega) (by rw [HM.out]; omega) (by simp; omega) ?_; intro v' w6 hown6 hgrow6 hat6; have HB6 := Lib.hid (And.intro hown6 hgrow6); clear hown6 hgrow6 hat6)
          go_roundw
          case rel =>
            have hlt9 := HO.out.1.lt
            refine ⟨j + 1, by go_num, by omega, ?_, below_then HO.out.2.2 HB6.out.2 (by simp; omega) (fun x hx => (hlt9 x hx).1)⟩
            rw [HT.out.1, pairsOf_neg hneg, HT.out.2]
            exact HB6.out.1
          case measure => simp [intOf]; omega
        · have hbA : Below wr.heap.size wr (w8.alloc (.cells #[.int .i64 z.kind, .int .i64 z.a, .int .i64 z.b, .slice Az nz cz, .int .i64 z.row.kind, .int .i64 z.row.to_] 47)) := hb8.alloc hz8 _
          have HO := Lib.hid (And.intro (pair_later HJ.out.1 (only_of_below hbA none)) (HJ.out.2.trans (hbA.mono hwz)))
          clear har hnc hcm hb8 hbA
          go_wp2_with fail
          go_roundw
          case rel =>
            refine ⟨j + 1, by go_num, by omega, ?_, HO.out.2⟩
            rw [HT.out.1, pairsOf_pos (by omega)]
            exact HO.out.1
          case measure => simp [intOf]; omega
      · obtain rfl : j = n := by omega
        have hln := H.out.2.1.len
        have hall2 := HA.out
        unfold allK at hall2
        have hkind : ∀ y ∈ lits, (atomAt ats y).kind = 2 := fun y hy => of_decide_eq_true (List.all_eq_true.1 hall2 y hy)
        have hab : ∀ y ∈ lits, 0 ≤ (atomAt ats y).a ∧ (atomAt ats y).a < ts.length ∧ 0 ≤ (atomAt ats y).b ∧ (atomAt ats y).b < ts.length := fun y hy => by
          have := H.out.2.2.2.2.1 _ (atomAt_mem (H.out.2.2.1 y hy)) (hkind y hy); omega
        have hgp : GoodPs ts.length (pairsOf ats lits) := fun p hp => by
          obtain ⟨y, hy, rfl⟩ := List.mem_map.1 hp
          exact hab y (List.mem_filter.1 hy).1
        have hown := HJ.out.1
        rw [List.take_of_length_le (by omega)] at hown hc5 ⊢
        have hlt5 := hown.lt
        obtain ⟨A6, c6, he6, -, -, har5⟩ := OwnV.reads (E := AtPair) tells_pair (fun _ _ _ _ _ h => atV_pair h) hown (S' := fun b => b < wr.heap.size) (fun b h => False.elim h) (fun g hg => (hlt5 g hg).2)
        injection he6 with e1 e2 e3
        subst e1 e3
        have hst := H.out.1.later (HBL.out.mono (Nat.le_refl _))
        have hcla := classes_any A1 c1 ts A5 _ c5 (pairsOf ats lits) wr (hst.t.below stays_term (Below.refl _ _) hst.hB) H.out.2.2.2.2.2 hst.l1 H.out.2.2.2.1 har5 (by have := pairsOf_len ats lits; omega) hgp
        obtain ⟨m, hm⟩ : ∃ m, (pairsOf ats lits).length = m := ⟨_, rfl⟩
        rw [hm] at hcla ⊢
        have q0 : wr.cell? ⟨G, 0, none⟩ = some (.slice A1 ts.length c1) := hst.q0
        have HCL := Lib.hid hcla
        have HAB := Lib.hid hab
        clear hln hall2 hkind hab hgp hown hlt5 har5 hst hcla hm hc5 HJ
        go_wp2_with fail
        refine HCL.out.mono ?_
        rintro e w7 ⟨g, cl, rfl, hown7, hcy, hb7⟩
        have hgl7 := hown7.lt g rfl
        have hbX : Below wr.heap.size wr (w7.alloc (.cells #[.slice (some ⟨g, 0, none⟩) ts.length ts.length] 28)) := hb7.alloc hb7.size _
        have hkX := Blk.new w7 28 #[.slice (some ⟨g, 0, none⟩) ts.length ts.length]
        have hownX : OwnT (w7.alloc (.cells #[.slice (some ⟨g, 0, none⟩) ts.length ts.length] 28)) wr.heap.size (.slice (some ⟨g, 0, none⟩) ts.length ts.length) cl := own_later hown7 (only_alloc (only_refl w7 none) _) (by simp [Value.ownBlock])
        have hz7 := hb7.size
        have eg := enters_of Tryz.func106 (by kernel_rfl) rfl
        have hcl := hcy.len
        have hbW : Below w.heap.size w (w7.alloc (.cells #[.slice (some ⟨g, 0, none⟩) ts.length ts.length] 28)) := HBL.out.trans (hbX.mono HBL.out.size)
        have hp : PredOn Tryz.prog 106 #[.pointer (some ⟨w7.heap.size, 0, none⟩), .pointer (some ⟨w.heap.size, 0, none⟩)] (fun l => decide (0 < l) && decide (cl[(atomAt ats l).a.toNat]? = cl[(atomAt ats l).b.toNat]?)) lits (w7.alloc (.cells #[.slice (some ⟨g, 0, none⟩) ts.length ts.length] 28)) := fun W y hy hbY => by
          have hzY := hbY.size
          rw [World.size_alloc] at hzY
          refine (same1_any B0 G w7.heap.size w.heap.size g wr.heap.size ts.length A1 A2 A3 c1 c2 c3 ts ints ats y cl W (H.out.1.later (hbW.trans (hbY.mono hbW.size))) (H.out.2.2.1 y hy) ?_ ?_ (by omega) (by omega) ?_ hcl ?_ ?_).mono fun _ _ ⟨he, hb'⟩ => ⟨he, hbY.trans (hb'.mono hbY.size)⟩
          · exact (hkX.below hbY (by simp)).cell 0
          · refine (hbY.cell (p := ⟨w.heap.size, 0, none⟩) (by simp; omega)).trans ((hbX.cell (p := ⟨w.heap.size, 0, none⟩) (by show w.heap.size < _; omega)).trans hbx)
          · exact own_later hownX (only_of_below hbY none) (by simp [Value.ownBlock])
          · exact ⟨(HAB.out y hy).1, (HAB.out y hy).2.1⟩
          · exact ⟨(HAB.out y hy).2.2.1, (HAB.out y hy).2.2.2⟩
        have HC := Lib.hid (fun R hR => containsInts_any 106 _ eg _ A j c lits R _ (H.out.2.1.below stays_int hbW hbW.size) (by omega) hp hR)
        have HR : Hid (lits.any (fun l => decide (0 < l) && decide (cl[(atomAt ats l).a.toNat]? = cl[(atomAt ats l).b.toNat]?)) = sameF ts ats lits) := by
          show _ = _
          unfold sameF
          rw [HA.out, Bool.true_and, Bool.eq_iff_iff, List.any_eq_true, List.any_eq_true]
          refine exists_congr fun y => and_congr_right fun hy => ?_
          have h1 := HAB.out y hy
          rw [Bool.and_eq_true, Bool.and_eq_true, congB_iff, decide_eq_true_eq, decide_eq_true_eq, hcy.same (by omega)]
        have HB := Lib.hid hbW
        have hbx7 : w7.cell? ⟨w.heap.size, 0, none⟩ = some (.pointer (some ⟨G, 0, none⟩)) := (hb7.cell (p := ⟨w.heap.size, 0, none⟩) (by show w.heap.size < _; omega)).trans hbx
        clear hown7 hcy hb7 hbX hkX hownX hcl hbW hp hgl7
        go_wp2_with fail
        refine (HC.out _ HR.out).mono ?_
        rintro e w6 ⟨rfl, hb6⟩
        have HB6 := Lib.hid (HB.out.trans (hb6.mono HB.out.size))
        clear hb6
        go_wp2_with fail
        go_ret
        exact ⟨rfl, HB6.out⟩
end Go.Proofs.YtfogiljgecmakaaGreat
namespace Go.Proofs.YtfogiljgecmakaaGreat
open Go.RowKit

section
variable {ts : List TermD} {ints : List Bool} {s : JSt} {x : StepD}
theorem stepJ_not (h : formedF s.atoms.length x = false) : stepJ ts ints s x = none := by unfold stepJ; rw [if_pos h]
theorem stepJ_test (h : formedF s.atoms.length x = true) (h2 : ¬ x.kind = 2) (h5 : ¬ x.kind = 5) {R : Bool}
    (hR : (if x.kind = 1 then @decide (Clash s.cls (x.lits.map fun l => -l)) (Classical.propDecidable _) else if x.kind = 3 then sameF ts s.atoms x.lits else if x.kind = 4 then rowsF ints.length s.atoms x.lits x.nums else gapF ints s.atoms x.lits) = R) :
    stepJ ts ints s x = if R = true then some ⟨s.atoms, s.cls ++ [x.lits]⟩ else none := by
  unfold stepJ
  rw [if_neg (by rw [h]; simp), if_neg h2, if_neg h5, hR]
theorem stepJ_drop (h : formedF s.atoms.length x = true) (h2 : x.kind = 2) : stepJ ts ints s x = if s.cls.any (fun c => permB c x.lits) = true then some ⟨s.atoms, s.cls.eraseIdx (idx (fun c => permB c x.lits) s.cls 0).toNat⟩ else none := by
  unfold stepJ
  rw [if_neg (by rw [h]; simp), if_pos h2]
theorem stepJ_atom (h : formedF s.atoms.length x = true) (h5 : x.kind = 5) : stepJ ts ints s x = if (!decide (¬ x.atom.kind = 3 ∨ ¬ atomCode x.atom ts.length ints.length = 0 ∨ 120 ≤ s.atoms.length)) = true then some ⟨s.atoms ++ [x.atom], s.cls⟩ else none := by
  unfold stepJ
  rw [if_neg (by rw [h]; simp), if_neg (by omega), if_pos h5]
  by_cases hb : ¬ x.atom.kind = 3 ∨ ¬ atomCode x.atom ts.length ints.length = 0 ∨ 120 ≤ s.atoms.length
  · rw [if_pos hb, if_neg (by rw [decide_eq_true hb]; simp)]
  · rw [if_neg hb, if_pos (by rw [decide_eq_false hb]; rfl)]
theorem stepJ_test_some {s' : JSt} (h : formedF s.atoms.length x = true) (h2 : ¬ x.kind = 2) (h5 : ¬ x.kind = 5) (hs : stepJ ts ints s x = some s') : s' = ⟨s.atoms, s.cls ++ [x.lits]⟩ := by
  rw [stepJ_test h h2 h5 rfl] at hs
  have key : ∀ R : Bool, (if R = true then some (⟨s.atoms, s.cls ++ [x.lits]⟩ : JSt) else none) = some s' → s' = ⟨s.atoms, s.cls ++ [x.lits]⟩ := fun R hR => by
    cases R with
    | false => cases hR
    | true => injection hR with hR; exact hR.symm
  exact key _ hs
end
end Go.Proofs.YtfogiljgecmakaaGreat
