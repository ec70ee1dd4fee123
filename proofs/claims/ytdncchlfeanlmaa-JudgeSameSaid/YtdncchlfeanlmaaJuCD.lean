/- Plain: what the judge does with a step. No walk. · Walks: the judge's state in memory; an atom of it; whether all are of a kind. -/
import Derived.Test.YtdncchlfeanlmaaJuAB
import Derived.Test.YtdncchlfeanlmaaFracPW
import Derived.Test.YtdncchlfeanlmaaForm
import Derived.Test.YtdncchlfeanlmaaJuXY
import Derived.Test.YtdncchlfeanlmaaCnf2
import Derived.IntWalk
import Derived.Deep.RegionWith
namespace Go.Proofs.Ytdncchlfeanlmaa
open Go.RowKit

structure StepD where
  kind : Int
  lits : List Int
  nums : List FracD
  atom : AtomD
structure JSt where
  atoms : List AtomD
  cls : List (List Int)

def nilAtom : AtomD := ⟨0, 0, 0, ⟨[], 0, 0⟩⟩
def atomAt (ats : List AtomD) (l : Int) : AtomD := ats.getD (l.natAbs - 1) nilAtom
def zeroA (a : AtomD) : Bool := decide (a.kind = 0 ∧ a.a = 0 ∧ a.b = 0 ∧ a.row.of_.length = 0 ∧ a.row.kind = 0 ∧ a.row.to_ = 0)
def formedF (na : Nat) (x : StepD) : Bool :=
  decide (¬ (x.kind < 1 ∨ 6 < x.kind)) && decide (¬ ((¬ x.kind = 4 ∧ 0 < x.nums.length) ∨ (¬ x.kind = 5 ∧ zeroA x.atom = false) ∨ (x.kind = 5 ∧ 0 < x.lits.length))) && decide ((badL na [] x.lits 0).2 = 0)
def allK (ats : List AtomD) (k : Int) (lits : List Int) : Bool := lits.all fun l => decide ((atomAt ats l).kind = k)
def pairsOf (ats : List AtomD) (lits : List Int) : List (Int × Int) := (lits.filter fun l => decide (l < 0)).map fun l => ((atomAt ats l).a, (atomAt ats l).b)
noncomputable def congB (ts : List TermD) (ps : List (Int × Int)) (a b : Nat) : Bool := @decide (Cong ts ps a b) (Classical.propDecidable _)
theorem congB_iff {ts : List TermD} {ps : List (Int × Int)} {a b : Nat} : congB ts ps a b = true ↔ Cong ts ps a b := by unfold congB; simp
noncomputable def sameF (ts : List TermD) (ats : List AtomD) (lits : List Int) : Bool :=
  allK ats 2 lits && lits.any fun l => decide (0 < l) && congB ts (pairsOf ats lits) (atomAt ats l).a.toNat (atomAt ats l).b.toNat

structure SumD where
  of_ : List FracD
  to_ : FracD
  less : Bool
def addC (a : FracD) (x : Int) (m : FracD) : Option FracD := (timesQ ⟨x, 1⟩ m).bind fun p => addQ a p
def addRow (m : FracD) (s : Int) : List FracD → List Int → Option (List FracD)
  | of_, [] => some of_
  | [], _ :: _ => none
  | a :: r, c :: cs => (addC a (s * c) m).bind fun a' => (addRow m s r cs).map (a' :: ·)
def signF (pos : Bool) : Int := if pos then -1 else 1
def lessF (k : Int) (pos : Bool) : Bool := if pos then decide (k = 1) else decide (k = 2)
def takeF (t : SumD) (r : RowD) (pos : Bool) (m : FracD) : Option SumD :=
  if pos = true ∧ r.kind = 3 then none else if m.num < 0 ∧ ¬ r.kind = 3 then none
  else (addRow m (signF pos) t.of_ r.of_).bind fun o => (addC t.to_ (signF pos * r.to_) m).map fun t' => ⟨o, t', t.less || (lessF r.kind pos && decide (¬ m.num = 0))⟩
def sumF (ats : List AtomD) : SumD → List Int → List FracD → Option SumD
  | t, [], _ => some t
  | _, _ :: _, [] => none
  | t, l :: r, m :: ms => if fracGood m.num m.den = true then (takeF t (atomAt ats l).row (decide (0 < l)) m).bind fun t' => sumF ats t' r ms else none
def sum0 (ni : Nat) : SumD := ⟨List.replicate ni ⟨0, 1⟩, ⟨0, 1⟩, false⟩
def sumOk (t : SumD) : Bool := t.of_.all (fun f => decide (f.num = 0)) && (decide (t.to_.num < 0) || (decide (t.to_.num = 0) && t.less))
def rowsF (ni : Nat) (ats : List AtomD) (lits : List Int) (nums : List FracD) : Bool :=
  allK ats 3 lits && decide (nums.length = lits.length) && match sumF ats (sum0 ni) lits nums with
    | none => false
    | some t => sumOk t
def turnedF (n : Nat) (a b : List Int) (s : Int) : Bool := (List.range n).all fun i => decide (b.getD i 0 = s * a.getD i 0)
def wholeF (ints : List Bool) (a : List Int) : Bool := (List.range ints.length).all fun i => ints.getD i false || decide (a.getD i 0 = 0)
def gapRows (ints : List Bool) : List RowD → Bool
  | [a, b] => wholeF ints a.of_ && decide (a.kind = 1 ∧ b.kind = 1) && turnedF ints.length a.of_ b.of_ (-1) && decide (b.to_ = -a.to_ - 1)
  | [a, b, c] => decide (a.kind = 3 ∧ b.kind = 2 ∧ c.kind = 2) && turnedF ints.length a.of_ b.of_ 1 && decide (b.to_ = a.to_) && turnedF ints.length a.of_ c.of_ (-1) && decide (c.to_ = -a.to_)
  | _ => false
def gapF (ints : List Bool) (ats : List AtomD) (lits : List Int) : Bool := allK ats 3 lits && (lits.all fun l => decide (0 < l)) && gapRows ints (lits.map fun l => (atomAt ats l).row)

/-- two clauses of the same literals -/
def permB (a b : List Int) : Bool := decide (a.Perm b)
noncomputable def stepJ (ts : List TermD) (ints : List Bool) (s : JSt) (x : StepD) : Option JSt :=
  if formedF s.atoms.length x = false then none
  else if x.kind = 2 then (if s.cls.any (fun c => permB c x.lits) = true then some ⟨s.atoms, s.cls.eraseIdx (idx (fun c => permB c x.lits) s.cls 0).toNat⟩ else none)
  else if x.kind = 5 then (if ¬ x.atom.kind = 3 ∨ ¬ atomCode x.atom ts.length ints.length = 0 ∨ 120 ≤ s.atoms.length then none else some ⟨s.atoms ++ [x.atom], s.cls⟩)
  else if (if x.kind = 1 then @decide (Clash s.cls (x.lits.map fun l => -l)) (Classical.propDecidable _) else if x.kind = 3 then sameF ts s.atoms x.lits else if x.kind = 4 then rowsF ints.length s.atoms x.lits x.nums else gapF ints s.atoms x.lits) = true
    then some ⟨s.atoms, s.cls ++ [x.lits]⟩ else none
noncomputable def runJ (ts : List TermD) (ints : List Bool) : JSt → List StepD → Int → Int
  | s, [], i => if s.cls.any (fun c => decide (c.length = 0)) then -1 else i
  | s, x :: r, i => match stepJ ts ints s x with
    | none => i
    | some s' => runJ ts ints s' r (i + 1)
/-- what judge.Why answers: a number, and a fault -/
noncomputable def whyJ (F : FormD) (l : List StepD) : Int × Int × Int :=
  if ¬ (formF F).1 = 0 then (0, formF F) else if 3000 < l.length then (0, 2, -1) else (runJ F.terms F.ints ⟨F.atoms, F.clauses⟩ l 0, 0, 0)
end Go.Proofs.Ytdncchlfeanlmaa
namespace Go.Proofs.Ytdncchlfeanlmaa
open Go.RowKit

/-- what the judge's state leads to, in memory (to be read) -/
structure StR (w : World) (B0 G : Nat) (A1 : Option Addr) (c1 : Nat) (A2 : Option Addr) (c2 : Nat) (A3 : Option Addr) (c3 : Nat) (ts : List TermD) (ints : List Bool) (ats : List AtomD) : Prop where
  q0 : w.cell? ⟨G, 0, none⟩ = some (.slice A1 ts.length c1)
  q1 : w.cell? ⟨G, 1, none⟩ = some (.slice A2 ints.length c2)
  q2 : w.cell? ⟨G, 2, none⟩ = some (.slice A3 ats.length c3)
  lt : G < w.heap.size
  t : ArrB AtTerm 2 w B0 A1 ts.length ts
  i : ArrB AtBool 1 w B0 A2 ints.length ints
  a : ArrB AtAtom 6 w B0 A3 ats.length ats
  l1 : ts.length ≤ c1
  l3 : ats.length ≤ 120
  hB : B0 ≤ w.heap.size
theorem StR.later {w w' : World} {B0 G : Nat} {A1 A2 A3 : Option Addr} {c1 c2 c3 : Nat} {ts : List TermD} {ints : List Bool} {ats : List AtomD} (h : StR w B0 G A1 c1 A2 c2 A3 c3 ts ints ats) (hb : Below w.heap.size w w') : StR w' B0 G A1 c1 A2 c2 A3 c3 ts ints ats :=
  ⟨(hb.cell (p := ⟨G, 0, none⟩) h.lt).trans h.q0, (hb.cell (p := ⟨G, 1, none⟩) h.lt).trans h.q1, (hb.cell (p := ⟨G, 2, none⟩) h.lt).trans h.q2, Nat.lt_of_lt_of_le h.lt hb.size, h.t.below stays_term (hb.mono h.hB) (Nat.le_refl _), h.i.below stays_bool (hb.mono h.hB) (Nat.le_refl _), h.a.below stays_atom (hb.mono h.hB) (Nat.le_refl _), h.l1, h.l3, Nat.le_trans h.hB hb.size⟩

def AtomP (B0 : Nat) (x : AtomD) (w : World) (e : Ending) (w' : World) : Prop := ∃ (A : Option Addr) (n c : Nat), e = .returned (.agg #[.int .i64 x.kind, .int .i64 x.a, .int .i64 x.b, .slice A n c, .int .i64 x.row.kind, .int .i64 x.row.to_]) ∧ IntsB w B0 A n x.row.of_ ∧ n ≤ c ∧ c ≤ maxLen ∧ Below w.heap.size w w'
def LitIn (n : Nat) (l : Int) : Prop := ¬ l = 0 ∧ -(n : Int) ≤ l ∧ l ≤ n

theorem atomAt_mem {ats : List AtomD} {l : Int} (h : LitIn ats.length l) : atomAt ats l ∈ ats := by
  obtain ⟨h0, h1, h2⟩ := h
  have hk : l.natAbs - 1 < ats.length := by omega
  unfold atomAt
  rw [List.getD_eq_getElem?_getD, List.getElem?_eq_getElem hk]
  exact List.getElem_mem hk

set_option maxRecDepth 100000 in
set_option maxHeartbeats 4000000 in
theorem jatom_any (B0 G : Nat) (A1 A2 A3 : Option Addr) (c1 c2 c3 : Nat) (ts : List TermD) (ints : List Bool) (ats : List AtomD) (l : Int) (w : World) (h : StR w B0 G A1 c1 A2 c2 A3 c3 ts ints ats) (hl : LitIn ats.length l) :
    Calls Try.prog 45 #[.pointer (some ⟨G, 0, none⟩), .int .i64 l] w (AtomP B0 (atomAt ats l) w) := by
  obtain ⟨h0, h1, h2⟩ := hl
  have hl3 := h.l3
  have hk : l.natAbs - 1 < ats.length := by omega
  obtain ⟨b, off, hx, hA, hb, hc0, hc1, hc2, A', n', c', hc3, hnc, hcm, har, hc4, hc5⟩ : ∃ (b off : Nat) (_ : l.natAbs - 1 < ats.length), A3 = some ⟨b, off, none⟩ ∧ b < B0 ∧ AtInt w (fun b => b < B0) b (off + (l.natAbs - 1) * 6) (atomAt ats l).kind ∧ AtInt w (fun b => b < B0) b (off + (l.natAbs - 1) * 6 + 1) (atomAt ats l).a ∧ AtInt w (fun b => b < B0) b (off + (l.natAbs - 1) * 6 + 2) (atomAt ats l).b ∧
      ∃ (A' : Option Addr) (n' c' : Nat), w.cell? ⟨b, off + (l.natAbs - 1) * 6 + 3, none⟩ = some (.slice A' n' c') ∧ n' ≤ c' ∧ c' ≤ maxLen ∧ IntsB w B0 A' n' (atomAt ats l).row.of_ ∧ AtInt w (fun b => b < B0) b (off + (l.natAbs - 1) * 6 + 3 + 1) (atomAt ats l).row.kind ∧ AtInt w (fun b => b < B0) b (off + (l.natAbs - 1) * 6 + 3 + 2) (atomAt ats l).row.to_ := by
    obtain ⟨b, off, hx, e, hb, g0, g1, g2, ⟨A', n', c', g3, g4, g5, g6⟩, g7, g8⟩ := Arr.get h.a hk
    have he : atomAt ats l = ats[l.natAbs - 1] := by unfold atomAt; rw [List.getD_eq_getElem?_getD, List.getElem?_eq_getElem hx]; rfl
    rw [he]
    exact ⟨b, off, hx, e, hb, g0, g1, g2, A', n', c', g3, g4, g5, g6, g7, g8⟩
  subst hA
  have q2 := h.q2
  have hG := h.lt
  have hB := h.hB
  have hbw : b < w.heap.size := by omega
  have hal : (IntKind.i64.wrap (absI l - 1)) = ((l.natAbs - 1 : Nat) : Int) := by unfold absI; rw [IntWalk.i64_in _ (by split <;> omega)]; split <;> omega
  obtain ⟨j, hj⟩ : ∃ j, l.natAbs - 1 = j := ⟨_, rfl⟩
  rw [hj] at hc0 hc1 hc2 hc3 hc4 hc5 hk hal
  obtain ⟨hc0, -⟩ := hc0
  obtain ⟨hc1, -⟩ := hc1
  obtain ⟨hc2, -⟩ := hc2
  obtain ⟨hc4, -⟩ := hc4
  obtain ⟨hc5, -⟩ := hc5
  have HR := Lib.hid (And.intro har (And.intro hnc hcm))
  generalize atomAt ats l = x at hc0 hc1 hc2 hc4 hc5 HR ⊢
  have hkI : (j : Int) < (ats.length : Int) := by omega
  clear har hnc hcm h hj hx
  go_enter Try.func45, Try.ntmps45
  go_wp2_with fail
  go_region_with (go_at_call 40; refine (var_any l _ (by omega) (by omega)).mono ?_; rintro e w9 ⟨rfl, rfl⟩)
  all_goals
    go_wp2_with fail
    refine bodyPost_ret (v := .agg #[.int .i64 x.kind, .int .i64 x.a, .int .i64 x.b, .slice A' n' c', .int .i64 x.row.kind, .int .i64 x.row.to_]) (by simp [results, Try.results45, go_sem]) rfl ⟨A', n', c', rfl, HR.out.1, HR.out.2.1, HR.out.2.2, ?_⟩
    exact below_drewN ((Below.refl _ _).alloc (Nat.le_refl _) _) 1

set_option maxRecDepth 100000 in
set_option maxHeartbeats 2000000 in
theorem all1_any (B0 G B1 B2 : Nat) (A1 A2 A3 : Option Addr) (c1 c2 c3 : Nat) (ts : List TermD) (ints : List Bool) (ats : List AtomD) (l k : Int) (w : World) (h : StR w B0 G A1 c1 A2 c2 A3 c3 ts ints ats) (hl : LitIn ats.length l)
    (hb1 : w.cell? ⟨B1, 0, none⟩ = some (.pointer (some ⟨G, 0, none⟩))) (hb2 : w.cell? ⟨B2, 0, none⟩ = some (.int .i64 k)) (hB2 : B2 < w.heap.size) :
    Calls Try.prog 60 #[.int .i64 l, .pointer (some ⟨B1, 0, none⟩), .pointer (some ⟨B2, 0, none⟩)] w fun e w' => e = .returned (.bool (!decide ((atomAt ats l).kind = k))) ∧ Below w.heap.size w w' := by
  have HC := Lib.hid (jatom_any B0 G A1 A2 A3 c1 c2 c3 ts ints ats l w.drew (h.later (below_drewN (Below.refl _ _) 1)) hl)
  have hfld : ∀ (x : AtomD) (A : Option Addr) (n c : Nat) (w : World), (Instr.field 35 (.agg #[.int .i64 x.kind, .int .i64 x.a, .int .i64 x.b, .slice A n c, .int .i64 x.row.kind, .int .i64 x.row.to_]) 0).run Try.prog w = .ok (.int .i64 x.kind) w := fun _ _ _ _ _ => by kernel_rfl
  generalize atomAt ats l = x at HC ⊢
  clear h hl
  go_enter Try.func60, Try.ntmps60
  go_wp2_with fail
  go_region_with (go_at_call 45; refine HC.out.mono ?_; rintro e w9 ⟨A, n, c, rfl, har, hnc, hcm, hb9⟩; have hk9 : w9.cell? ⟨B2, 0, none⟩ = some (.int .i64 k) := (hb9.cell (p := ⟨B2, 0, none⟩) hB2).trans hb2; have HB9 : Hid (Below w.heap.size w w9) := below_of_drew hb9; clear har hb9)
  all_goals
    go_wp2_with fail
    go_ret
    refine ⟨ret_bool ?_, HB9.out⟩
    by_cases e : x.kind = k <;> simp [e]

set_option maxRecDepth 100000 in
set_option maxHeartbeats 2000000 in
theorem jall_any (B0 G : Nat) (A1 A2 A3 : Option Addr) (c1 c2 c3 : Nat) (ts : List TermD) (ints : List Bool) (ats : List AtomD) (A : Option Addr) (n c : Nat) (lits : List Int) (k : Int) (w : World) (h : StR w B0 G A1 c1 A2 c2 A3 c3 ts ints ats)
    (hlits : IntsB w w.heap.size A n lits) (hl : ∀ l ∈ lits, LitIn ats.length l) (hn : n ≤ 1000000) :
    Calls Try.prog 44 #[.pointer (some ⟨G, 0, none⟩), .slice A n c, .int .i64 k] w fun e w' => e = .returned (.bool (allK ats k lits)) ∧ Below w.heap.size w w' := by
  have eg := enters_of Try.func60 (by kernel_rfl) rfl
  have EG := Lib.hid eg
  have hb := two_boxes w 57 3 #[.pointer (some ⟨G, 0, none⟩)] #[.int .i64 k]
  have hp : PredOn Try.prog 60 #[.pointer (some ⟨w.heap.size, 0, none⟩), .pointer (some ⟨w.heap.size + 1, 0, none⟩)] (fun l => !decide ((atomAt ats l).kind = k)) lits ((w.alloc (.cells #[.pointer (some ⟨G, 0, none⟩)] 57)).alloc (.cells #[.int .i64 k] 3)) := fun W y hy hbW => by
    have h1 := (h.later hb.1).later hbW
    have hz := hb.2.2.2
    have hzW := hbW.size
    refine (all1_any B0 G w.heap.size (w.heap.size + 1) A1 A2 A3 c1 c2 c3 ts ints ats y k W h1 (hl y hy) ?_ ?_ (by omega)).mono fun _ _ ⟨he, hb'⟩ => ⟨he, hbW.trans (hb'.mono hbW.size)⟩
    · exact (hb.2.1.below hbW (by omega)).cell 0
    · exact (hb.2.2.1.below hbW (by omega)).cell 0
  have HC := Lib.hid (fun R hR => containsInts_any 60 _ EG.out _ A n c lits R _ (hlits.below stays_int hb.1 hb.1.size) hn hp hR)
  have HR := Lib.hid (show lits.any (fun l => !decide ((atomAt ats l).kind = k)) = !(allK ats k lits) by unfold allK; rw [← List.not_all_eq_any_not])
  have HB := Lib.hid hb.1
  have hcm : n ≤ n := Nat.le_refl _
  clear h hlits hl hp hb
  go_enter Try.func44, Try.ntmps44
  go_wp2_with fail
  refine (HC.out _ HR.out).mono ?_
  rintro e w9 ⟨rfl, hb9⟩
  have HB9 := Lib.hid (HB.out.trans (hb9.mono HB.out.size))
  clear hb9
  go_wp2_with fail
  go_ret
  exact ⟨ret_bool (by simp), HB9.out⟩
end Go.Proofs.Ytdncchlfeanlmaa
