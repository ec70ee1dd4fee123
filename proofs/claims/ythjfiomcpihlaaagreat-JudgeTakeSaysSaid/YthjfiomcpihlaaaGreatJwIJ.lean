/- Walks: the reference's state in memory; an atom of it; whether all are of a kind (JudgeWhySays). · The reference's table of terms that are one: how it lies in memory; what holds of it from round to round (JudgeWhySays). No walk. -/
import Derived.Test.YthjfiomcpihlaaaGreatJwGH
import Derived.Test.YthjfiomcpihlaaaGreatJuCD
import Derived.Test.YthjfiomcpihlaaaGreatJuXY
namespace Go.Proofs.YthjfiomcpihlaaaGreat
open Go.RowKit

/-- what the reference's state leads to, in memory (to be read) -/
structure RfR (w : World) (B0 G : Nat) (A1 : Option Addr) (c1 : Nat) (A2 : Option Addr) (c2 : Nat) (A3 : Option Addr) (c3 : Nat) (ts : List TermD) (ints : List Bool) (ats : List AtomD) : Prop where
  q0 : w.cell? ⟨G, 0, none⟩ = some (.slice A1 ts.length c1)
  q1 : w.cell? ⟨G, 1, none⟩ = some (.slice A2 ints.length c2)
  q4 : w.cell? ⟨G, 4, none⟩ = some (.slice A3 ats.length c3)
  lt : G < w.heap.size
  t : ArrB AtTerm 2 w B0 A1 ts.length ts
  i : ArrB AtBool 1 w B0 A2 ints.length ints
  a : ArrB AtAtom 6 w B0 A3 ats.length ats
  l1 : ts.length ≤ c1
  l3 : ats.length ≤ 120
  hB : B0 ≤ w.heap.size
theorem RfR.later {w w' : World} {B0 G : Nat} {A1 A2 A3 : Option Addr} {c1 c2 c3 : Nat} {ts : List TermD} {ints : List Bool} {ats : List AtomD} (h : RfR w B0 G A1 c1 A2 c2 A3 c3 ts ints ats) (hb : Below w.heap.size w w') : RfR w' B0 G A1 c1 A2 c2 A3 c3 ts ints ats :=
  ⟨(hb.cell (p := ⟨G, 0, none⟩) h.lt).trans h.q0, (hb.cell (p := ⟨G, 1, none⟩) h.lt).trans h.q1, (hb.cell (p := ⟨G, 4, none⟩) h.lt).trans h.q4, Nat.lt_of_lt_of_le h.lt hb.size, h.t.below stays_term (hb.mono h.hB) (Nat.le_refl _), h.i.below stays_bool (hb.mono h.hB) (Nat.le_refl _), h.a.below stays_atom (hb.mono h.hB) (Nat.le_refl _), h.l1, h.l3, Nat.le_trans h.hB hb.size⟩

set_option maxRecDepth 100000 in
set_option maxHeartbeats 4000000 in
theorem refAtomOf_any (B0 G : Nat) (A1 A2 A3 : Option Addr) (c1 c2 c3 : Nat) (ts : List TermD) (ints : List Bool) (ats : List AtomD) (l : Int) (w : World) (h : RfR w B0 G A1 c1 A2 c2 A3 c3 ts ints ats) (hl : LitIn ats.length l) :
    Calls Tryz.prog 64 #[.pointer (some ⟨G, 0, none⟩), .int .i64 l] w (AtomP B0 (atomAt ats l) w) := by
  obtain ⟨h0, h1, h2⟩ := hl
  have hl3 := h.l3
  have hk : l.natAbs - 1 < ats.length := by omega
  obtain ⟨b, off, hx, hA, hb, hc0, hc1, hc2, A', n', c', hc3, hnc, hcm, har, hc4, hc5⟩ : ∃ (b off : Nat) (_ : l.natAbs - 1 < ats.length), A3 = some ⟨b, off, none⟩ ∧ b < B0 ∧ AtInt w (fun b => b < B0) b (off + (l.natAbs - 1) * 6) (atomAt ats l).kind ∧ AtInt w (fun b => b < B0) b (off + (l.natAbs - 1) * 6 + 1) (atomAt ats l).a ∧ AtInt w (fun b => b < B0) b (off + (l.natAbs - 1) * 6 + 2) (atomAt ats l).b ∧
      ∃ (A' : Option Addr) (n' c' : Nat), w.cell? ⟨b, off + (l.natAbs - 1) * 6 + 3, none⟩ = some (.slice A' n' c') ∧ n' ≤ c' ∧ c' ≤ maxLen ∧ IntsB w B0 A' n' (atomAt ats l).row.of_ ∧ AtInt w (fun b => b < B0) b (off + (l.natAbs - 1) * 6 + 3 + 1) (atomAt ats l).row.kind ∧ AtInt w (fun b => b < B0) b (off + (l.natAbs - 1) * 6 + 3 + 2) (atomAt ats l).row.to_ := by
    obtain ⟨b, off, hx, e, hb, g0, g1, g2, ⟨A', n', c', g3, g4, g5, g6⟩, g7, g8⟩ := Arr.get h.a hk
    have he : atomAt ats l = ats[l.natAbs - 1] := by unfold atomAt; rw [List.getD_eq_getElem?_getD, List.getElem?_eq_getElem hx]; rfl
    rw [he]
    exact ⟨b, off, hx, e, hb, g0, g1, g2, A', n', c', g3, g4, g5, g6, g7, g8⟩
  subst hA
  have q4 := h.q4
  have hG := h.lt
  have hB := h.hB
  have hbw : b < w.heap.size := by omega
  have hal : (IntKind.i64.wrap (varR l - 1)) = ((l.natAbs - 1 : Nat) : Int) := by rw [varR_small (by omega) (by omega)]; unfold absI; rw [IntWalk.i64_in _ (by split <;> omega)]; split <;> omega
  obtain ⟨j, hj⟩ : ∃ j, l.natAbs - 1 = j := ⟨_, rfl⟩
  rw [hj] at hc0 hc1 hc2 hc3 hc4 hc5 hk hal
  obtain ⟨hc0, -⟩ := hc0
  obtain ⟨hc1, -⟩ := hc1
  obtain ⟨hc2, -⟩ := hc2
  obtain ⟨hc4, -⟩ := hc4
  obtain ⟨hc5, -⟩ := hc5
  have HR := Lib.hid (And.intro har (And.intro hnc hcm))
  generalize atomAt ats l = x at hc0 hc1 hc2 hc4 hc5 HR ⊢
  have hkI : (j : Int) < (ats.length : Int) := by omega
  clear har hnc hcm h hj hx
  go_enter Tryz.func64, Tryz.ntmps64
  go_wp2_with fail
  go_region_with (go_at_call 62; refine (refVar_any l _ ⟨by omega, by omega⟩).mono ?_; rintro e w9 ⟨rfl, rfl⟩)
  all_goals
    go_wp2_with fail
    refine bodyPost_ret (v := .agg #[.int .i64 x.kind, .int .i64 x.a, .int .i64 x.b, .slice A' n' c', .int .i64 x.row.kind, .int .i64 x.row.to_]) (by simp [results, Tryz.results64, go_sem]) rfl ⟨A', n', c', rfl, HR.out.1, HR.out.2.1, HR.out.2.2, ?_⟩
    exact below_drewN ((Below.refl _ _).alloc (Nat.le_refl _) _) 1


theorem allK_cons {ats : List AtomD} {k l : Int} {r : List Int} : allK ats k (l :: r) = (decide ((atomAt ats l).kind = k) && allK ats k r) := rfl
set_option maxRecDepth 100000 in
set_option maxHeartbeats 4000000 in
theorem refKindOk_any (B0 G : Nat) (A1 A2 A3 : Option Addr) (c1 c2 c3 : Nat) (ts : List TermD) (ints : List Bool) (ats : List AtomD) (A : Option Addr) (n c : Nat) (lits : List Int) (k : Int) (w : World) (h : RfR w B0 G A1 c1 A2 c2 A3 c3 ts ints ats)
    (hlits : IntsB w w.heap.size A n lits) (hl : ∀ l ∈ lits, LitIn ats.length l) (hn : n ≤ 1000000) (hnc : n ≤ c) (R : Bool) (hR : allK ats k lits = R) :
    Calls Tryz.prog 37 #[.pointer (some ⟨G, 0, none⟩), .slice A n c, .int .i64 k] w fun e w' => e = .returned (.bool R) ∧ Below w.heap.size w w' := by
  have H := Lib.hid (And.intro h (And.intro hlits hl))
  have HR := Lib.hid hR
  have hfld : ∀ (x : AtomD) (A : Option Addr) (n c : Nat) (w : World), (Instr.field 47 (.agg #[.int .i64 x.kind, .int .i64 x.a, .int .i64 x.b, .slice A n c, .int .i64 x.row.kind, .int .i64 x.row.to_]) 0).run Tryz.prog w = .ok (.int .i64 x.kind) w := fun _ _ _ _ _ => by kernel_rfl
  clear h hlits hl hR
  go_enter Tryz.func37, Tryz.ntmps37
  go_wp2_with fail
  go_loopw [7] (fun s7 wr => ∃ i : Nat, s7 = .int .i64 (i : Int) ∧ i ≤ n ∧ Hid (allK ats k (lits.drop i) = R) ∧ Below w.heap.size w wr) (fun s7 _ => n - (intOf s7).toNat)
  case atStart => exact ⟨0, rfl, Nat.zero_le _, HR, Below.refl _ _⟩
  case round =>
    obtain ⟨i, rfl, hi, HK, hbel⟩ := hrel
    by_cases hlt : i < n
    · have hltI : (i : Int) < (n : Int) := by omega
      obtain ⟨b, off, hx, rfl, hb, hcell, hlo, hhi⟩ := ints_get (H.out.2.1.below stays_int hbel (Nat.le_refl _)) hlt
      have e1 := HK.out
      rw [drop_cons hx, allK_cons] at e1
      have hC := refAtomOf_any B0 G A1 A2 A3 c1 c2 c3 ts ints ats lits[i] wr (H.out.1.later hbel) (H.out.2.2 _ (List.getElem_mem hx))
      generalize lits[i] = y at hcell hlo hhi e1 hC
      generalize atomAt ats y = x at e1 hC
      have HC := Lib.hid hC
      have hz := hbel.size
      clear hC HK hx
      by_cases hk : x.kind = k
      · have hq : (x.kind != k) = false := by simpa using hk
        rw [decide_eq_true hk, Bool.true_and] at e1
        have HE := Lib.hid e1
        clear e1 hk
        go_wp2_with fail
        refine HC.out.mono ?_
        rintro e w9 ⟨A', n', c', rfl, -, -, -, hb9⟩
        have hbel9 := hbel.trans (hb9.mono hz)
        clear hb9
        go_wp2_with fail
        go_roundw
        case rel => exact ⟨i + 1, by go_num, by omega, HE, hbel9⟩
        case measure => simp [intOf]; omega
      · have hq : (x.kind != k) = true := by simpa using hk
        rw [decide_eq_false hk, Bool.false_and] at e1
        subst e1
        clear hk
        go_wp2_with fail
        refine HC.out.mono ?_
        rintro e w9 ⟨A', n', c', rfl, -, -, -, hb9⟩
        have hbel9 := hbel.trans (hb9.mono hz)
        clear hb9
        go_wp2_with fail
        go_ret
        exact ⟨rfl, hbel9⟩
    · obtain rfl : i = n := by omega
      have e1 := HK.out
      rw [List.drop_of_length_le (by have := H.out.2.1.len; omega)] at e1
      subst e1
      go_wp2_with fail
      go_ret
      exact ⟨rfl, hbel⟩
end Go.Proofs.YthjfiomcpihlaaaGreat
namespace Go.Proofs.YthjfiomcpihlaaaGreat
open Go.RowKit

def rowA (n : Nat) (f : Nat → Bool) : Array Value := ((List.range n).map fun j => Value.bool (f j)).toArray
theorem rowA_get {n j : Nat} (f : Nat → Bool) (h : j < n) : (rowA n f)[j]? = some (.bool (f j)) := by simp [rowA, h]
theorem rowA_set {n j : Nat} (f : Nat → Bool) : (rowA n f).setIfInBounds j (.bool true) = rowA n (fun x => if x = j then true else f x) := by
  apply Array.ext_getElem?
  intro i
  rw [Array.getElem?_setIfInBounds]
  by_cases hi : i < n
  · rw [rowA_get _ hi, rowA_get _ hi]
    by_cases e : j = i
    · subst e
      rw [if_pos rfl, if_pos (by simpa [rowA] using hi), if_pos rfl]
    · rw [if_neg e, if_neg (fun h => e h.symm)]
  · have h1 : (rowA n f)[i]? = none := by simp [rowA]; omega
    have h2 : (rowA n (fun x => if x = j then true else f x))[i]? = none := by simp [rowA]; omega
    rw [h1, h2]
    split
    · rename_i e
      subst e
      rw [if_neg (by simp [rowA]; omega)]
    · rfl
theorem rowA_made (n : Nat) : madeCells (Value.bool false).cells (n * 1) = rowA n (fun _ => false) := by
  refine Array.ext (by simp [size_madeCells, rowA]) (fun i h1 h2 => ?_)
  simp [madeCells, rowA, Value.cells, Nat.mod_one]
theorem infoBoolJ : (Tryz.prog.info? 4).map (fun i => (i.zero, i.size, i.bytes)) = some (some (.bool false), 1, 1) := by kernel_rfl
theorem make_boolsJ (n : Nat) (hn : n ≤ 1000000) (W : World) : (Instr.makeSlice 23 (.int .i64 (n : Int)) (.int .i64 (n : Int))).run Tryz.prog W = .ok (.slice (some ⟨W.heap.size, 0, none⟩) n n) (W.alloc (.cells (rowA n (fun _ => false)) 4)) := by
  obtain ⟨i0, hi, hz0, hz1, hz2⟩ := info_parts infoBoolJ
  have h := run_make (P := Tryz.prog) W 23 4 i0 (.bool false) Tryz.underlying23 hi hz0 .i64 .i64 n n (by omega) (Int.le_refl _) (by rw [hz2]; omega) (by omega)
  rw [hz1, Int.toNat_natCast, rowA_made] at h
  exact h

/-- an item that is a row of its own, told by its block -/
def VRw (n : Nat) : Val Nat := fun _ _ cs r => cs = [.slice (some ⟨r, 0, none⟩) n n]
theorem tells_rw (n : Nat) : Tells (VRw n) 1 := ⟨fun _ _ _ _ _ _ _ _ h => h, fun _ _ _ _ h => by rw [h]; rfl, fun _ _ _ _ h u hu => by rw [h] at hu; simp only [List.mem_singleton] at hu; rw [hu]; rfl⟩
theorem infoBoolsJ : (Tryz.prog.info? 23).map (fun i => (i.zero, i.size, i.bytes)) = some (some (.slice none 0 0), 1, 24) := by kernel_rfl
theorem rowTab : RowT Tryz.prog 102 23 1 24 := rowT_of Tryz.underlying102 infoBoolsJ rfl (by omega)

def upd (one : Nat → Nat → Bool) (a b : Nat) : Nat → Nat → Bool := fun x y => if x = a ∧ y = b then true else one x y
theorem upd_same (one : Nat → Nat → Bool) (a b : Nat) : upd one a b a b = true := by simp [upd]
theorem upd_iff {one : Nat → Nat → Bool} {a b x y : Nat} : upd one a b x y = true ↔ (x = a ∧ y = b) ∨ one x y = true := by
  unfold upd
  by_cases h : x = a ∧ y = b
  · simp [h]
  · simp [h]
theorem upd_mono {one : Nat → Nat → Bool} {a b x y : Nat} (h : one x y = true) : upd one a b x y = true := upd_iff.2 (.inr h)

/-- the table in memory: g holds the rows' headers, each row a block of its own -/
structure Tab (w : World) (B n g : Nat) (rbs : List Nat) (one : Nat → Nat → Bool) : Prop where
  len : rbs.length = n
  own : ∀ i r, rbs[i]? = some r → w.cell? ⟨g, i, none⟩ = some (.slice (some ⟨r, 0, none⟩) n n)
  row : ∀ i r, rbs[i]? = some r → Blk w r 4 (rowA n (one i))
  nd : rbs.Nodup
  ge : ∀ r ∈ rbs, B ≤ r ∧ r ≠ g
  hg : 0 < n → g < w.heap.size
section
variable {w w' : World} {B n g : Nat} {rbs : List Nat} {one : Nat → Nat → Bool}
theorem Tab.get (h : Tab w B n g rbs one) {a : Nat} (ha : a < n) : ∃ r, rbs[a]? = some r ∧ w.cell? ⟨g, a, none⟩ = some (.slice (some ⟨r, 0, none⟩) n n) ∧ (∀ b, b < n → w.cell? ⟨r, b, none⟩ = some (.bool (one a b))) ∧ (∀ b, w.frozen? ⟨r, b, none⟩ = false) ∧ r < w.heap.size ∧ B ≤ r := by
  have hl : a < rbs.length := by rw [h.len]; exact ha
  have hr : rbs[a]? = some rbs[a] := List.getElem?_eq_getElem hl
  exact ⟨rbs[a], hr, h.own _ _ hr, fun b hb => ((h.row _ _ hr).cell b).trans (rowA_get _ hb), fun b => (h.row _ _ hr).frozen b, (h.row _ _ hr).lt, (h.ge _ (List.getElem_mem hl)).1⟩
theorem Tab.later (h : Tab w B n g rbs one) (hb : Below w.heap.size w w') : Tab w' B n g rbs one :=
  ⟨h.len, fun i r hr => by
    have hn : 0 < n := by have := (List.getElem?_eq_some_iff.1 hr).1; have := h.len; omega
    exact (hb.cell (p := ⟨g, i, none⟩) (h.hg hn)).trans (h.own i r hr), fun i r hr => (h.row i r hr).below hb (h.row i r hr).lt, h.nd, h.ge, fun hn => Nat.lt_of_lt_of_le (h.hg hn) hb.size⟩
theorem Tab.put (h : Tab w B n g rbs one) {a b r : Nat} (hr : rbs[a]? = some r) : Tab (w.setCell ⟨r, b, none⟩ (.bool true)) B n g rbs (upd one a b) := by
  have hz : (w.setCell ⟨r, b, none⟩ (.bool true)).heap.size = w.heap.size := by simp [World.setCell]
  have hrg := (h.ge r (List.mem_of_getElem? hr)).2
  refine ⟨h.len, fun i q hq => ?_, fun i q hq => ?_, h.nd, h.ge, fun hn => by rw [hz]; exact h.hg hn⟩
  · exact (World.cell?_of_block (Below.heap_setCell w ⟨r, b, none⟩ (.bool true) g (fun e => hrg e.symm))).trans (h.own i q hq)
  · by_cases e : i = a
    · subst e
      rw [hr] at hq
      injection hq with hq
      subst hq
      have h1 := (h.row i r hr).set_ b (.bool true)
      rw [rowA_set] at h1
      have h2 : (fun x => if x = b then true else one i x) = upd one i b i := by
        funext x
        unfold upd
        by_cases e : x = b <;> simp [e]
      rw [h2] at h1
      exact h1
    · have hne : q ≠ r := fun e2 => by
        subst e2
        have h1 := List.getElem?_eq_some_iff.1 hq
        have h2 := List.getElem?_eq_some_iff.1 hr
        exact e ((List.getElem_inj h.nd).1 (h1.2.trans h2.2.symm))
      have h1 := (h.row i q hq).far (p := ⟨r, b, none⟩) hne (.bool true)
      have h2 : upd one a b i = one i := by
        funext x
        unfold upd
        rw [if_neg (fun h => e h.1)]
      rw [h2]
      exact h1
end

/-- the kids of two terms are one, by the table -/
def kidsOne (one : Nat → Nat → Bool) : List Int → List Int → Bool
  | [], _ => true
  | x :: r, y :: s => one x.toNat y.toNat && kidsOne one r s
  | _ :: _, [] => true
theorem kidsOne_iff {one : Nat → Nat → Bool} : ∀ {l m : List Int}, l.length = m.length → (kidsOne one l m = true ↔ ∀ (i : Nat) (x y : Int), l[i]? = some x → m[i]? = some y → one x.toNat y.toNat = true)
  | [], _, _ => by simp [kidsOne]
  | x :: r, [], h => by simp at h
  | x :: r, y :: s, h => by
    rw [kidsOne, Bool.and_eq_true, kidsOne_iff (by simpa using h)]
    constructor
    · rintro ⟨h1, h2⟩ i u v hu hv
      rcases i with _ | i
      · simp only [List.getElem?_cons_zero, Option.some.injEq] at hu hv
        subst hu
        subst hv
        exact h1
      · exact h2 i u v (by simpa using hu) (by simpa using hv)
    · intro h1
      exact ⟨h1 0 x y rfl rfl, fun i u v hu hv => h1 (i + 1) u v (by simpa using hu) (by simpa using hv)⟩
/-- two terms of which the reference asks whether their kids are one -/
def alikeT (t u : TermD) : Bool := decide (t.head = u.head) && decide (t.kids.length = u.kids.length)
/-- what holds of a table that is made by pairs and what follows of them -/
structure TabOk (ts : List TermD) (ps : List (Int × Int)) (n : Nat) (one : Nat → Nat → Bool) : Prop where
  refl : ∀ a, a < n → one a a = true
  sym : ∀ a b, a < n → b < n → one a b = true → one b a = true
  sound : ∀ a b, a < n → b < n → one a b = true → Cong ts ps a b
section
variable {ts : List TermD} {ps : List (Int × Int)} {n : Nat} {one : Nat → Nat → Bool}
theorem TabOk.put (h : TabOk ts ps n one) {a b : Nat} (hc : Cong ts ps a b) : TabOk ts ps n (upd (upd one a b) b a) :=
  ⟨fun x hx => upd_mono (upd_mono (h.refl x hx)), fun x y hx hy hxy => by
    rcases upd_iff.1 hxy with ⟨rfl, rfl⟩ | h1
    · exact upd_mono (upd_same _ _ _)
    · rcases upd_iff.1 h1 with ⟨rfl, rfl⟩ | h2
      · exact upd_same _ _ _
      · exact upd_mono (upd_mono (h.sym x y hx hy h2)), fun x y hx hy hxy => by
    rcases upd_iff.1 hxy with ⟨rfl, rfl⟩ | h1
    · exact hc.symm
    · rcases upd_iff.1 h1 with ⟨rfl, rfl⟩ | h2
      · exact hc
      · exact h.sound x y hx hy h2⟩
/-- nothing is to be added at a and b -/
def StillAt (ts : List TermD) (n : Nat) (one : Nat → Nat → Bool) (a b : Nat) : Prop :=
  (∀ c, c < n → one a c = true → one c b = true → one a b = true) ∧ (∀ t u, ts[a]? = some t → ts[b]? = some u → alikeT t u = true → kidsOne one t.kids u.kids = true → one a b = true)
/-- of all pairs ahead of (a, b), row by row -/
def StillTo (ts : List TermD) (n : Nat) (one : Nat → Nat → Bool) (a b : Nat) : Prop := ∀ x y, x < n → y < n → (x < a ∨ (x = a ∧ y < b)) → StillAt ts n one x y
theorem StillTo.none_ : StillTo ts n one 0 0 := fun x y _ _ h => by rcases h with h | ⟨-, h⟩ <;> omega
theorem StillTo.row {a : Nat} (h : StillTo ts n one a n) : StillTo ts n one (a + 1) 0 := fun x y hx hy hxy => h x y hx hy (by omega)
theorem StillTo.step {a b : Nat} (h : StillTo ts n one a b) (hs : StillAt ts n one a b) : StillTo ts n one a (b + 1) := fun x y hx hy hxy => by
  by_cases e : x = a ∧ y = b
  · obtain ⟨rfl, rfl⟩ := e; exact hs
  · exact h x y hx hy (by omega)
theorem StillAt.of_true {a b : Nat} (h : one a b = true) : StillAt ts n one a b := ⟨fun _ _ _ _ => h, fun _ _ _ _ _ _ => h⟩
/-- **A table to which nothing is to be added says what the least congruence says.** -/
theorem TabOk.done (h : TabOk ts ps n one) (hn : n = ts.length) (hg : GoodTs ts) (hp : ∀ x y : Int, (x, y) ∈ ps → x.toNat < n ∧ y.toNat < n ∧ one x.toNat y.toNat = true) (hs : StillTo ts n one n 0) {a b : Nat} (ha : a < n) (hb : b < n) :
    one a b = congB ts ps a b := by
  refine closed_iff hn h.refl h.sym hp (fun a b c ha hb hc h1 h2 => (hs a b ha hb (.inl ha)).1 c hc h1 h2) (fun i k t u hi hk hh hl hm => ?_) (fun t ht x hx => ?_) h.sound ha hb
  · have hi' : i < n := by rw [hn]; exact (List.getElem?_eq_some_iff.1 hi).1
    have hk' : k < n := by rw [hn]; exact (List.getElem?_eq_some_iff.1 hk).1
    exact (hs i k hi' hk' (.inl hi')).2 t u hi hk (by unfold alikeT; rw [decide_eq_true hh, decide_eq_true hl]; rfl) ((kidsOne_iff hl).2 hm)
  · obtain ⟨i, hi, e⟩ := List.getElem_of_mem ht
    have := (hg i t (by rw [List.getElem?_eq_getElem hi, e])).2 x hx
    omega
end
end Go.Proofs.YthjfiomcpihlaaaGreat
