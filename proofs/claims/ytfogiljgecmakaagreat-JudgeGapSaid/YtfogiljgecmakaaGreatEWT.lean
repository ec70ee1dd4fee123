/- judge.step at any step: what stepJ says. No walk. · Walk: judge.Why: what whyJ says. · Walk: judge.Take; the state as the laws ask for it. · Walk: umpiragelaw2.judgeSure; steps told by their cells. -/
import Derived.Test.YtfogiljgecmakaaGreatJuEX
import Derived.Test.YtfogiljgecmakaaGreatJuEY
import Derived.Test.YtfogiljgecmakaaGreatJuF5
import Derived.Test.YtfogiljgecmakaaGreatJuEP
import Derived.Test.YtfogiljgecmakaaGreatJuCF
import Derived.Test.YtfogiljgecmakaaGreatJuKL
import Derived.Test.YtfogiljgecmakaaGreatForm
import Derived.Test.YtfogiljgecmakaaGreatOuO
namespace Go.Proofs.YtfogiljgecmakaaGreat
open Go.RowKit

/-- a step in memory: its nine values, all that they lead to below B -/
structure StepIn (w : World) (B : Nat) (v : Value) (x : StepD) : Prop where
  vals : ∃ (L : Option Addr) (nl cl : Nat) (M : Option Addr) (nm cm : Nat) (O : Option Addr) (no co : Nat),
    v = .agg #[.int .i64 x.kind, .slice L nl cl, .slice M nm cm, .int .i64 x.atom.kind, .int .i64 x.atom.a, .int .i64 x.atom.b, .slice O no co, .int .i64 x.atom.row.kind, .int .i64 x.atom.row.to_] ∧
    IntsB w B L nl x.lits ∧ nl ≤ cl ∧ cl ≤ maxLen ∧ ArrB AtFrac 2 w B M nm x.nums ∧ IntsB w B O no x.atom.row.of_ ∧ no ≤ co ∧ co ≤ maxLen
  i64 : I64 x.atom.kind ∧ I64 x.atom.a ∧ I64 x.atom.b ∧ I64 x.atom.row.kind ∧ I64 x.atom.row.to_
theorem StepIn.below {w w' : World} {B : Nat} {v : Value} {x : StepD} (h : StepIn w B v x) (hb : Below B w w') : StepIn w' B v x := by
  obtain ⟨⟨L, nl, cl, M, nm, cm, O, no, co, e, h1, h2, h3, h4, h5, h6, h7⟩, hi⟩ := h
  exact ⟨⟨L, nl, cl, M, nm, cm, O, no, co, e, h1.below stays_int hb (Nat.le_refl _), h2, h3, h4.below stays_frac hb (Nat.le_refl _), h5.below stays_int hb (Nat.le_refl _), h6, h7⟩, hi⟩

theorem StepIn.mono {w : World} {B B' : Nat} {v : Value} {x : StepD} (h : StepIn w B v x) (hB : B ≤ B') : StepIn w B' v x := by
  obtain ⟨⟨L, nl, cl, M, nm, cm, O, no, co, e, h1, h2, h3, h4, h5, h6, h7⟩, hi⟩ := h
  have hk : ∀ b, b < B → b < B' := fun b hb => Nat.lt_of_lt_of_le hb hB
  exact ⟨⟨L, nl, cl, M, nm, cm, O, no, co, e, h1.keep stays_int hk (fun _ _ _ => rfl), h2, h3, h4.keep stays_frac hk (fun _ _ _ => rfl), h5.keep stays_int hk (fun _ _ _ => rfl), h6, h7⟩, hi⟩
/-- what a step comes to -/
def StepP (B G : Nat) (A1 : Option Addr) (c1 : Nat) (A2 : Option Addr) (c2 : Nat) (vF : Value) (ts : List TermD) (ints : List Bool) (s : JSt) (x : StepD) (w : World) (e : Ending) (w' : World) : Prop :=
  Below B w w' ∧ ((stepJ ts ints s x = none ∧ e = .returned (.bool false)) ∨ ∃ s' vA' vC', stepJ ts ints s x = some s' ∧ e = .returned (.bool true) ∧ JudgeM w' B G A1 c1 A2 c2 vF vA' vC' ts ints s')
theorem stepP_of {B G : Nat} {A1 : Option Addr} {c1 : Nat} {A2 : Option Addr} {c2 : Nat} {vF : Value} {ts : List TermD} {ints : List Bool} {s s' : JSt} {x : StepD} {w : World} {R : Bool} (hs : stepJ ts ints s x = if R = true then some s' else none) {e : Ending} {w' : World}
    (h : e = .returned (.bool R) ∧ Below B w w' ∧ (R = true → ∃ vA' vC', JudgeM w' B G A1 c1 A2 c2 vF vA' vC' ts ints s')) : StepP B G A1 c1 A2 c2 vF ts ints s x w e w' := by
  obtain ⟨he, hb, hk⟩ := h
  refine ⟨hb, ?_⟩
  cases R with
  | false => exact .inl ⟨by rw [hs]; rfl, he⟩
  | true =>
    obtain ⟨vA', vC', hj⟩ := hk rfl
    exact .inr ⟨s', vA', vC', by rw [hs]; rfl, he, hj⟩

theorem step_any (B G : Nat) (A1 : Option Addr) (c1 : Nat) (A2 : Option Addr) (c2 : Nat) (vF vA vC : Value) (ts : List TermD) (ints : List Bool) (s : JSt) (m : Nat) (v : Value) (x : StepD) (w : World)
    (h : JudgeM w B G A1 c1 A2 c2 vF vA vC ts ints s) (hi : JInv ts ints s m) (hm : m ≤ 4000) (hx : StepIn w B v x) (hVF : ∃ A5 n5 c5, vF = .slice A5 n5 c5) :
    Calls Tryz.prog 45 #[.pointer (some ⟨G, 0, none⟩), v] w (StepP B G A1 c1 A2 c2 vF ts ints s x w) := by
  obtain ⟨kd, lits, nums, ⟨ak, aa, ab, ⟨of_, rk, rt⟩⟩⟩ := x
  obtain ⟨⟨L, nl, cl, M, nm, cm, O, no, co, rfl, h1, h2, h3, h4, h5, h6, h7⟩, hI⟩ := hx
  dsimp only at h1 h4 h5 hI ⊢
  have hBw := h.hBw
  have hnl := h1.len
  have hnm := h4.len
  have hno := h5.len
  have hmax : nl ≤ 9223372036854775807 := by unfold maxLen at h3; omega
  have hcn : s.cls.length ≤ 100000 := Nat.le_trans hi.lc (by omega)
  by_cases hf : formedF s.atoms.length ⟨kd, lits, nums, ⟨ak, aa, ab, ⟨of_, rk, rt⟩⟩⟩ = false
  · refine (stepU_any B G A1 c1 A2 c2 vF vA vC ts ints s kd L nl cl lits M nm cm nums ak aa ab O no co of_ rk rt w h h1 hmax h2 h3 hnm hno hcn hf).mono ?_
    rintro e w' ⟨rfl, hb⟩
    exact ⟨hb.mono hBw, .inl ⟨stepJ_not hf, rfl⟩⟩
  · have hf : formedF s.atoms.length ⟨kd, lits, nums, ⟨ak, aa, ab, ⟨of_, rk, rt⟩⟩⟩ = true := by simpa using hf
    have hg := formed_good hf
    have hlen := hg.len
    dsimp only at hg hlen
    have hla := hi.la
    have hn1 : nl ≤ 1000 := by omega
    have hk : 1 ≤ kd ∧ kd ≤ 6 := by
      have := hf
      unfold formedF at this
      simp only [Bool.and_eq_true, decide_eq_true_eq] at this
      omega
    rcases (by omega : kd = 1 ∨ kd = 2 ∨ kd = 3 ∨ kd = 4 ∨ kd = 5 ∨ kd = 6) with rfl | rfl | rfl | rfl | rfl | rfl
    · refine (stepK1_any B G A1 c1 A2 c2 vF vA vC ts ints s L nl cl lits M nm cm nums ak aa ab O no co of_ rk rt w h h1 hn1 h2 h3 hnm hno hcn hf (clashB s.cls (lits.map fun l => -l)) (fun W A3 c3 hC hL => falls_any A3 s.cls.length c3 s.cls L nl cl lits W hC (by omega) hi.clean hi.tame (hi.flat hm) hL hn1 (fun x hx => by obtain ⟨_, _, _⟩ := hg.1 x hx; omega))).mono ?_
      rintro e w' ⟨rfl, hb, hk⟩
      exact stepP_of (stepJ_test hf (by simp) (by simp) (if_pos rfl)) ⟨rfl, hb, fun e => by obtain ⟨vC', hj⟩ := hk e; exact ⟨_, _, hj⟩⟩
    · refine (stepK2_any B G A1 c1 A2 c2 vF vA vC ts ints s L nl cl lits M nm cm nums ak aa ab O no co of_ rk rt w h h1 hn1 h2 h3 hnm hno hcn hf (fun c hc => by have := (hi.gc c hc).len; omega)).mono ?_
      rintro e w' ⟨rfl, hb, hk⟩
      exact stepP_of (stepJ_drop hf rfl) ⟨rfl, hb, fun e => by obtain ⟨vC', hj⟩ := hk e; exact ⟨_, _, hj⟩⟩
    · refine (stepK3_any B G A1 c1 A2 c2 vF vA vC ts ints s L nl cl lits M nm cm nums ak aa ab O no co of_ rk rt w h h1 hn1 h2 h3 hnm hno hcn hf (sameF ts s.atoms lits) (fun W A3 c3 hS hL => jsame_any W.heap.size G A1 A2 A3 c1 c2 c3 ts ints s.atoms L nl cl lits W hS hL hg.1 hn1 hi.gt hi.gs (by have := hi.lt; omega))).mono ?_
      rintro e w' ⟨rfl, hb, hk⟩
      exact stepP_of (stepJ_test hf (by simp) (by simp) (by rw [if_neg (by simp), if_pos rfl])) ⟨rfl, hb, fun e => by obtain ⟨vC', hj⟩ := hk e; exact ⟨_, _, hj⟩⟩
    · refine (stepK4_any B G A1 c1 A2 c2 vF vA vC ts ints s L nl cl lits M nm cm nums ak aa ab O no co of_ rk rt w h h1 h4 hn1 h2 h3 hnm hno hcn hf (rowsF ints.length s.atoms lits nums) (fun W A3 c3 hS hL hN => jrows_any W.heap.size G A1 A2 A3 c1 c2 c3 ts ints s.atoms 4 L nl cl lits M nm cm nums ak aa ab O no co rk rt W hS hL hg.1 hn1 hN hi.gr (by have := hi.li; omega))).mono ?_
      rintro e w' ⟨rfl, hb, hk⟩
      exact stepP_of (stepJ_test hf (by simp) (by simp) (by rw [if_neg (by simp), if_neg (by simp), if_pos rfl])) ⟨rfl, hb, fun e => by obtain ⟨vC', hj⟩ := hk e; exact ⟨_, _, hj⟩⟩
    · refine (stepK5_any B G A1 c1 A2 c2 vF vA vC ts ints s L nl cl lits M nm cm nums ak aa ab O no co of_ rk rt w h h1 hn1 h2 hnm h5 h6 h7 hVF hI hi.li hf _ rfl).mono ?_
      rintro e w' ⟨rfl, hb, hk⟩
      exact stepP_of (stepJ_atom hf rfl) ⟨rfl, hb, fun e => by obtain ⟨vA', hj⟩ := hk e; exact ⟨_, _, hj⟩⟩
    · refine (stepK6_any B G A1 c1 A2 c2 vF vA vC ts ints s L nl cl lits M nm cm nums ak aa ab O no co of_ rk rt w h h1 hn1 h2 h3 hnm hno hcn hf (gapF ints s.atoms lits) (fun W A3 c3 hS hL => jgap_any W.heap.size G A1 A2 A3 c1 c2 c3 ts ints s.atoms L nl cl lits W hS hL hg.1 hn1 hi.gr (by have := hi.li; omega))).mono ?_
      rintro e w' ⟨rfl, hb, hk⟩
      exact stepP_of (stepJ_test hf (by simp) (by simp) (by rw [if_neg (by simp), if_neg (by simp), if_neg (by simp)])) ⟨rfl, hb, fun e => by obtain ⟨vC', hj⟩ := hk e; exact ⟨_, _, hj⟩⟩
end Go.Proofs.YtfogiljgecmakaaGreat
namespace Go.Proofs.YtfogiljgecmakaaGreat
open Go.RowKit

def AtStep : Ent StepD := fun w S b o x => AtInt w S b o x.kind ∧ AtArr AtInt 1 w S b (o + 1) x.lits ∧ AtArr AtFrac 2 w S b (o + 2) x.nums ∧ AtAtom w S b (o + 3) x.atom
theorem stays_step : Stays AtStep := fun _ _ _ _ _ _ _ hS hk hb h => ⟨stays_int _ _ _ _ _ _ _ hS hk hb h.1, stays_arr stays_int _ _ _ _ _ _ _ hS hk hb h.2.1, stays_arr stays_frac _ _ _ _ _ _ _ hS hk hb h.2.2.1, stays_atom _ _ _ _ _ _ _ hS hk hb h.2.2.2⟩
theorem steps_get {w : World} {B : Nat} {A : Option Addr} {n : Nat} {xs : List StepD} (h : ArrB AtStep 9 w B A n xs) {i : Nat} (hi : i < n) :
    ∃ (b off : Nat) (hx : i < xs.length) (L : Option Addr) (nl cl : Nat) (M : Option Addr) (nm cm : Nat) (O : Option Addr) (no co : Nat), A = some ⟨b, off, none⟩ ∧ b < B ∧ w.cell? ⟨b, off + i * 9, none⟩ = some (.int .i64 xs[i].kind) ∧ w.cell? ⟨b, off + i * 9 + 1, none⟩ = some (.slice L nl cl) ∧ w.cell? ⟨b, off + i * 9 + 2, none⟩ = some (.slice M nm cm) ∧
      w.cell? ⟨b, off + i * 9 + 3, none⟩ = some (.int .i64 xs[i].atom.kind) ∧ w.cell? ⟨b, off + i * 9 + 4, none⟩ = some (.int .i64 xs[i].atom.a) ∧ w.cell? ⟨b, off + i * 9 + 5, none⟩ = some (.int .i64 xs[i].atom.b) ∧
      w.cell? ⟨b, off + i * 9 + 6, none⟩ = some (.slice O no co) ∧ w.cell? ⟨b, off + i * 9 + 7, none⟩ = some (.int .i64 xs[i].atom.row.kind) ∧ w.cell? ⟨b, off + i * 9 + 8, none⟩ = some (.int .i64 xs[i].atom.row.to_) ∧
      StepIn w B (.agg #[.int .i64 xs[i].kind, .slice L nl cl, .slice M nm cm, .int .i64 xs[i].atom.kind, .int .i64 xs[i].atom.a, .int .i64 xs[i].atom.b, .slice O no co, .int .i64 xs[i].atom.row.kind, .int .i64 xs[i].atom.row.to_]) xs[i] := by
  obtain ⟨b, off, hx, e, hb, ⟨k1, i1⟩, ⟨L, nl, cl, k2, h21, h22, h23⟩, ⟨M, nm, cm, k3, h31, h32, h33⟩, ⟨k4, i4⟩, ⟨k5, i5⟩, ⟨k6, i6⟩, ⟨O, no, co, k7, h71, h72, h73⟩, ⟨k8, i8⟩, k9, i9⟩ := Arr.get h hi
  exact ⟨b, off, hx, L, nl, cl, M, nm, cm, O, no, co, e, hb, k1, k2, k3, k4, k5, k6, k7, k8, k9, ⟨⟨L, nl, cl, M, nm, cm, O, no, co, rfl, h23, h21, h22, h33, h73, h71, h72⟩, i4, i5, i6, i8, i9⟩⟩

theorem below_drawn {B : Nat} {a w : World} (h : Below B a w) : Below B a w.drew := ⟨h.os, h.tape, h.output, h.size, h.block⟩
theorem why1_any (A : Option Addr) (n c : Nat) (w : World) :
    Calls Tryz.prog 46 #[.slice A n c] w fun e w' => e = .returned (.bool (decide (n = 0))) ∧ w' = w := by
  go_enter Tryz.func46, Tryz.ntmps46
  go_wp2
  go_ret
  refine ⟨ret_bool ?_, rfl⟩
  rw [Bool.eq_iff_iff]
  simp

theorem judgeM_new {w2 : World} {B : Nat} {A1 A2 A3 A4 A5 : Option Addr} {n1 c1 n2 c2 n3 c3 n4 c4 m c5 : Nat} {F : FormD} (hF : FormB w2 B A1 A2 A3 A4 n1 n2 n3 n4 F) (hc1 : n1 ≤ c1) (hc3 : n3 ≤ c3) (hc3m : c3 ≤ maxLen) (hl3 : F.atoms.length ≤ 120) (hB : B ≤ w2.heap.size)
    (hown : OwnV (VArr AtInt 1) 28 1 w2 B (fun b => b < B) (.slice A5 m c5) F.clauses) :
    JudgeM (w2.alloc (.cells #[.slice A1 n1 c1, .slice A2 n2 c2, .slice A3 n3 c3, .slice A4 n4 c4, .slice A5 m c5] 89)) B w2.heap.size A1 c1 A2 c2 (.slice A4 n4 c4) (.slice A3 n3 c3) (.slice A5 m c5) F.terms F.ints ⟨F.atoms, F.clauses⟩ := by
  have h1 := hF.terms.len
  have h2 := hF.ints.len
  have h3 := hF.atoms.len
  subst h1 h2 h3
  have hb : Below w2.heap.size w2 (w2.alloc (.cells #[.slice A1 F.terms.length c1, .slice A2 F.ints.length c2, .slice A3 F.atoms.length c3, .slice A4 n4 c4, .slice A5 m c5] 89)) := (Below.refl _ _).alloc (Nat.le_refl _) _
  have ht := hF.terms.below stays_term (hb.mono hB) (Nat.le_refl _)
  have hi := hF.ints.below stays_bool (hb.mono hB) (Nat.le_refl _)
  have ha := hF.atoms.below stays_atom (hb.mono hB) (Nat.le_refl _)
  exact ⟨Blk.new _ _ _, ht, hi, hc1, hB, .inl ⟨A3, c3, rfl, hc3, hc3m, ha⟩, hl3, hown.kept (tells_arr stays_int) (only_of_below hb none) (by cases A5 <;> simp [Value.ownBlock]) (fun b hb' => ⟨hb', by omega, by simp⟩), fun e => by have := (hown.lt _ e).2; omega⟩

set_option maxRecDepth 100000 in
set_option maxHeartbeats 8000000 in
theorem why_any (A1 A2 A3 A4 : Option Addr) (n1 c1 n2 c2 n3 c3 n4 c4 : Nat) (F : FormD) (A : Option Addr) (n c : Nat) (l : List StepD) (q qc qa : Int) (w : World) (hF : FormB w w.heap.size A1 A2 A3 A4 n1 n2 n3 n4 F) (hc1 : n1 ≤ c1) (hc3 : n3 ≤ c3) (hc3m : c3 ≤ maxLen)
    (hl : ArrB AtStep 9 w w.heap.size A n l) (hR : whyJ F l = (q, qc, qa)) :
    Calls Tryz.prog 25 #[.agg #[.slice A1 n1 c1, .slice A2 n2 c2, .slice A3 n3 c3, .slice A4 n4 c4], .slice A n c] w fun e w' => e = .returned (.tuple #[.int .i64 q, .agg #[.int .i64 qc, .int .i64 qa]]) ∧ Below w.heap.size w w' := by
  have hlen := hl.len
  rcases hf : formF F with ⟨fc, fa⟩
  obtain ⟨hb0, hbk0, hbf0, hs0⟩ := two_boxes w 27 33 #[.slice A1 n1 c1, .slice A2 n2 c2, .slice A3 n3 c3, .slice A4 n4 c4] #[.int .i64 0, .int .i64 0]
  have HC := Lib.hid (fun W (hbW : Below w.heap.size w W) => formCheck_any A1 A2 A3 A4 n1 c1 n2 c2 n3 c3 n4 c4 F fc fa W (hF.below hbW hbW.size) hf)
  have hR1 : ¬ fc = 0 → q = 0 ∧ qc = fc ∧ qa = fa := fun h => by rw [whyJ, hf, if_pos h] at hR; simp only [Prod.mk.injEq] at hR; exact ⟨hR.1.symm, hR.2.1.symm, hR.2.2.symm⟩
  have hR2 : fc = 0 → 3000 < n → q = 0 ∧ qc = 2 ∧ qa = -1 := fun h h2 => by rw [whyJ, hf, if_neg (by simp [h]), hlen, if_pos h2] at hR; simp only [Prod.mk.injEq] at hR; exact ⟨hR.1.symm, hR.2.1.symm, hR.2.2.symm⟩
  have hR3 : fc = 0 → ¬ 3000 < n → runJ F.terms F.ints ⟨F.atoms, F.clauses⟩ l 0 = q ∧ qc = 0 ∧ qa = 0 := fun h h2 => by rw [whyJ, hf, if_neg (by simp [h]), hlen, if_neg h2] at hR; simp only [Prod.mk.injEq] at hR; exact ⟨hR.1, hR.2.1.symm, hR.2.2.symm⟩
  have H1 := Lib.hid hR1
  have H2 := Lib.hid hR2
  have H3 := Lib.hid hR3
  have HF := Lib.hid (And.intro hF (And.intro hc1 (And.intro hc3 (And.intro hc3m (And.intro hl hf)))))
  have HW := Lib.hid (And.intro hb0 (And.intro hbk0 (And.intro hbf0 hs0)))
  clear hR hR1 hR2 hR3 hF hl hb0 hbk0 hbf0 hs0 hf hlen
  go_enter Tryz.func25, Tryz.ntmps25
  go_wp2_with fail
  refine (HC.out _ HW.out.1).mono ?_
  rintro e w1 ⟨rfl, hb1⟩
  have hz1 := hb1.size
  have hz0 := HW.out.2.2.2
  rw [hz0] at hz1
  have hbw1 : Below w.heap.size w w1 := HW.out.1.trans (hb1.mono (by rw [hz0]; omega))
  have k1 : Blk w1 w.heap.size 27 #[.slice A1 n1 c1, .slice A2 n2 c2, .slice A3 n3 c3, .slice A4 n4 c4] := HW.out.2.1.below hb1 (by rw [hz0]; omega)
  have k2 : Blk w1 (w.heap.size + 1) 33 #[.int .i64 0, .int .i64 0] := HW.out.2.2.1.below hb1 (by rw [hz0]; omega)
  have HB1 := Lib.hid (And.intro hbw1 (And.intro k1 k2))
  have f0 : w1.cell? ⟨w.heap.size + 1, 0, none⟩ = some (.int .i64 0) := k2.cell 0
  have f1 : w1.cell? ⟨w.heap.size + 1, 1, none⟩ = some (.int .i64 0) := k2.cell 1
  have f2 : w1.frozen? ⟨w.heap.size + 1, 0, none⟩ = false := k2.frozen 0
  have f3 : w1.frozen? ⟨w.heap.size + 1, 1, none⟩ = false := k2.frozen 1
  have e0 : w1.cell? ⟨w.heap.size, 0, none⟩ = some (.slice A1 n1 c1) := k1.cell 0
  have e1 : w1.cell? ⟨w.heap.size, 1, none⟩ = some (.slice A2 n2 c2) := k1.cell 1
  have e2 : w1.cell? ⟨w.heap.size, 2, none⟩ = some (.slice A3 n3 c3) := k1.cell 2
  have e3 : w1.cell? ⟨w.heap.size, 3, none⟩ = some (.slice A4 n4 c4) := k1.cell 3
  have z1 : w.heap.size + 1 < w1.heap.size := k2.lt
  have z0 : w.heap.size < w1.heap.size := k1.lt
  clear hb1 hbw1 k1 k2 hz0
  by_cases hfc : fc = 0
  · subst hfc
    by_cases hmany : 3000 < n
    · obtain ⟨rfl, rfl, rfl⟩ := H2.out rfl hmany
      have hmI : (3000 : Int) < (n : Int) := by omega
      go_wp2_with fail
      refine bodyPost_ret (v := .tuple #[.int .i64 0, .agg #[.int .i64 2, .int .i64 (-1)]]) (by simp [results, Tryz.results25, go_sem, f0, f1, z1]) rfl ⟨rfl, ?_⟩
      exact ((HB1.out.1.setCell (p := ⟨w.heap.size + 1, 0, none⟩) (by simp) _).setCell (p := ⟨w.heap.size + 1, 1, none⟩) (by simp) _).alloc (by simp; omega) _
    · have hmI : ¬ (3000 : Int) < (n : Int) := by omega
      obtain ⟨hrun, rfl, rfl⟩ := H3.out rfl hmany
      have hinv : JInv F.terms F.ints ⟨F.atoms, F.clauses⟩ 400 := JInv.of_form (by rw [HF.out.2.2.2.2.2])
      have hn4 := HF.out.1.clauses.len
      have hc4 : n4 ≤ 400 := by have := hinv.lc; dsimp only at this; omega
      have HCL := Lib.hid (fun W (hbW : Below w.heap.size w W) => cloneCls_any A4 n4 c4 F.clauses W (HF.out.1.clauses.below (stays_arr stays_int) hbW hbW.size) (by omega))
      have HI := Lib.hid (And.intro hinv hrun)
      clear hinv hrun hn4
      go_upto_region 6 with fail
      have HX := Lib.hid (HCL.out (w1.alloc (.cells #[.int .i64 0, .int .i64 fa] 33)).drew (below_drawn (HB1.out.1.alloc (Nat.le_of_lt z0) _)))
      go_region_law (first
        | (go_simp
           go_at_call 44
           refine HX.out.mono ?_
           rintro e w2 ⟨vC, rfl, hown, hb2⟩
           have g0 : w2.cell? ⟨w.heap.size, 0, none⟩ = some (.slice A1 n1 c1) := (hb2.cell (p := ⟨w.heap.size, 0, none⟩) (by simp; omega)).trans ((HB1.out.2.1.alloc _).cell 0)
           have g1 : w2.cell? ⟨w.heap.size, 1, none⟩ = some (.slice A2 n2 c2) := (hb2.cell (p := ⟨w.heap.size, 1, none⟩) (by simp; omega)).trans ((HB1.out.2.1.alloc _).cell 1)
           have g2 : w2.cell? ⟨w.heap.size, 2, none⟩ = some (.slice A3 n3 c3) := (hb2.cell (p := ⟨w.heap.size, 2, none⟩) (by simp; omega)).trans ((HB1.out.2.1.alloc _).cell 2)
           have g3 : w2.cell? ⟨w.heap.size, 3, none⟩ = some (.slice A4 n4 c4) := (hb2.cell (p := ⟨w.heap.size, 3, none⟩) (by simp; omega)).trans ((HB1.out.2.1.alloc _).cell 3)
           obtain ⟨A5, c5, rfl, -, -⟩ := hown.len
           have HO := Lib.hid (And.intro hown hb2)
           clear hown hb2)
        | fail)
      all_goals
        have hsz : ((w1.alloc (.cells #[.int .i64 0, .int .i64 fa] 33)).drew).heap.size = w1.heap.size + 1 := by simp
        obtain ⟨hown, hb2⟩ := HO.out
        rw [hsz] at hown hb2
        have hz2 : w1.heap.size + 1 ≤ w2.heap.size := by have := hb2.size; rw [hsz] at this; exact this
        have hb1w : Below w.heap.size w ((w1.alloc (.cells #[.int .i64 0, .int .i64 fa] 33)).drew) := below_drawn (HB1.out.1.alloc (Nat.le_of_lt z0) _)
        have hbw2 : Below w.heap.size w w2 := hb1w.trans (hb2.mono (by omega))
        have hJ := judgeM_new (F := F) (c2 := c2) (c4 := c4) (B := w1.heap.size + 1) ((HF.out.1.below hbw2 (Nat.le_refl _)).below (Below.refl _ _) (by omega)) hc1 hc3 hc3m (by have := HI.out.1.la; exact this) hz2 hown
        have k2 : Blk w2 (w.heap.size + 1) 33 #[.int .i64 0, .int .i64 0] := ((HB1.out.2.2.alloc _).drew).below hb2 (by omega)
        obtain ⟨X2, hX2⟩ : ∃ X, w2.alloc (.cells #[.slice A1 n1 c1, .slice A2 n2 c2, .slice A3 n3 c3, .slice A4 n4 c4, .slice A5 F.clauses.length c5] 89) = X := ⟨_, rfl⟩
        have hbX : Below w2.heap.size w2 X2 := by rw [← hX2]; exact (Below.refl _ _).alloc (Nat.le_refl _) _
        rw [hX2] at hJ
        have HJ := Lib.hid (And.intro hJ (And.intro (hbw2.trans (hbX.mono hbw2.size)) (k2.below hbX (by omega))))
        have HXX := Lib.hid hX2
        have zG : w1.heap.size + 1 ≤ w2.heap.size := hz2
        clear hsz hown hb2 hz2 hb1w hbw2 hJ k2 hbX hX2 HO HX HCL HW H1 H2 H3 HB1 f0 f1 f2 f3 e0 e1 e2 e3 g0 g1 g2 g3 hmI HC
        go_upto_region 7 with fail
        rw [HXX.out]
        clear HXX
        go_wp2_with fail
        go_loopw [28] (fun s wr => ∃ (k : Nat) (s' : JSt) (vA vC : Value), s = .int .i64 k ∧ k ≤ n ∧ Hid (JudgeM wr (w1.heap.size + 1) w2.heap.size A1 c1 A2 c2 (.slice A4 n4 c4) vA vC F.terms F.ints s' ∧ JInv F.terms F.ints s' (400 + k) ∧ runJ F.terms F.ints s' (l.drop k) k = q ∧ Below w.heap.size w wr ∧ Blk wr (w.heap.size + 1) 33 #[.int .i64 0, .int .i64 0])) (fun s _ => n - (intOf s).toNat)
        case atStart => exact ⟨0, _, _, _, rfl, Nat.zero_le _, HJ.out.1, HI.out.1, HI.out.2, HJ.out.2.1, HJ.out.2.2⟩
        case round =>
          obtain ⟨k, s', vA, vC, rfl, hk, HR⟩ := hrel
          have hG := HR.out.1.blk.lt
          have zf : w.heap.size + 1 < wr.heap.size := HR.out.2.2.2.2.lt
          by_cases hlt : k < n
          · have hltI : (k : Int) < (n : Int) := by omega
            obtain ⟨b, off, hx, L, nl, cl, M, nm, cm, O, no, co, rfl, hb, q0, q1, q2, q3, q4, q5, q6, q7, q8, hin⟩ := steps_get (HF.out.2.2.2.2.1.below stays_step HR.out.2.2.2.1 (Nat.le_refl _)) hlt
            have hrun := HR.out.2.2.1
            rw [drop_cons hx] at hrun
            generalize l[k] = x at hrun q0 q1 q2 q3 q4 q5 q6 q7 q8 hin
            have hbs : b < wr.heap.size := by omega
            have HS := Lib.hid (fun (W : World) (hbW : Below wr.heap.size wr W) => step_any (w1.heap.size + 1) w2.heap.size A1 c1 A2 c2 (.slice A4 n4 c4) vA vC F.terms F.ints s' (400 + k) _ x W (HR.out.1.later hbW) HR.out.2.1 (by omega) ((hin.below (hbW.mono (by omega))).mono (by omega)) ⟨_, _, _, rfl⟩)
            have HRUN := Lib.hid hrun
            clear hrun hin
            go_wp2_with fail
            refine (HS.out _ ((Below.refl _ _).alloc (Nat.le_refl _) _)).mono ?_
            rintro e w' ⟨hb', hcase⟩
            have hbb : Below wr.heap.size wr (wr.alloc (.cells #[.int .i64 x.kind, .slice L nl cl, .slice M nm cm, .int .i64 x.atom.kind, .int .i64 x.atom.a, .int .i64 x.atom.b, .slice O no co, .int .i64 x.atom.row.kind, .int .i64 x.atom.row.to_] 49)) := (Below.refl _ _).alloc (Nat.le_refl _) _
            have hbw' : Below w.heap.size w w' := HR.out.2.2.2.1.trans ((hbb.mono (by omega)).trans (hb'.mono (by omega)))
            have hkf : Blk w' (w.heap.size + 1) 33 #[.int .i64 0, .int .i64 0] := ((hb'.block _ (by omega)).trans (HR.out.2.2.2.2.below hbb zf))
            have f0 : w'.cell? ⟨w.heap.size + 1, 0, none⟩ = some (.int .i64 0) := hkf.cell 0
            have f1 : w'.cell? ⟨w.heap.size + 1, 1, none⟩ = some (.int .i64 0) := hkf.cell 1
            have f2 : w'.frozen? ⟨w.heap.size + 1, 0, none⟩ = false := hkf.frozen 0
            have f3 : w'.frozen? ⟨w.heap.size + 1, 1, none⟩ = false := hkf.frozen 1
            have zf' : w.heap.size + 1 < w'.heap.size := hkf.lt
            have HK := Lib.hid (And.intro hbw' hkf)
            clear hb' hbw' hkf hbb
            rcases hcase with ⟨hn, rfl⟩ | ⟨s2, vA2, vC2, hs2, rfl, hj2⟩
            · have hq : q = k := by have := HRUN.out; rw [runJ, hn] at this; exact this.symm
              clear hn
              go_wp2_with fail
              refine bodyPost_ret (v := .tuple #[.int .i64 k, .agg #[.int .i64 0, .int .i64 0]]) (by simp [results, Tryz.results25, go_sem, f0, f1]) rfl ⟨by rw [hq], ?_⟩
              exact (HK.out.1.setCell (p := ⟨w.heap.size + 1, 0, none⟩) (by simp) _).setCell (p := ⟨w.heap.size + 1, 1, none⟩) (by simp) _
            · have hnext : Hid (JudgeM w' (w1.heap.size + 1) w2.heap.size A1 c1 A2 c2 (.slice A4 n4 c4) vA2 vC2 F.terms F.ints s2 ∧ JInv F.terms F.ints s2 (400 + (k + 1)) ∧ runJ F.terms F.ints s2 (l.drop (k + 1)) ((k + 1 : Nat) : Int) = q ∧ Below w.heap.size w w' ∧ Blk w' (w.heap.size + 1) 33 #[.int .i64 0, .int .i64 0]) :=
                ⟨hj2, HR.out.2.1.step hs2, by have := HRUN.out; rw [runJ, hs2] at this; rw [Int.natCast_add]; exact this, HK.out⟩
              clear hj2 hs2 f0 f1 f2 f3
              go_wp2_with fail
              go_roundw
              case rel => exact ⟨k + 1, s2, vA2, vC2, by go_num, by omega, hnext⟩
              case measure => simp [intOf]; omega
          · obtain rfl : k = n := by omega
            have hrun := HR.out.2.2.1
            rw [List.drop_of_length_le (by have := HF.out.2.2.2.2.1.len; omega), runJ] at hrun
            obtain ⟨A6, c6, hvC, hc6, hc6m, har⟩ := HR.out.1.clauses
            have q4 : wr.cell? ⟨w2.heap.size, 4, none⟩ = some (.slice A6 s'.cls.length c6) := by rw [← hvC]; exact HR.out.1.blk.cell 4
            have eg := enters_of Tryz.func46 (by kernel_rfl) rfl
            have HCT := Lib.hid (containsCls_any 46 #[] eg (fun c => decide (c.length = 0)) A6 s'.cls.length c6 s'.cls _ wr har (by have := HR.out.2.1.lc; omega) (fun W A n c x _ hb hxs _ => (why1_any A n c W).mono fun _ _ ⟨h1, h2⟩ => ⟨by rw [h1, ← hxs.len], by rw [h2]; exact hb⟩) rfl)
            clear hvC hc6 hc6m har eg
            generalize (s'.cls.any fun c => decide (c.length = 0)) = r at hrun HCT
            have HRUN := Lib.hid hrun
            clear hrun
            go_wp2_with fail
            refine HCT.out.mono ?_
            rintro e w' ⟨rfl, hb'⟩
            have hbw' : Below w.heap.size w w' := HR.out.2.2.2.1.trans (hb'.mono (by omega))
            have hkf : Blk w' (w.heap.size + 1) 33 #[.int .i64 0, .int .i64 0] := HR.out.2.2.2.2.below hb' zf
            have f0 : w'.cell? ⟨w.heap.size + 1, 0, none⟩ = some (.int .i64 0) := hkf.cell 0
            have f1 : w'.cell? ⟨w.heap.size + 1, 1, none⟩ = some (.int .i64 0) := hkf.cell 1
            have f2 : w'.frozen? ⟨w.heap.size + 1, 0, none⟩ = false := hkf.frozen 0
            have f3 : w'.frozen? ⟨w.heap.size + 1, 1, none⟩ = false := hkf.frozen 1
            have HK := Lib.hid hbw'
            clear hb' hbw' hkf
            cases r with
            | true =>
              have hq : q = -1 := by have := HRUN.out; rw [if_pos rfl] at this; exact this.symm
              go_wp2_with fail
              refine bodyPost_ret (v := .tuple #[.int .i64 (-1), .agg #[.int .i64 0, .int .i64 0]]) (by simp [results, Tryz.results25, go_sem, f0, f1]) rfl ⟨by rw [hq], ?_⟩
              exact (HK.out.setCell (p := ⟨w.heap.size + 1, 0, none⟩) (by simp) _).setCell (p := ⟨w.heap.size + 1, 1, none⟩) (by simp) _
            | false =>
              have hq : q = k := by have := HRUN.out; rw [if_neg (by simp)] at this; exact this.symm
              go_wp2_with fail
              refine bodyPost_ret (v := .tuple #[.int .i64 k, .agg #[.int .i64 0, .int .i64 0]]) (by simp [results, Tryz.results25, go_sem, f0, f1]) rfl ⟨by rw [hq], ?_⟩
              exact (HK.out.setCell (p := ⟨w.heap.size + 1, 0, none⟩) (by simp) _).setCell (p := ⟨w.heap.size + 1, 1, none⟩) (by simp) _
  · obtain ⟨rfl, rfl, rfl⟩ := H1.out hfc
    have hq : (qc != 0) = true := by simpa using hfc
    clear hfc
    go_wp2_with fail
    go_region
    all_goals go_wp2_with fail
    all_goals refine bodyPost_ret (v := .tuple #[.int .i64 0, .agg #[.int .i64 qc, .int .i64 qa]]) (by simp [results, Tryz.results25, go_sem, f0, f1, z1]) rfl ⟨rfl, ?_⟩
    all_goals exact below_drawn (((HB1.out.1.setCell (p := ⟨w.heap.size + 1, 0, none⟩) (by simp) _).setCell (p := ⟨w.heap.size + 1, 1, none⟩) (by simp) _).alloc (by simp; omega) _)
end Go.Proofs.YtfogiljgecmakaaGreat
namespace Go.Proofs.YtfogiljgecmakaaGreat
open Go.RowKit

theorem whyJ_faulty {F : FormD} {l : List StepD} (h : ¬ (whyJ F l).2.1 = 0) : (whyJ F l).1 = 0 := by
  unfold whyJ at h ⊢
  split
  · rfl
  · split
    · rfl
    · rename_i h1 h2
      rw [if_neg h1, if_neg h2] at h
      exact absurd rfl h
theorem whyJ_fine {F : FormD} {l : List StepD} (h : (whyJ F l).2.1 = 0) : (whyJ F l).2.2 = 0 ∧ (formF F).1 = 0 ∧ l.length ≤ 3000 ∧ (whyJ F l).1 = runJ F.terms F.ints ⟨F.atoms, F.clauses⟩ l 0 := by
  unfold whyJ at h ⊢
  split
  · rename_i h1
    rw [if_pos h1] at h
    exact absurd h h1
  · rename_i h1
    rw [if_neg h1] at h
    split
    · rename_i h2
      rw [if_pos h2] at h
      cases h
    · rename_i h2
      exact ⟨rfl, by simpa using h1, by omega, rfl⟩

set_option maxRecDepth 100000 in
set_option maxHeartbeats 4000000 in
theorem take_any (A1 A2 A3 A4 : Option Addr) (n1 c1 n2 c2 n3 c3 n4 c4 : Nat) (F : FormD) (A : Option Addr) (n c : Nat) (l : List StepD) (q qc qa : Int) (w : World) (hF : FormB w w.heap.size A1 A2 A3 A4 n1 n2 n3 n4 F) (hc1 : n1 ≤ c1) (hc3 : n3 ≤ c3) (hc3m : c3 ≤ maxLen)
    (hl : ArrB AtStep 9 w w.heap.size A n l) (hR : whyJ F l = (q, qc, qa)) :
    Calls Tryz.prog 10 #[.agg #[.slice A1 n1 c1, .slice A2 n2 c2, .slice A3 n3 c3, .slice A4 n4 c4], .slice A n c] w fun e w' => e = .returned (.tuple #[.bool (decide (q = -1)), .agg #[.int .i64 qc, .int .i64 qa]]) ∧ Below w.heap.size w w' := by
  obtain ⟨hb0, hbk0, hbf0, hs0⟩ := two_boxes w 27 33 #[.slice A1 n1 c1, .slice A2 n2 c2, .slice A3 n3 c3, .slice A4 n4 c4] #[.int .i64 0, .int .i64 0]
  have HC := Lib.hid (fun W (hbW : Below w.heap.size w W) => why_any A1 A2 A3 A4 n1 c1 n2 c2 n3 c3 n4 c4 F A n c l q qc qa W (hF.below hbW hbW.size) hc1 hc3 hc3m (hl.below stays_step hbW hbW.size) hR)
  have hq0 : ¬ qc = 0 → q = 0 := fun h => by have := whyJ_faulty (F := F) (l := l) (by rw [hR]; exact h); rw [hR] at this; exact this
  have hq1 : qc = 0 → qa = 0 := fun h => by have := (whyJ_fine (F := F) (l := l) (by rw [hR]; exact h)).1; rw [hR] at this; exact this
  have HQ := Lib.hid (And.intro hq0 hq1)
  have HW := Lib.hid (And.intro hb0 (And.intro hbk0 (And.intro hbf0 hs0)))
  clear hR hF hl hb0 hbk0 hbf0 hs0 hq0 hq1 hc1 hc3 hc3m
  go_enter Tryz.func10, Tryz.ntmps10
  go_wp2_with fail
  refine (HC.out _ HW.out.1).mono ?_
  rintro e w1 ⟨rfl, hb1⟩
  have hz1 := hb1.size
  have hz0 := HW.out.2.2.2
  rw [hz0] at hz1
  have hbw1 : Below w.heap.size w w1 := HW.out.1.trans (hb1.mono (by rw [hz0]; omega))
  have k2 : Blk w1 (w.heap.size + 1) 33 #[.int .i64 0, .int .i64 0] := HW.out.2.2.1.below hb1 (by rw [hz0]; omega)
  have HB1 := Lib.hid (And.intro hbw1 k2)
  have f0 : w1.cell? ⟨w.heap.size + 1, 0, none⟩ = some (.int .i64 0) := k2.cell 0
  have f1 : w1.cell? ⟨w.heap.size + 1, 1, none⟩ = some (.int .i64 0) := k2.cell 1
  have f2 : w1.frozen? ⟨w.heap.size + 1, 0, none⟩ = false := k2.frozen 0
  have f3 : w1.frozen? ⟨w.heap.size + 1, 1, none⟩ = false := k2.frozen 1
  have z1 : w.heap.size + 1 < w1.heap.size := k2.lt
  have z0 : w.heap.size < w1.heap.size := by omega
  clear hb1 hbw1 k2 hz0 HC HW
  by_cases hqc : qc = 0
  · subst hqc
    obtain rfl := HQ.out.2 rfl
    go_wp2_with fail
    refine bodyPost_ret (v := .tuple #[.bool (decide (q = -1)), .agg #[.int .i64 0, .int .i64 0]]) (by simp [results, Tryz.results10, go_sem, f0, f1, z1]; rfl) rfl ⟨rfl, ?_⟩
    exact ((HB1.out.1.setCell (p := ⟨w.heap.size + 1, 0, none⟩) (by simp) _).setCell (p := ⟨w.heap.size + 1, 1, none⟩) (by simp) _).alloc (by simp; omega) _
  · obtain rfl := HQ.out.1 hqc
    have hq : (qc != 0) = true := by simpa using hqc
    clear hqc
    go_wp2_with fail
    go_region
    all_goals go_wp2_with fail
    all_goals refine bodyPost_ret (v := .tuple #[.bool (decide ((0 : Int) = -1)), .agg #[.int .i64 qc, .int .i64 qa]]) (by simp [results, Tryz.results10, go_sem, f0, f1, z1]) rfl ⟨rfl, ?_⟩
    all_goals exact below_drawn (((HB1.out.1.setCell (p := ⟨w.heap.size + 1, 0, none⟩) (by simp) _).setCell (p := ⟨w.heap.size + 1, 1, none⟩) (by simp) _).alloc (by simp; omega) _)
end Go.Proofs.YtfogiljgecmakaaGreat
namespace Go.Proofs.YtfogiljgecmakaaGreat
open Go.RowKit

def VStep : Val StepD := fun w S cs x => ∃ (L : Option Addr) (nl cl : Nat) (M : Option Addr) (nm cm : Nat) (O : Option Addr) (no co : Nat),
  cs = [.int .i64 x.kind, .slice L nl cl, .slice M nm cm, .int .i64 x.atom.kind, .int .i64 x.atom.a, .int .i64 x.atom.b, .slice O no co, .int .i64 x.atom.row.kind, .int .i64 x.atom.row.to_] ∧
  (I64 x.kind ∧ I64 x.atom.kind ∧ I64 x.atom.a ∧ I64 x.atom.b ∧ I64 x.atom.row.kind ∧ I64 x.atom.row.to_) ∧ (nl ≤ cl ∧ cl ≤ maxLen ∧ nm ≤ cm ∧ cm ≤ maxLen ∧ no ≤ co ∧ co ≤ maxLen) ∧
  Arr AtInt 1 w S L nl x.lits ∧ Arr AtFrac 2 w S M nm x.nums ∧ Arr AtInt 1 w S O no x.atom.row.of_
theorem tells_step : Tells VStep 9 := ⟨fun _ _ _ _ _ _ hS hk h => by
    obtain ⟨L, nl, cl, M, nm, cm, O, no, co, h0, h1, h2, h3, h4, h5⟩ := h
    exact ⟨L, nl, cl, M, nm, cm, O, no, co, h0, h1, h2, h3.keep stays_int hS hk, h4.keep stays_frac hS hk, h5.keep stays_int hS hk⟩,
  fun _ _ _ _ h => by obtain ⟨L, nl, cl, M, nm, cm, O, no, co, h0, _⟩ := h; rw [h0]; rfl,
  fun _ _ _ _ h u hu => by obtain ⟨L, nl, cl, M, nm, cm, O, no, co, h0, _⟩ := h; rw [h0] at hu; simp only [List.mem_cons, List.not_mem_nil, or_false] at hu; rcases hu with rfl | rfl | rfl | rfl | rfl | rfl | rfl | rfl | rfl <;> rfl⟩
theorem atV_step {w : World} {S : Nat → Prop} {b o : Nat} {x : StepD} (h : AtV VStep w S b o x) : AtStep w S b o x := by
  obtain ⟨cs, ⟨L, nl, cl, M, nm, cm, O, no, co, rfl, ⟨i1, i2, i3, i4, i5, i6⟩, ⟨b1, b2, b3, b4, b5, b6⟩, h3, h4, h5⟩, hc⟩ := h
  exact ⟨⟨hc 0 _ rfl, i1⟩, ⟨L, nl, cl, hc 1 _ rfl, b1, b2, h3⟩, ⟨M, nm, cm, hc 2 _ rfl, b3, b4, h4⟩, ⟨hc 3 _ rfl, i2⟩, ⟨hc 4 _ rfl, i3⟩, ⟨hc 5 _ rfl, i4⟩, ⟨O, no, co, hc 6 _ rfl, b5, b6, h5⟩, ⟨hc 7 _ rfl, i5⟩, hc 8 _ rfl, i6⟩
theorem i64_0 : I64 0 := by unfold I64; omega
theorem i64_1 : I64 1 := by unfold I64; omega
theorem vstep_plain {w : World} {S : Nat → Prop} {k : Int} {L : Option Addr} {nl cl : Nat} {M : Option Addr} {nm cm : Nat} {lits : List Int} {nums : List FracD} (hk : I64 k) (h1 : nl ≤ cl) (h2 : cl ≤ maxLen) (h3 : nm ≤ cm) (h4 : cm ≤ maxLen) (hl : Arr AtInt 1 w S L nl lits) (hm : Arr AtFrac 2 w S M nm nums) :
    VStep w S [.int .i64 k, .slice L nl cl, .slice M nm cm, .int .i64 0, .int .i64 0, .int .i64 0, .slice none 0 0, .int .i64 0, .int .i64 0] ⟨k, lits, nums, nilAtom⟩ :=
  ⟨L, nl, cl, M, nm, cm, none, 0, 0, rfl, ⟨hk, i64_0, i64_0, i64_0, i64_0, i64_0⟩, ⟨h1, h2, h3, h4, Nat.le_refl _, Nat.zero_le _⟩, hl, hm, Arr.nil_⟩
theorem vatom_plain {w : World} {S : Nat → Prop} {k a b : Int} (hk : I64 k) (ha : I64 a) (hb : I64 b) : VAtom w S [.int .i64 k, .int .i64 a, .int .i64 b, .slice none 0 0, .int .i64 0, .int .i64 0] ⟨k, a, b, ⟨[], 0, 0⟩⟩ :=
  ⟨none, 0, 0, rfl, ⟨hk, ha, hb, i64_0, i64_0⟩, Nat.le_refl _, Nat.zero_le _, Arr.nil_⟩

def sureForm : FormD := ⟨[], [], [⟨1, 0, 0, ⟨[], 0, 0⟩⟩], [[1], [-1]]⟩
theorem sure_yes : whyJ sureForm [⟨1, [], [], nilAtom⟩] = (-1, 0, 0) := by
  unfold whyJ
  rw [show formF sureForm = (0, 0) by decide, if_neg (by simp), if_neg (by simp)]
  congr 1
  have hc : Clash [[1], [-1]] (([] : List Int).map fun l => -l) := ⟨[-1], by simp, fun k hk => by
    rw [List.mem_singleton] at hk
    subst hk
    exact .unit (c := [1]) (by simp) (by simp) fun j hj hne => absurd (List.mem_singleton.1 hj) (by simpa using hne)⟩
  have hs : stepJ sureForm.terms sureForm.ints ⟨sureForm.atoms, sureForm.clauses⟩ ⟨1, [], [], nilAtom⟩ = some ⟨sureForm.atoms, [[1], [-1], []]⟩ :=
    stepJ_test (R := true) (by decide) (by simp) (by simp) (by rw [if_pos rfl]; exact @decide_eq_true _ (Classical.propDecidable _) hc)
  rw [runJ, hs]
  rfl
theorem sure_no : whyJ sureForm [] = (0, 0, 0) := by
  unfold whyJ
  rw [show formF sureForm = (0, 0) by decide, if_neg (by simp), if_neg (by simp)]
  rfl

/-- the form and the step of judgeSure in memory -/
theorem sure_laid (w X : World) (hX : lay w [(47, #[.int .i64 1, .int .i64 0, .int .i64 0, .slice none 0 0, .int .i64 0, .int .i64 0]), (3, #[.int .i64 1]), (3, #[.int .i64 (-1)]), (28, #[.slice (some ⟨w.heap.size + 1, 0, none⟩) 1 1, .slice (some ⟨w.heap.size + 1 + 1, 0, none⟩) 1 1]), (27, #[.slice none 0 0, .slice none 0 0, .slice (some ⟨w.heap.size, 0, none⟩) 1 1, .slice (some ⟨w.heap.size + 1 + 1 + 1, 0, none⟩) 2 2]), (49, #[.int .i64 1, .slice none 0 0, .slice none 0 0, .int .i64 0, .int .i64 0, .int .i64 0, .slice none 0 0, .int .i64 0, .int .i64 0])] = X) :
    Below w.heap.size w X ∧ X.heap.size = w.heap.size + 6 ∧ FormB X X.heap.size none none (some ⟨w.heap.size, 0, none⟩) (some ⟨w.heap.size + 3, 0, none⟩) 0 0 1 2 sureForm ∧ ArrB AtStep 9 X X.heap.size (some ⟨w.heap.size + 5, 0, none⟩) 1 [⟨1, [], [], nilAtom⟩] ∧
      Blk X (w.heap.size + 4) 27 #[.slice none 0 0, .slice none 0 0, .slice (some ⟨w.heap.size, 0, none⟩) 1 1, .slice (some ⟨w.heap.size + 3, 0, none⟩) 2 2] := by
  have hs := lay_size [(47, #[.int .i64 1, .int .i64 0, .int .i64 0, .slice none 0 0, .int .i64 0, .int .i64 0]), (3, #[.int .i64 1]), (3, #[.int .i64 (-1)]), (28, #[.slice (some ⟨w.heap.size + 1, 0, none⟩) 1 1, .slice (some ⟨w.heap.size + 1 + 1, 0, none⟩) 1 1]), (27, #[.slice none 0 0, .slice none 0 0, .slice (some ⟨w.heap.size, 0, none⟩) 1 1, .slice (some ⟨w.heap.size + 1 + 1 + 1, 0, none⟩) 2 2]), (49, #[.int .i64 1, .slice none 0 0, .slice none 0 0, .int .i64 0, .int .i64 0, .int .i64 0, .slice none 0 0, .int .i64 0, .int .i64 0])] w
  have hb := lay_below [(47, #[.int .i64 1, .int .i64 0, .int .i64 0, .slice none 0 0, .int .i64 0, .int .i64 0]), (3, #[.int .i64 1]), (3, #[.int .i64 (-1)]), (28, #[.slice (some ⟨w.heap.size + 1, 0, none⟩) 1 1, .slice (some ⟨w.heap.size + 1 + 1, 0, none⟩) 1 1]), (27, #[.slice none 0 0, .slice none 0 0, .slice (some ⟨w.heap.size, 0, none⟩) 1 1, .slice (some ⟨w.heap.size + 1 + 1 + 1, 0, none⟩) 2 2]), (49, #[.int .i64 1, .slice none 0 0, .slice none 0 0, .int .i64 0, .int .i64 0, .int .i64 0, .slice none 0 0, .int .i64 0, .int .i64 0])] w
  have hk := fun i t c h => lay_blk [(47, #[.int .i64 1, .int .i64 0, .int .i64 0, .slice none 0 0, .int .i64 0, .int .i64 0]), (3, #[.int .i64 1]), (3, #[.int .i64 (-1)]), (28, #[.slice (some ⟨w.heap.size + 1, 0, none⟩) 1 1, .slice (some ⟨w.heap.size + 1 + 1, 0, none⟩) 1 1]), (27, #[.slice none 0 0, .slice none 0 0, .slice (some ⟨w.heap.size, 0, none⟩) 1 1, .slice (some ⟨w.heap.size + 1 + 1 + 1, 0, none⟩) 2 2]), (49, #[.int .i64 1, .slice none 0 0, .slice none 0 0, .int .i64 0, .int .i64 0, .int .i64 0, .slice none 0 0, .int .i64 0, .int .i64 0])] w i t c h
  rw [hX] at hs hb hk
  simp only [List.length_cons, List.length_nil] at hs
  have b0 := hk 0 _ _ rfl
  have b1 := hk 1 _ _ rfl
  have b2 := hk 2 _ _ rfl
  have b3 := hk 3 _ _ rfl
  have b4 := hk 4 _ _ rfl
  have b5 := hk 5 _ _ rfl
  refine ⟨hb, hs, ⟨Arr.nil_, Arr.nil_, ?_, ?_, by decide, by decide, by decide, by decide⟩, ?_, b4⟩
  · exact row_one tells_atom (fun _ _ _ _ _ h => atV_atom h) b0 (vatom_plain i64_1 i64_0 i64_0) (by omega)
  · exact row_two (tells_arr stays_int) atArr_of b3 (c0 := [.slice (some ⟨w.heap.size + 1, 0, none⟩) 1 1]) (c1 := [.slice (some ⟨w.heap.size + 1 + 1, 0, none⟩) 1 1]) rfl
      (varr_of (row_ints (xs := [1]) b1 rfl (by intro x hx; rw [List.mem_singleton] at hx; subst hx; exact i64_1) (by show _ < _; omega)) (Nat.le_refl _) (by decide)) (varr_of (row_ints (xs := [-1]) b2 rfl (by intro x hx; rw [List.mem_singleton] at hx; subst hx; exact i64_small (by omega)) (by show _ < _; omega)) (Nat.le_refl _) (by decide)) (by omega)
  · exact row_one tells_step (fun _ _ _ _ _ h => atV_step h) b5 (vstep_plain i64_1 (Nat.le_refl _) (Nat.zero_le _) (Nat.le_refl _) (Nat.zero_le _) Arr.nil_ Arr.nil_) (by omega)

set_option maxRecDepth 100000 in
set_option maxHeartbeats 4000000 in
theorem judgeSure_any (w : World) : Calls Tryz.prog 11 #[] w fun e w' => e = .returned (.bool true) ∧ Below w.heap.size w w' := by
  obtain ⟨X, hX⟩ : ∃ X, ((((((w.alloc (.cells #[.int .i64 1, .int .i64 0, .int .i64 0, .slice none 0 0, .int .i64 0, .int .i64 0] 47)).alloc (.cells #[.int .i64 1] 3)).alloc (.cells #[.int .i64 (-1)] 3)).alloc (.cells #[.slice (some ⟨w.heap.size + 1, 0, none⟩) 1 1, .slice (some ⟨w.heap.size + 1 + 1, 0, none⟩) 1 1] 28)).alloc (.cells #[.slice none 0 0, .slice none 0 0, .slice (some ⟨w.heap.size, 0, none⟩) 1 1, .slice (some ⟨w.heap.size + 1 + 1 + 1, 0, none⟩) 2 2] 27)).alloc (.cells #[.int .i64 1, .slice none 0 0, .slice none 0 0, .int .i64 0, .int .i64 0, .int .i64 0, .slice none 0 0, .int .i64 0, .int .i64 0] 49)) = X := ⟨_, rfl⟩
  obtain ⟨hb, hs, hF, hst, hk⟩ := sure_laid w X hX
  have HT := Lib.hid (take_any none none (some ⟨w.heap.size, 0, none⟩) (some ⟨w.heap.size + 3, 0, none⟩) 0 0 0 0 1 1 2 2 sureForm (some ⟨w.heap.size + 5, 0, none⟩) 1 1 _ (-1) 0 0 X hF (Nat.le_refl _) (Nat.le_refl _) (by decide) hst sure_yes)
  have HX := Lib.hid hX
  have H := Lib.hid (And.intro hb (And.intro hs (And.intro hF hk)))
  clear hb hs hF hst hk hX
  go_enter Tryz.func11, Tryz.ntmps11
  go_wp2_with fail
  rw [HX.out]
  refine HT.out.mono ?_
  rintro e w1 ⟨rfl, hb1⟩
  have k1 := H.out.2.2.2.below hb1 (by have := H.out.2.1; omega)
  have hs := H.out.2.1
  have hz := hb1.size
  have g0 : w1.cell? ⟨w.heap.size + 1 + 1 + 1 + 1, 0, none⟩ = some (.slice none 0 0) := k1.cell 0
  have g1 : w1.cell? ⟨w.heap.size + 1 + 1 + 1 + 1, 1, none⟩ = some (.slice none 0 0) := k1.cell 1
  have g2 : w1.cell? ⟨w.heap.size + 1 + 1 + 1 + 1, 2, none⟩ = some (.slice (some ⟨w.heap.size, 0, none⟩) 1 1) := k1.cell 2
  have g3 : w1.cell? ⟨w.heap.size + 1 + 1 + 1 + 1, 3, none⟩ = some (.slice (some ⟨w.heap.size + 1 + 1 + 1, 0, none⟩) 2 2) := k1.cell 3
  have z4 : w.heap.size + 1 + 1 + 1 + 1 < w1.heap.size := k1.lt
  have HT2 := Lib.hid (fun (W : World) (hbW : Below X.heap.size X W) => take_any none none (some ⟨w.heap.size, 0, none⟩) (some ⟨w.heap.size + 3, 0, none⟩) 0 0 0 0 1 1 2 2 sureForm none 0 0 [] 0 0 0 W (H.out.2.2.1.below hbW hbW.size) (Nat.le_refl _) (Nat.le_refl _) (by decide) Arr.nil_ sure_no)
  have HB1 := Lib.hid hb1
  clear hb1 k1 hs hz
  go_wp2_with fail
  refine (HT2.out _ (HB1.out.alloc HB1.out.size _)).mono ?_
  rintro e w2 ⟨rfl, hb2⟩
  have k3 : Blk w2 w1.heap.size 33 #[.int .i64 0, .int .i64 0] := (Blk.new w1 33 #[.int .i64 0, .int .i64 0]).below hb2 (by simp)
  have d0 : w2.cell? ⟨w1.heap.size, 0, none⟩ = some (.int .i64 0) := k3.cell 0
  have z5 : w1.heap.size < w2.heap.size := k3.lt
  have hbw : Below w.heap.size w w2 := H.out.1.trans ((HB1.out.mono H.out.1.size).trans ((((Below.refl w1.heap.size w1).alloc (Nat.le_refl _) (.cells #[.int .i64 0, .int .i64 0] 33)).trans (hb2.mono (by simp))).mono (by have := HB1.out.size; have := H.out.1.size; omega)))
  have HB2 := Lib.hid hbw
  clear hb2 k3 hbw HT HT2 HX
  go_wp2_with fail
  go_ret
  exact ⟨rfl, HB2.out.alloc (by have := HB2.out.size; omega) _⟩
end Go.Proofs.YtfogiljgecmakaaGreat
