/- Walk: rows of the judge, kept in a row of the call's own; whether one of rows always holds. · Walk: whether one of rows always holds (neither two nor three). -/
import Derived.Test.YtdncchlfeanlmaaJuIJ
import Derived.IntWalk
import Derived.BigRegion
import Derived.Lib.QuietBelow
namespace Go.Proofs.Ytdncchlfeanlmaa
open Go.RowKit

def VRowD : Val RowD := fun w S cs x => ∃ (A : Option Addr) (n c : Nat), cs = [.slice A n c, .int .i64 x.kind, .int .i64 x.to_] ∧ n ≤ c ∧ c ≤ maxLen ∧ Arr AtInt 1 w S A n x.of_
theorem tells_rowd : Tells VRowD 3 := ⟨fun _ _ _ _ _ _ hS hk h => by
    obtain ⟨A, n, c, h0, h1, h2, h3⟩ := h
    exact ⟨A, n, c, h0, h1, h2, h3.keep stays_int hS hk⟩,
  fun _ _ _ _ h => by obtain ⟨A, n, c, h0, _⟩ := h; rw [h0]; rfl,
  fun _ _ _ _ h u hu => by obtain ⟨A, n, c, h0, _⟩ := h; rw [h0] at hu; simp only [List.mem_cons, List.not_mem_nil, or_false] at hu; rcases hu with rfl | rfl | rfl <;> rfl⟩
theorem infoRow : (Try.prog.info? 33).map (fun i => (i.zero, i.size, i.bytes)) = some (some (.agg #[.slice none 0 0, .int .i64 0, .int .i64 0]), 3, 40) := by kernel_rfl
theorem rowRows3 : RowT Try.prog 95 33 3 40 := rowT_of Try.underlying95 infoRow rfl (by omega)
abbrev OwnR (w : World) (B B0 : Nat) (v : Value) (l : List RowD) : Prop := OwnV VRowD 33 3 w B (fun b => b < B0) v l
theorem rowd_later {w w' : World} {B B0 : Nat} {v : Value} {c : List RowD} (h : OwnR w B B0 v c) (hB : B0 ≤ w.heap.size) (hb : Below w.heap.size w w') : OwnR w' B B0 v c := h.kept tells_rowd (only_of_below hb none) (by cases v.ownBlock <;> simp) (fun b hb => ⟨hb, by omega, by simp⟩)
/-- a row of the call's own: where its thing number i lies -/
theorem OwnR.cells {w : World} {B B0 g n c : Nat} {xs : List RowD} (h : OwnR w B B0 (.slice (some ⟨g, 0, none⟩) n c) xs) {i : Nat} {x : RowD} (hx : xs[i]? = some x) :
    ∃ (A : Option Addr) (m k : Nat), w.cell? ⟨g, i * 3, none⟩ = some (.slice A m k) ∧ w.cell? ⟨g, i * 3 + 1, none⟩ = some (.int .i64 x.kind) ∧ w.cell? ⟨g, i * 3 + 2, none⟩ = some (.int .i64 x.to_) ∧ m ≤ k ∧ k ≤ maxLen ∧ IntsB w B0 A m x.of_ := by
  obtain ⟨cells, hown, hels⟩ := h
  have hc : ∀ j u, cells[j]? = some u → w.cell? ⟨g, j, none⟩ = some u := fun j u hu => by
    have := hown.cells (g := g) rfl j u hu
    rwa [Go.WideShapes.add_plain, Nat.zero_add] at this
  obtain ⟨cs, ⟨A, m, k, rfl, h1, h2, h3⟩, h4⟩ := Cels.at_ tells_rowd hc xs 0 cells hels (fun j => by rw [Nat.zero_mul, Nat.zero_add]) i x hx
  rw [Nat.zero_add] at h4
  exact ⟨A, m, k, h4 0 _ rfl, h4 1 _ rfl, h4 2 _ rfl, h1, h2, h3⟩
theorem allK_mem {ats : List AtomD} {k : Int} {lits : List Int} (h : allK ats k lits = true) : ∀ l ∈ lits, (atomAt ats l).kind = k := fun l hl => by
  unfold allK at h
  exact of_decide_eq_true (List.all_eq_true.1 h l hl)
theorem gapF_no1 {ints : List Bool} {ats : List AtomD} {lits : List Int} (h : allK ats 3 lits = false) : gapF ints ats lits = false := by unfold gapF; rw [h]; rfl
theorem gapF_no2 {ints : List Bool} {ats : List AtomD} {lits : List Int} (h : (lits.any fun l => decide (l < 0)) = true) : gapF ints ats lits = false := by
  have : (lits.all fun l => decide (0 < l)) = false := by
    obtain ⟨l, hl, hn⟩ := List.any_eq_true.1 h
    rw [List.all_eq_false]
    exact ⟨l, hl, by simp at hn ⊢; omega⟩
  unfold gapF
  rw [this, Bool.and_false, Bool.false_and]
theorem gapF_yes {ints : List Bool} {ats : List AtomD} {lits : List Int} (h1 : allK ats 3 lits = true) (h2 : (lits.any fun l => decide (l < 0)) = false) (h3 : ∀ l ∈ lits, ¬ l = 0) : gapF ints ats lits = gapRows ints (lits.map fun l => (atomAt ats l).row) := by
  have : (lits.all fun l => decide (0 < l)) = true := by
    rw [List.all_eq_true]
    intro l hl
    have h4 := List.any_eq_false.1 h2 l hl
    have := h3 l hl
    simp at h4 ⊢
    omega
  unfold gapF
  rw [h1, this, Bool.true_and, Bool.true_and]
theorem gapRows_other {ints : List Bool} {rs : List RowD} (h2 : ¬ rs.length = 2) (h3 : ¬ rs.length = 3) : gapRows ints rs = false := by
  match rs with
  | [] => rfl
  | [_] => rfl
  | [_, _] => exact absurd rfl h2
  | [_, _, _] => exact absurd rfl h3
  | _ :: _ :: _ :: _ :: _ => rfl
/-- the state of the walk when the rows are there -/
structure GapI (w wr : World) (B0 G n c2 : Nat) (A2 : Option Addr) (ints : List Bool) (g k c : Nat) (rs : List RowD) : Prop where
  bel : Below w.heap.size w wr
  own : OwnR wr w.heap.size B0 (.slice (some ⟨g, 0, none⟩) k c) rs
  hB : B0 ≤ w.heap.size
  q1 : w.cell? ⟨G, 1, none⟩ = some (.slice A2 n c2)
  lt : G < w.heap.size
  ints_ : ArrB AtBool 1 w w.heap.size A2 n ints
  ok : ∀ r ∈ rs, RowOk n r
theorem gapRows_two {ints : List Bool} {a b : RowD} : gapRows ints [a, b] = (wholeF ints a.of_ && decide (a.kind = 1 ∧ b.kind = 1) && turnedF ints.length a.of_ b.of_ (-1) && decide (b.to_ = -a.to_ - 1)) := rfl
theorem gapRows_three {ints : List Bool} {a b c : RowD} : gapRows ints [a, b, c] = (decide (a.kind = 3 ∧ b.kind = 2 ∧ c.kind = 2) && turnedF ints.length a.of_ b.of_ 1 && decide (b.to_ = a.to_) && turnedF ints.length a.of_ c.of_ (-1) && decide (c.to_ = -a.to_)) := rfl
/-- which of the walk's ways three rows take -/
def gapSel (n : Nat) : List RowD → Nat
  | [a, b, c] => if a.kind = 3 ∧ b.kind = 2 ∧ c.kind = 2 then (if turnedF n a.of_ b.of_ 1 = true ∧ b.to_ = a.to_ then (if turnedF n a.of_ c.of_ (-1) = true then 2 else 1) else 0) else 0
  | _ => 0
theorem gapSel_lt (n : Nat) (rs : List RowD) : gapSel n rs = 0 ∨ gapSel n rs = 1 ∨ gapSel n rs = 2 := by
  unfold gapSel
  split
  · split
    · split
      · split
        · exact .inr (.inr rfl)
        · exact .inr (.inl rfl)
      · exact .inl rfl
    · exact .inl rfl
  · exact .inl rfl
theorem wholeF_at {ints : List Bool} {a : List Int} {j : Nat} (hj : j < ints.length) (h1 : ints[j]? = some false) (h : ¬ a.getD j 0 = 0) : wholeF ints a = false := by
  unfold wholeF
  rw [List.all_eq_false]
  exact ⟨j, List.mem_range.2 hj, by rw [List.getD_eq_getElem?_getD, h1]; simpa using h⟩
theorem wholeF_all {ints : List Bool} {a : List Int} (h : ∀ j, j < ints.length → ints[j]? = some true ∨ a.getD j 0 = 0) : wholeF ints a = true := by
  unfold wholeF
  rw [List.all_eq_true]
  intro j hj
  rcases h j (List.mem_range.1 hj) with h1 | h1
  · rw [List.getD_eq_getElem?_getD, h1]; rfl
  · rw [h1, Bool.or_eq_true]; exact .inr rfl
end Go.Proofs.Ytdncchlfeanlmaa
namespace Go.Proofs.Ytdncchlfeanlmaa
open Go.RowKit

set_option maxRecDepth 100000 in
set_option maxHeartbeats 8000000 in
theorem jgap_o (B0 G : Nat) (A1 A2 A3 : Option Addr) (c1 c2 c3 : Nat) (ts : List TermD) (ints : List Bool) (ats : List AtomD) (A : Option Addr) (n : Nat) (c : Nat) (lits : List Int) (w : World) (h : StR w B0 G A1 c1 A2 c2 A3 c3 ts ints ats)
    (hlits : IntsB w w.heap.size A n lits) (hl : ∀ l ∈ lits, LitIn ats.length l) (hn0 : n ≤ 1000) (hgr : GoodRows ints.length ats) (hni : ints.length ≤ 1000) (h2 : ¬ n = 2) (h3 : ¬ n = 3) :
    Calls Try.prog 29 #[.pointer (some ⟨G, 0, none⟩), .slice A n c] w fun e w' => e = .returned (.bool (gapF ints ats lits)) ∧ Below w.heap.size w w' := by
  have eg := enters_of Try.func52 (by kernel_rfl) rfl
  have HALL := Lib.hid (jall_any B0 G A1 A2 A3 c1 c2 c3 ts ints ats A n c lits 3 w h hlits hl (by omega))
  have HCO : Hid (∀ (W : World) (R : Bool), Below w.heap.size w W → (lits.any fun l => decide (l < 0)) = R → Calls Try.prog 21 #[.slice A n c, .func (.func 52) #[] #[]] W fun e w' => e = .returned (.bool R) ∧ Below W.heap.size W w') := fun W R hW hR =>
    containsInts_any 52 #[] eg (fun l => decide (l < 0)) A n c lits R W (hlits.below stays_int hW hW.size) (by omega) (fun W' y _ hb => (gap1_any y W').mono fun _ _ ⟨h1, h2⟩ => ⟨h1, h2 ▸ hb⟩) hR
  have H := Lib.hid (And.intro h (And.intro hlits (And.intro hl (And.intro hgr hni))))
  have hGl := h.lt
  have hB0 := h.hB
  have hq1 := h.q1
  clear h hlits hl hgr eg
  cases hall : allK ats 3 lits with
  | false =>
    rw [hall] at HALL
    rw [gapF_no1 hall]
    clear hall
    go_enter Try.func29, Try.ntmps29
    go_wp2_with fail
    refine HALL.out.mono ?_
    rintro e w9 ⟨rfl, hb9⟩
    have HB9 := Lib.hid hb9
    clear hb9
    go_wp2_with fail
    go_ret
    exact ⟨rfl, HB9.out⟩
  | true =>
    rw [hall] at HALL
    cases hany : lits.any fun l => decide (l < 0) with
    | true =>
      rw [gapF_no2 hany]
      have HCY := Lib.hid (fun W hW => HCO.out W true hW hany)
      clear hall hany
      go_enter Try.func29, Try.ntmps29
      go_wp2_with fail
      refine HALL.out.mono ?_
      rintro e w9 ⟨rfl, hb9⟩
      have HC9 := Lib.hid (HCY.out w9 hb9)
      have HB9 := Lib.hid hb9
      clear hb9
      go_wp2_with fail
      refine HC9.out.mono ?_
      rintro e w8 ⟨rfl, hb8⟩
      have HB8 := Lib.hid (HB9.out.trans (hb8.mono HB9.out.size))
      clear hb8
      go_wp2_with fail
      go_ret
      exact ⟨rfl, HB8.out⟩
    | false =>
      rw [gapF_yes hall hany (fun l hl => (H.out.2.2.1 l hl).1)]
      have HCY := Lib.hid (fun W hW => HCO.out W false hW hany)
      have HK3 := Lib.hid (allK_mem hall)
      clear hall hany
      go_enter Try.func29, Try.ntmps29
      go_wp2_with fail
      refine HALL.out.mono ?_
      rintro e w9 ⟨rfl, hb9⟩
      have HC9 := Lib.hid (HCY.out w9 hb9)
      have HB9 := Lib.hid hb9
      clear hb9
      go_wp2_with fail
      refine HC9.out.mono ?_
      rintro e w8 ⟨rfl, hb8⟩
      have HB8 := Lib.hid (HB9.out.trans (hb8.mono HB9.out.size))
      clear hb8 HCY HC9 HALL HCO
      go_wp2_with fail
      go_loopw [5, 20] (fun s5 s20 wr => ∃ j : Nat, s20 = .int .i64 (j : Int) ∧ j ≤ n ∧ Hid (OwnR wr w.heap.size B0 s5 ((lits.take j).map fun l => (atomAt ats l).row) ∧ Below w.heap.size w wr)) (fun _ s _ => n - (intOf s).toNat)
      case atStart => exact ⟨0, rfl, Nat.zero_le _, OwnV.none_ _ _ _ _ _ _, HB8.out⟩
      case round =>
        obtain ⟨j, rfl, hj, HJ⟩ := hrel
        obtain ⟨A5, c5, rfl, hc5, hc5m⟩ := HJ.out.1.len
        unfold maxLen at hc5m
        have hwz : w.heap.size ≤ wr.heap.size := HJ.out.2.size
        have hml : ((lits.take j).map fun l => (atomAt ats l).row).length = j := by have := H.out.2.1.len; simp; omega
        rw [hml] at hc5 HJ ⊢
        have HML := Lib.hid hml
        clear hml
        by_cases hlt : j < n
        · have hltI : (j : Int) < (n : Int) := by omega
          obtain ⟨b, off, hx, rfl, hb, hcell, hlo, hhi⟩ := ints_get (H.out.2.1.below stays_int HJ.out.2 (Nat.le_refl _)) hlt
          have hts := take_snoc_l hx
          have hlit := H.out.2.2.1 _ (List.getElem_mem hx)
          generalize lits[j] = y at hcell hts hlit hlo hhi
          have hC := jatom_any B0 G A1 A2 A3 c1 c2 c3 ts ints ats y wr (H.out.1.later HJ.out.2) hlit
          obtain ⟨z, hz⟩ : ∃ z, atomAt ats y = z := ⟨_, rfl⟩
          rw [hz] at hC
          have HC := Lib.hid hC
          have HT := Lib.hid (And.intro hts hz)
          have hfr := field_row z
          clear hts hlit hlo hhi hC hz
          go_wp2_with fail
          refine HC.out.mono ?_
          rintro e w7 ⟨Az, nz, cz, rfl, har, hnc, hcm, hb7⟩
          have hbA : Below wr.heap.size wr (w7.alloc (.cells #[.slice Az nz cz, .int .i64 z.row.kind, .int .i64 z.row.to_] 33)) := hb7.alloc hb7.size _
          have hbk := Blk.new w7 33 #[.slice Az nz cz, .int .i64 z.row.kind, .int .i64 z.row.to_]
          have hz7 := hb7.size
          have HO := Lib.hid (And.intro (rowd_later HJ.out.1 (Nat.le_trans hB0 hwz) hbA) (And.intro hbk (And.intro (HJ.out.2.trans (hbA.mono hwz)) (show VRowD _ (fun b => b < B0) [.slice Az nz cz, .int .i64 z.row.kind, .int .i64 z.row.to_] z.row from ⟨Az, nz, cz, rfl, hnc, hcm, har.below stays_int (hbA.mono (Nat.le_trans hB0 hwz)) (Nat.le_refl _)⟩))))
          have HOL := Lib.hid HO.out.1.lt
          clear har hnc hcm hb7 hbA hbk
          go_wp2_with (at_builtin; refine wpList_append_item rfl _ _ _ rfl rowRows3 tells_rowd (v := .slice A5 j c5) (xs := (lits.take j).map fun l => (atomAt ats l).row) (base := w.heap.size) (S := fun b => b < B0) rfl HO.out.1 (g := w7.heap.size) (cs := #[.slice Az nz cz, .int .i64 z.row.kind, .int .i64 z.row.to_]) rfl HO.out.2.1 (y := z.row) HO.out.2.2.2 (fun b hb => ⟨by simp; omega, fun e => by have := HOL.out b e; omega⟩) (by rw [HML.out]; unfold maxLen; omega) (by rw [HML.out]; omega) (by simp; omega) ?_; intro v' w6 hown6 hgrow6 hat6; have HB6 := Lib.hid (And.intro hown6 hgrow6); clear hown6 hgrow6 hat6)
          go_roundw
          case rel =>
            refine ⟨j + 1, by go_num, by omega, ?_, below_then HO.out.2.2.1 HB6.out.2 (by simp; omega) (fun x hx => (HOL.out x hx).1)⟩
            rw [HT.out.1, List.map_append, List.map_cons, List.map_nil, HT.out.2]
            exact HB6.out.1
          case measure => simp [intOf]; omega
        · obtain rfl : j = n := by omega
          have HF : Hid (gapRows ints (lits.map fun l => (atomAt ats l).row) = false) := gapRows_other (by have := H.out.2.1.len; simp; omega) (by have := H.out.2.1.len; simp; omega)
          have h2I : (((j : Nat) : Int) == 2) = false := by rw [beq_eq_false_iff_ne]; omega
          have h3I : (((j : Nat) : Int) == 3) = false := by rw [beq_eq_false_iff_ne]; omega
          have HBW := Lib.hid HJ.out.2
          clear HJ h2 h3
          go_wp2_with fail
          go_ret
          exact ⟨ret_bool (by rw [HF.out]), HBW.out⟩
end Go.Proofs.Ytdncchlfeanlmaa
