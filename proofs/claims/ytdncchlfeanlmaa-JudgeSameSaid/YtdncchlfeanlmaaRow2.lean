/- Walks: what is wrong with a row, in the program and in the reference. · Walk: what is wrong with a row: the reference. -/
import Derived.Test.YtdncchlfeanlmaaClone
import Derived.Deep.RegionHeld3
import Derived.Deep.RegionLaw
import Derived.Deep.DeepCutAuto
namespace Go.Proofs.Ytdncchlfeanlmaa
open Go.RowKit

def wholeB (x : Int) : Bool := decide (-1000000 ≤ x ∧ x ≤ 1000000)
def wholeC (x : Int) : Int := if wholeB x then 0 else 3
def rowF (r : RowD) (m : Int) : Int × Int := if r.kind < 1 ∨ 3 < r.kind then (4, 0) else if m < r.of_.length then (9, 0) else firstBad (fun x _ => wholeC x) (r.of_ ++ [r.to_]) 0

set_option maxHeartbeats 400000 in
theorem whole_any (x : Int) (w : World) : Calls Try.prog 38 #[.int .i64 x] w fun e w' => e = .returned (.bool (wholeB x)) ∧ w = w' := by
  go_enter Try.func38, Try.ntmps38
  go_wp2
  all_goals go_ret
  all_goals refine ⟨ret_bool ?_, rfl⟩
  all_goals (rw [Bool.eq_iff_iff]; simp [wholeB]; try omega)

def RowCut (w : World) (xs : List Int) (tt : Int) (s43 s44 s45 : Value) (wx : World) : Prop :=
  s44 = .int .i64 (xs.length + 1) ∧ s45 = .int .i64 0 ∧ OwnInts wx (w.heap.size + 2) s43 (xs ++ [tt]) ∧ Below w.heap.size w wx ∧ Blk wx (w.heap.size + 1) 29 #[.int .i64 0, .int .i64 0]

set_option maxRecDepth 100000 in
set_option maxHeartbeats 2000000 in
theorem rowCheck_any (A : Option Addr) (n c : Nat) (r : RowD) (m : Int) (qc qa : Int) (w : World) (hxs : IntsB w w.heap.size A n r.of_) (hI : I64 r.to_) (hn : n ≤ maxLen) (h0 : 0 ≤ m) (h1 : m ≤ 12) (hR : rowF r m = (qc, qa)) :
    Calls Try.prog 23 #[.agg #[.slice A n c, .int .i64 r.kind, .int .i64 r.to_], .int .i64 m] w fun e w' => e = .returned (.agg #[.int .i64 qc, .int .i64 qa]) ∧ Below w.heap.size w w' := by
  obtain ⟨xs, kind, tt⟩ := r
  unfold maxLen at hn
  simp only [rowF] at hR hxs hI ⊢
  have hlen := hxs.len
  rw [hlen] at hR
  by_cases hk : kind < 1 ∨ 3 < kind
  · rw [if_pos hk] at hR
    simp only [Prod.mk.injEq] at hR
    obtain ⟨rfl, rfl⟩ := hR
    have k1 : (kind != 1) = true := by rw [bne_iff_ne]; omega
    have k2 : (kind != 2) = true := by rw [bne_iff_ne]; omega
    have k3 : (kind != 3) = true := by rw [bne_iff_ne]; omega
    clear hk hxs hlen
    go_enter Try.func23, Try.ntmps23
    go_wp2_with fail
    refine bodyPost_ret (v := .agg #[.int .i64 4, .int .i64 0]) (by simp [results, Try.results23, go_sem]) rfl ⟨rfl, ?_⟩
    exact ((Below.refl _ _).alloc (Nat.le_refl _) _).alloc (by simp) _
  rw [if_neg hk] at hR
  have hk3 : kind = 1 ∨ kind = 2 ∨ kind = 3 := by omega
  clear hk
  by_cases hs : m < n
  · rw [if_pos hs] at hR
    simp only [Prod.mk.injEq] at hR
    obtain ⟨rfl, rfl⟩ := hR
    clear hxs hlen
    rcases hk3 with rfl | rfl | rfl
    all_goals
      go_enter Try.func23, Try.ntmps23
      go_wp2_with fail
      refine bodyPost_ret (v := .agg #[.int .i64 9, .int .i64 0]) (by simp [results, Try.results23, go_sem]) rfl ⟨rfl, ?_⟩
      exact ((Below.refl _ _).alloc (Nat.le_refl _) _).alloc (by simp) _
  rw [if_neg hs] at hR
  have HR := Lib.hid hR
  have hl2 := Lib.hid hlen
  obtain ⟨i0, hi0, hz0, hz1, hz2⟩ := info_parts infoInt
  have HI := Lib.hid (And.intro hi0 (And.intro hz0 (And.intro hz1 hz2)))
  clear hR hlen hi0 hz0 hz1 hz2
  have hkk : ((kind != 1) = false) ∨ ((kind != 1) = true ∧ (kind != 2) = false) ∨ ((kind != 1) = true ∧ (kind != 2) = true ∧ (kind != 3) = false) := by rcases hk3 with rfl | rfl | rfl <;> simp
  have hnm : n ≤ 12 := by omega
  clear hk3
  rcases hkk with k1 | ⟨k1, k2⟩ | ⟨k1, k2, k3⟩
  all_goals
    go_enter Try.func23, Try.ntmps23
    go_upto_region 7 with fail
    go_cut [43, 44, 45] (fun s43 s44 s45 wx => RowCut w xs tt s43 s44 s45 wx)
    case first =>
      obtain ⟨hb0, hbk, hbf, hs0⟩ := two_boxes w 33 29 #[.slice A n c, .int .i64 kind, .int .i64 tt] #[.int .i64 0, .int .i64 0]
      have hx0 := hxs.below stays_int hb0 (Nat.le_trans (Nat.le_succ _) (Nat.le_of_eq hs0.symm) |> fun h => Nat.le_trans (by omega) h)
      generalize (w.alloc (.cells #[.slice A n c, .int .i64 kind, .int .i64 tt] 33)).alloc (.cells #[.int .i64 0, .int .i64 0] 29) = W at hb0 hbk hbf hs0 hx0 ⊢
      have hz0 : w.heap.size + 1 < W.heap.size := by omega
      have hl3 : xs.length ≤ 12 := by have := hl2.out; omega
      have c0 : W.cell? ⟨w.heap.size, 0, none⟩ = some (.slice A n c) := hbk.cell 0
      have c2 : W.cell? ⟨w.heap.size, 2, none⟩ = some (.int .i64 tt) := hbk.cell 2
      have hx1 : IntsB W.drew W.heap.size A n xs := Arr.drew stays_int hx0
      have hx2 : IntsB (W.alloc (.cells #[.int .i64 tt] 3)).drew (W.alloc (.cells #[.int .i64 tt] 3)).heap.size A n xs := Arr.drew stays_int (ArrB.below hx0 stays_int ((Below.refl W.heap.size W).alloc (Nat.le_refl _) _) (by simp))
      have HX1 := Lib.hid hx1
      have HX2 := Lib.hid hx2
      have HW := Lib.hid (And.intro hb0 (And.intro hbf hs0))
      clear hx0 hx1 hx2 hb0 hbf hbk hs0 hxs HR
      go_region_held3 (fun w' => w'.cell? ⟨w.heap.size, 0, none⟩ = some (.slice A n c) ∧ w'.cell? ⟨w.heap.size, 2, none⟩ = some (.int .i64 tt))
        (go_keep)
        (first
          | (go_simp
             go_at_call 37
             refine (cloneInts_any A n c xs _ ?_ ?_).mono ?_
             · first | exact HX1.out | exact HX2.out
             · omega
             rintro e w1 ⟨v, rfl, hown, hb1⟩
             have hz1 : W.heap.size ≤ w1.heap.size := by have := hb1.size; simp at this; omega
             have hk1 : w1.cell? ⟨w.heap.size, 0, none⟩ = some (.slice A n c) := by rw [hb1.cell (p := ⟨w.heap.size, 0, none⟩) (by simp; omega)]; simp [*]
             have hk2 : w1.cell? ⟨w.heap.size, 2, none⟩ = some (.int .i64 tt) := by rw [hb1.cell (p := ⟨w.heap.size, 2, none⟩) (by simp; omega)]; simp [*])
          | (refine step_append_lies _ (by rfl) _ _ _ (by rfl) (W.heap.size) 3 i0 _ 1 8 Try.underlying31 HI.out.1 HI.out.2.1 HI.out.2.2.1 HI.out.2.2.2 rfl (by omega) v xs.length (xs.map (.int .i64)) (by rfl) ?_ ⟨w1.heap.size, 0, none⟩ 1 1 [.int .i64 tt] (by rfl) (by rfl) ?_ ?_ (by omega) ?_ (by omega) ?_ _ (by rfl) ?_
             · exact hown.1.alloc _
             · exact cell_one_new w1 _ _
             · simp [Value.oneCell']
             · unfold maxLen; omega
             · simp; omega
             intro gg cp w2 hown2 hgrow hat hlt2
             have hk3 : w2.cell? ⟨w.heap.size, 0, none⟩ = some (.slice A n c) := by rw [only_cell hgrow (by first | omega | (simp; omega)) (fun e => by have := owns_ge hown.1 _ e; simp at this; omega)]; simp [*]
             have hk4 : w2.cell? ⟨w.heap.size, 2, none⟩ = some (.int .i64 tt) := by rw [only_cell hgrow (by first | omega | (simp; omega)) (fun e => by have := owns_ge hown.1 _ e; simp at this; omega)]; simp [*])
          | (refine step_append_lies _ (by rfl) _ _ _ (by rfl) (W.heap.size + 1) 3 i0 _ 1 8 Try.underlying31 HI.out.1 HI.out.2.1 HI.out.2.2.1 HI.out.2.2.2 rfl (by omega) v xs.length (xs.map (.int .i64)) (by rfl) ?_ ⟨W.heap.size, 0, none⟩ 1 1 [.int .i64 tt] (by rfl) (by rfl) ?_ ?_ (by omega) ?_ (by omega) ?_ _ (by rfl) ?_
             · exact owns_base hown.1 (by simp)
             · exact (fun j u hu => by rw [hb1.cell (p := (⟨W.heap.size, 0, none⟩ : Addr).add j) (by rw [Go.WideShapes.add_plain]; simp)]; exact cell_one_new W _ _ j u hu)
             · simp [Value.oneCell']
             · unfold maxLen; omega
             · (have := hb1.size; simp at this; omega)
             intro gg cp w2 hown2 hgrow hat hlt2
             have hk3 : w2.cell? ⟨w.heap.size, 0, none⟩ = some (.slice A n c) := by rw [only_cell hgrow (by first | omega | (simp; omega)) (fun e => by have := owns_ge hown.1 _ e; simp at this; omega)]; simp [*]
             have hk4 : w2.cell? ⟨w.heap.size, 2, none⟩ = some (.int .i64 tt) := by rw [only_cell hgrow (by first | omega | (simp; omega)) (fun e => by have := owns_ge hown.1 _ e; simp at this; omega)]; simp [*])
          | fail)
      all_goals
        obtain ⟨hb0, hbf, hs0⟩ := HW.out
        have hi6 := ints_i64 HX1.out
        have hbw : Below W.heap.size W w2 := by
          first
            | exact below_then ((below_of_drew hb1).alloc hz1 _) hgrow (by simp; omega) (fun x hx => (owns_ge hown.1 x hx).1)
            | exact below_then (((Below.refl W.heap.size W).alloc (Nat.le_refl _) _).trans ((below_of_drew hb1).mono (by simp))) hgrow (by omega) (fun x hx => by have := (owns_ge hown.1 x hx).1; simp at this; omega)
        have hfin : OwnInts w2 (w.heap.size + 2) (.slice (some ⟨gg, 0, none⟩) (xs.length + 1) cp) (xs ++ [tt]) := by
          refine ⟨?_, fun x hx => ?_⟩
          · have := owns_base (base' := w.heap.size + 2) hown2 (by omega)
            simpa using this
          · rcases List.mem_append.1 hx with h | h
            · exact hi6 x h
            · obtain rfl : x = tt := by simpa using h
              exact hI
        have HF := Lib.hid (And.intro hfin (And.intro (hb0.trans (hbw.mono (by omega))) (hbf.below hbw hz0)))
        clear hfin hbw hb0 hbf hs0 hi6 hown2 hgrow hat hlt2 hown hb1
        go_wp2_with fail
        go_meet
        exact ⟨by go_num, rfl, HF.out.1, HF.out.2.1, HF.out.2.2⟩
    case rest =>
      obtain ⟨rfl, rfl, hown, hbel0, hbf0⟩ := hcut
      obtain ⟨A2, c2, hv, hcl, hcm, hrd⟩ := hown.reads
      rw [hv]
      have hl5 : (xs ++ [tt]).length = xs.length + 1 := by simp
      rw [hl5] at hcl hrd ⊢
      have hl3 : xs.length ≤ 12 := by have := hl2.out; omega
      have HRD := Lib.hid hrd
      have HL5 := Lib.hid hl5
      have HO := Lib.hid hown
      clear hv hrd hl5 hown hxs
      have hz2 : w.heap.size + 1 < wc.heap.size := hbf0.lt
      have d0 : wc.cell? ⟨w.heap.size + 1, 0, none⟩ = some (.int .i64 0) := hbf0.cell 0
      have d1 : wc.cell? ⟨w.heap.size + 1, 1, none⟩ = some (.int .i64 0) := hbf0.cell 1
      have d2 : wc.frozen? ⟨w.heap.size + 1, 0, none⟩ = false := hbf0.frozen 0
      have d3 : wc.frozen? ⟨w.heap.size + 1, 1, none⟩ = false := hbf0.frozen 1
      generalize hys : xs ++ [tt] = ys at HR HRD HL5
      have hfinal : ∀ q : Int, Below w.heap.size w ((wc.setCell ⟨w.heap.size + 1, 0, none⟩ (.int .i64 3)).setCell ⟨w.heap.size + 1, 1, none⟩ (.int .i64 q)) := fun q => (hbel0.setCell (p := ⟨w.heap.size + 1, 0, none⟩) (by simp) _).setCell (p := ⟨w.heap.size + 1, 1, none⟩) (by simp) _
      have hfinal0 : Below w.heap.size w ((wc.setCell ⟨w.heap.size + 1, 0, none⟩ (.int .i64 0)).setCell ⟨w.heap.size + 1, 1, none⟩ (.int .i64 0)) := (hbel0.setCell (p := ⟨w.heap.size + 1, 0, none⟩) (by simp) _).setCell (p := ⟨w.heap.size + 1, 1, none⟩) (by simp) _
      have HFI := Lib.hid hfinal
      have HF0 := Lib.hid hfinal0
      clear hys HO hfinal hfinal0 hbel0 hbf0
      go_wp2_with fail
      go_loop [45] (fun s => ∃ k : Nat, k ≤ xs.length + 1 ∧ s = .int .i64 k ∧ Hid (firstBad (fun x _ => wholeC x) (ys.drop k) k = (qc, qa))) (fun s => xs.length + 1 - (intOf s).toNat)
      case atStart => exact ⟨0, Nat.zero_le _, rfl, HR⟩
      case round =>
        obtain ⟨k, hk, rfl, HK⟩ := hrel
        by_cases hlt : k < xs.length + 1
        · obtain ⟨b, off, hx, rfl, _, hcell, _⟩ := HRD.out.get hlt
          rw [Nat.mul_one] at hcell
          have e1 := HK.out
          rw [drop_cons hx] at e1
          obtain ⟨en, eb⟩ := firstBad_cons e1
          generalize ys[k] = y at hcell en eb
          have EN := Lib.hid en
          have EB := Lib.hid eb
          have hlt2 : (k : Int) < (xs.length : Int) + 1 := by omega
          clear e1 en eb HK
          cases hq : wholeB y with
          | true =>
            have H1 := Lib.hid (EN.out (by simp [wholeC, hq]))
            have HQ := Lib.hid hq
            clear hq EN EB
            go_wp2_with fail
            refine (whole_any _ _).mono ?_
            rintro e w' ⟨rfl, rfl⟩
            rw [HQ.out]
            go_wp2_with fail
            go_round
            case rel => exact ⟨k + 1, by omega, by go_num, by show _ = _; rw [Int.natCast_add]; exact H1.out⟩
            case measure => simp [intOf]; omega
          | false =>
            have e3 := EB.out (by simp [wholeC, hq])
            rw [show wholeC y = 3 from by simp [wholeC, hq]] at e3
            obtain ⟨rfl, rfl⟩ := e3
            have HQ := Lib.hid hq
            clear hq EN EB
            go_wp2_with fail
            refine (whole_any _ _).mono ?_
            rintro e w' ⟨rfl, rfl⟩
            rw [HQ.out]
            go_wp2_with fail
            refine bodyPost_ret (v := .agg #[.int .i64 3, .int .i64 k]) (by simp [results, Try.results23, go_sem, d0, d1]) rfl ⟨rfl, ?_⟩
            exact HFI.out _
        · obtain rfl : k = xs.length + 1 := by omega
          have e1 := HK.out
          rw [List.drop_of_length_le (by have := HL5.out; omega), firstBad] at e1
          simp only [Prod.mk.injEq] at e1
          obtain ⟨rfl, rfl⟩ := e1
          clear HK
          go_wp2_with fail
          refine bodyPost_ret (v := .agg #[.int .i64 0, .int .i64 0]) (by simp [results, Try.results23, go_sem, d0, d1]) rfl ⟨rfl, ?_⟩
          exact HF0.out
end Go.Proofs.Ytdncchlfeanlmaa
namespace Go.Proofs.Ytdncchlfeanlmaa
open Go.RowKit

/-- the code alone -/
def rowCode (r : RowD) (m : Int) : Int := (rowF r m).1
theorem wholeC_ne {x : Int} (h : ¬ (-1000000 ≤ x ∧ x ≤ 1000000)) : wholeC x = 3 := by simp [wholeC, wholeB, h]
theorem wholeC_eq {x : Int} (h : -1000000 ≤ x ∧ x ≤ 1000000) : wholeC x = 0 := by simp [wholeC, wholeB, h]
theorem first_whole : ∀ (l : List Int) (i : Int), (firstBad (fun x _ => wholeC x) l i).1 = if l.all wholeB then 0 else 3
  | [], i => rfl
  | x :: r, i => by
    have ih := first_whole r (i + 1)
    rw [firstBad]
    by_cases h : -1000000 ≤ x ∧ x ≤ 1000000
    · rw [if_pos (wholeC_eq h), ih]
      simp [wholeB, h]
    · rw [wholeC_ne h, if_neg (by omega)]
      simp [wholeB, h]
theorem rowCode_kind {xs : List Int} {k t m : Int} (h : k < 1 ∨ 3 < k) : rowCode ⟨xs, k, t⟩ m = 4 := by simp [rowCode, rowF, h]
theorem rowCode_size {xs : List Int} {k t m : Int} (h : ¬ (k < 1 ∨ 3 < k)) (h2 : m < xs.length) : rowCode ⟨xs, k, t⟩ m = 9 := by
  simp only [rowCode, rowF]; rw [if_neg h, if_pos h2]
theorem rowCode_rest {xs : List Int} {k t m : Int} (h : ¬ (k < 1 ∨ 3 < k)) (h2 : ¬ m < xs.length) : rowCode ⟨xs, k, t⟩ m = if xs.all wholeB && wholeB t then 0 else 3 := by
  simp only [rowCode, rowF]; rw [if_neg h, if_neg h2, first_whole]; simp

set_option maxRecDepth 100000 in
set_option maxHeartbeats 2000000 in
theorem rowFault_any (A : Option Addr) (n c : Nat) (r : RowD) (m : Int) (R : Int) (w : World) (hxs : IntsB w w.heap.size A n r.of_) (hn : n ≤ maxLen) (h0 : 0 ≤ m) (h1 : m ≤ 12) (hR : rowCode r m = R) :
    Calls Try.prog 15 #[.agg #[.slice A n c, .int .i64 r.kind, .int .i64 r.to_], .int .i64 m] w fun e w' => e = .returned (.int .i64 R) ∧ Below w.heap.size w w' := by
  obtain ⟨xs, kind, tt⟩ := r
  unfold maxLen at hn
  simp only at hxs hR ⊢
  have hlen := hxs.len
  by_cases hk1 : kind < 1
  · rw [rowCode_kind (.inl hk1)] at hR
    subst hR
    clear hxs hlen
    go_enter Try.func15, Try.ntmps15
    go_wp2_with fail
    go_ret
    exact ⟨rfl, (Below.refl _ _).alloc (Nat.le_refl _) _⟩
  by_cases hk2 : 3 < kind
  · rw [rowCode_kind (.inr hk2)] at hR
    subst hR
    clear hxs hlen
    go_enter Try.func15, Try.ntmps15
    go_wp2_with fail
    go_ret
    exact ⟨rfl, (Below.refl _ _).alloc (Nat.le_refl _) _⟩
  by_cases hs : m < n
  · rw [rowCode_size (by omega) (by omega)] at hR
    subst hR
    clear hxs hlen
    go_enter Try.func15, Try.ntmps15
    go_wp2_with fail
    go_ret
    exact ⟨rfl, (Below.refl _ _).alloc (Nat.le_refl _) _⟩
  rw [rowCode_rest (by omega) (by omega)] at hR
  have HR := Lib.hid hR
  have HL := Lib.hid hlen
  have hnm : n ≤ 12 := by omega
  have hbel : Below w.heap.size w (w.alloc (.cells #[.slice A n c, .int .i64 kind, .int .i64 tt] 33)) := (Below.refl _ _).alloc (Nat.le_refl _) _
  have hx1 : IntsB (w.alloc (.cells #[.slice A n c, .int .i64 kind, .int .i64 tt] 33)) w.heap.size A n xs := hxs.alloc stays_int (Nat.le_refl _) _
  have HX := Lib.hid hx1
  have HB := Lib.hid hbel
  clear hR hlen hxs hx1 hbel
  go_enter Try.func15, Try.ntmps15
  go_wp2_with fail
  go_loop [5] (fun s => ∃ k : Nat, k ≤ n ∧ s = .int .i64 k ∧ Hid ((xs.take k).all wholeB = true)) (fun s => n - (intOf s).toNat)
  case atStart => exact ⟨0, Nat.zero_le _, rfl, rfl⟩
  case round =>
    obtain ⟨k, hk, rfl, HK⟩ := hrel
    by_cases hlt : k < n
    · obtain ⟨b, off, hx, rfl, hb, hcell, hlo, hhi⟩ := ints_get HX.out hlt
      have hts := take_snoc_l hx
      have hmem : xs[k] ∈ xs := List.getElem_mem hx
      generalize xs[k] = y at hts hcell hlo hhi hmem
      have hcw : w.cell? ⟨b, off + k, none⟩ = some (.int .i64 y) := by rwa [World.cell?_alloc_lt _ _ _ hb] at hcell
      have HT := Lib.hid hts
      have HM := Lib.hid hmem
      clear hts hmem hcell
      by_cases hq1 : 1000000 < y
      · have e1 : R = 3 := by
          rw [← HR.out, if_neg]
          intro h
          simp only [Bool.and_eq_true, List.all_eq_true] at h
          have := h.1 y HM.out
          simp only [wholeB, decide_eq_true_eq] at this
          omega
        subst e1
        go_wp2_with fail
        go_ret
        exact ⟨rfl, HB.out⟩
      by_cases hq2 : y < -1000000
      · have e1 : R = 3 := by
          rw [← HR.out, if_neg]
          intro h
          simp only [Bool.and_eq_true, List.all_eq_true] at h
          have := h.1 y HM.out
          simp only [wholeB, decide_eq_true_eq] at this
          omega
        subst e1
        go_wp2_with fail
        go_ret
        exact ⟨rfl, HB.out⟩
      go_wp2_with fail
      go_round
      case rel => exact ⟨k + 1, by omega, by go_num, by show _ = _; rw [HT.out, List.all_append, HK.out]; simp [wholeB]; omega⟩
      case measure => simp [intOf]; omega
    · obtain rfl : k = n := by omega
      have e2 := HK.out
      rw [List.take_of_length_le (by have := HL.out; omega)] at e2
      have e3 := HR.out
      rw [e2, Bool.true_and] at e3
      clear HK e2 HR HX
      by_cases hq1 : 1000000 < tt
      · rw [if_neg (by simp [wholeB]; omega)] at e3
        subst e3
        go_wp2_with fail
        go_ret
        exact ⟨rfl, HB.out⟩
      by_cases hq2 : tt < -1000000
      · rw [if_neg (by simp [wholeB]; omega)] at e3
        subst e3
        go_wp2_with fail
        go_ret
        exact ⟨rfl, HB.out⟩
      rw [if_pos (by simp [wholeB]; omega)] at e3
      subst e3
      go_wp2_with fail
      go_ret
      exact ⟨rfl, HB.out⟩
end Go.Proofs.Ytdncchlfeanlmaa
