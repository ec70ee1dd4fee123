/- Walks: propagation over clauses: the run; whether a clause falls. -/
import Derived.Test.YtdncchlfeanlmaaJuMV
import Derived.Deep.LoopGhost
namespace Go.Proofs.Ytdncchlfeanlmaa
open Go.RowKit

/-- clauses as they may stand: not too long, their literals small -/
def Tame (C : List (List Int)) : Prop := ∀ c ∈ C, c.length ≤ 1000 ∧ ∀ x ∈ c, -1000000 ≤ x ∧ x ≤ 1000000
theorem stateF_mem {T : Int → Bool} : ∀ (c : List Int) (o : Int), (stateF T c o).2 = 0 ∨ (stateF T c o).2 = o ∨ (stateF T c o).2 ∈ c
  | [], o => .inr (.inl rfl)
  | x :: r, o => by
    rw [stateF]
    split
    · rcases stateF_mem (T := T) r o with h | h | h
      · exact .inl h
      · exact .inr (.inl h)
      · exact .inr (.inr (List.mem_cons_of_mem _ h))
    · split
      · exact .inl rfl
      · rcases stateF_mem (T := T) r x with h | h | h
        · exact .inl h
        · rw [h]; exact .inr (.inr (List.mem_cons_self ..))
        · exact .inr (.inr (List.mem_cons_of_mem _ h))
theorem state_range {T : Int → Bool} {c : List Int} (h : ∀ x ∈ c, -1000000 ≤ x ∧ x ≤ 1000000) : -1000000 ≤ (stateF T c 0).2 ∧ (stateF T c 0).2 ≤ 1000000 := by
  rcases stateF_mem (T := T) c 0 with e | e | e
  · rw [e]; omega
  · rw [e]; omega
  · exact h _ e

set_option maxRecDepth 100000 in
set_option maxHeartbeats 4000000 in
theorem trun_any (B G M : Nat) (A : Option Addr) (n c : Nat) (v2 v3 : Value) (C : List (List Int)) (T Y : List Int) (w : World) (hs : B ≤ w.heap.size) (h : Trail w B G M (.slice A n c) v2 v3 T Y) (hC : ArrB (AtArr AtInt 1) 1 w B A n C) (hn : n ≤ 1000000)
    (hcl : ∀ c ∈ C, CleanC c) (ht : Tame C) (hT : T.length ≤ 1000) (hN : C.flatten.length ≤ 1000000) :
    Calls Try.prog 59 #[.pointer (some ⟨G, 0, none⟩)] w fun e w' => (∃ r : Int, e = .returned (.int .i64 r) ∧ (0 ≤ r ↔ Clash C T)) ∧ Below B w w' := by
  have HC := Lib.hid hC
  have HT := Lib.hid ht
  have HCL := Lib.hid hcl
  have HS := Lib.hid hs
  have HRun := Lib.hid (runF_clash hcl (openN C T + 1) T (Nat.lt_succ_self _))
  obtain ⟨R, hR⟩ : ∃ R, runF C (openN C T + 1) T = R := ⟨_, rfl⟩
  have hop : openN C T ≤ C.flatten.length := List.length_filter_le _ _
  have HR := Lib.hid hR
  suffices hh : Calls Try.prog 59 #[.pointer (some ⟨G, 0, none⟩)] w fun e w' => e = .returned (.int .i64 R) ∧ Below B w w' from
    hh.mono fun e w' ⟨h1, h2⟩ => ⟨⟨R, h1, by rw [← HR.out]; exact HRun.out⟩, h2⟩
  have H0 : Hid (Trail w B G M (.slice A n c) v2 v3 T Y ∧ openN C T < openN C T + 1 ∧ runF C (openN C T + 1) T = R ∧ T.length + openN C T ≤ 1001000 ∧ Below B w w) := ⟨h, Nat.lt_succ_self _, hR, by omega, Below.refl _ _⟩
  have hGl := h.blk.lt
  clear HRun HR h hC hcl ht hT hN hR hop hs
  go_enter Try.func59, Try.ntmps59
  go_wp2_with fail
  go_loopg [3] (openN C T + 1) (fun k s3 wr => ∃ (T Y : List Int) (v2 v3 : Value), s3 = s3 ∧ Hid (Trail wr B G M (.slice A n c) v2 v3 T Y ∧ openN C T < k ∧ runF C k T = R ∧ T.length + openN C T ≤ 1001000 ∧ Below B w wr))
  case atStart => exact ⟨T, Y, v2, v3, rfl, H0⟩
  case round =>
    clear H0
    obtain ⟨T, Y, v2, v3, -, HK⟩ := hrel
    obtain ⟨wo, rfl⟩ : ∃ wo : World, wo = wr := ⟨_, rfl⟩
    obtain ⟨m, rfl⟩ : ∃ m, gk = m + 1 := ⟨gk - 1, by have := HK.out.2.1; omega⟩
    have c0 : wo.cell? ⟨G, 0, none⟩ = some (.slice A n c) := HK.out.1.blk.cell 0
    have c3 : wo.cell? ⟨G, 3, none⟩ = some (.map (some M)) := HK.out.1.blk.cell 3
    obtain ⟨a, b, hab⟩ : ∃ a b, scanF (hasT T) C 0 (-1) = (a, b) := ⟨_, _, rfl⟩
    have hspec := scanF_spec (T := hasT T) C 0 (-1) (Int.le_refl _) (.inl (by decide))
    have hstep := scan_step HCL.out T
    have hrun := HK.out.2.2.1
    rw [runF] at hrun
    rw [hab] at hspec hstep hrun
    have HAB := Lib.hid hab
    have HF := Lib.hid (And.intro hstep (And.intro hrun (And.intro HK hspec)))
    have HCW : Hid (ArrB (AtArr AtInt 1) 1 wo B A n C) := HC.out.below (stays_arr stays_int) HK.out.2.2.2.2 (Nat.le_refl _)
    have HST : Hid (∀ (A' : Option Addr) (n' c' : Nat) (y : List Int), y ∈ C → IntsB wo B A' n' y → Calls Try.prog 72 #[.pointer (some ⟨G, 0, none⟩), .slice A' n' c'] wo fun e w' => e = .returned (.tuple #[.bool (stateF (hasT T) y 0).1, .int .i64 (stateF (hasT T) y 0).2]) ∧ wo = w') := fun A' n' c' y hy har =>
      tstate_any G M T.length T A' n' c' y _ _ wo c3 HK.out.1.tm (har.below stays_int (Below.refl _ _) (by have := HS.out; have := HK.out.2.2.2.2.size; omega)) (by have := (HT.out y hy).1; rw [har.len] at this; omega) (HT.out y hy).2 rfl
    have hnI : n ≤ 1000000 := by assumption
    clear hab hspec hstep hrun HK
    go_wp2_with fail
    go_loopw [3, 15] (fun s3 s15 w' => ∃ (j : Nat) (first : Int), s15 = .int .i64 (j : Int) ∧ s3 = .int .i64 first ∧ j ≤ n ∧ I64 first ∧ w' = wo ∧ Hid (scanF (hasT T) (C.drop j) j first = (a, b))) (fun _ s15 _ => n - (intOf s15).toNat)
    case atStart => exact ⟨0, -1, rfl, rfl, Nat.zero_le _, ⟨by omega, by omega⟩, rfl, HAB⟩
    case round =>
      obtain ⟨j, first, rfl, rfl, hj, hI, rfl, HJ⟩ := hrel
      by_cases hlt : j < n
      · have hltI : (j : Int) < (n : Int) := by omega
        obtain ⟨b2, off, hx, A', n', c', rfl, hb2, hcell, hnc, hcm, har⟩ := arrs_get HCW.out hlt
        have hcall := HST.out A' n' c' _ (List.getElem_mem hx) har
        have e1 := HJ.out
        rw [drop_cons hx, scanF] at e1
        generalize C[j] = y at hcall e1 har
        obtain ⟨no, l, hnl⟩ : ∃ no l, stateF (hasT T) y 0 = (no, l) := ⟨_, _, rfl⟩
        rw [hnl] at hcall e1
        have HCA := Lib.hid hcall
        clear hcall hnl HJ har
        cases no with
        | true =>
          rw [if_pos rfl] at e1
          simp only [Prod.mk.injEq] at e1
          obtain ⟨rfl, rfl⟩ := e1
          go_wp2_with fail
          refine HCA.out.mono ?_
          rintro e w9 ⟨rfl, rfl⟩
          go_wp2_with fail
          go_ret
          have h1 := HF.out.2.1
          rw [if_pos (by simp)] at h1
          exact ⟨ret_int h1, HF.out.2.2.1.out.2.2.2.2⟩
        | false =>
          rw [if_neg (by simp)] at e1
          by_cases hl : l = 0
          · subst hl
            rw [if_neg (by simp)] at e1
            have HE := Lib.hid e1
            clear e1
            go_wp2_with fail
            refine HCA.out.mono ?_
            rintro e w9 ⟨rfl, rfl⟩
            go_wp2_with fail
            go_roundw
            case rel => exact ⟨j + 1, first, by go_num, rfl, by omega, hI, trivial, by show _ = _; rw [Int.natCast_add]; exact HE.out⟩
            case measure => simp [intOf]; omega
          · have hlb : (l != 0) = true := by simpa using hl
            by_cases hf : first < 0
            · rw [if_pos ⟨hl, hf⟩] at e1
              have HE := Lib.hid e1
              clear e1 hl
              go_wp2_with fail
              refine HCA.out.mono ?_
              rintro e w9 ⟨rfl, rfl⟩
              go_wp2_with fail
              go_roundw
              case rel => exact ⟨j + 1, (j : Int), by go_num, rfl, by omega, ⟨by omega, by omega⟩, trivial, by show _ = _; rw [Int.natCast_add]; exact HE.out⟩
              case measure => simp [intOf]; omega
            · rw [if_neg (fun h => hf h.2)] at e1
              have HE := Lib.hid e1
              clear e1 hl
              go_wp2_with fail
              refine HCA.out.mono ?_
              rintro e w9 ⟨rfl, rfl⟩
              go_wp2_with fail
              go_roundw
              case rel => exact ⟨j + 1, first, by go_num, rfl, by omega, hI, trivial, by show _ = _; rw [Int.natCast_add]; exact HE.out⟩
              case measure => simp [intOf]; omega
      · have hltI : ¬ (j : Int) < (n : Int) := by omega
        have e1 := HJ.out
        rw [List.drop_of_length_le (by have := HCW.out.len; omega), scanF] at e1
        simp only [Prod.mk.injEq] at e1
        obtain ⟨rfl, rfl⟩ := e1
        clear HJ
        by_cases hf : first < 0
        · go_wp2_with fail
          go_ret
          have h1 := HF.out.2.1
          rw [if_neg (by simp), if_pos hf] at h1
          exact ⟨ret_int h1, HF.out.2.2.1.out.2.2.2.2⟩
        · have hst := HF.out.1
          obtain ⟨k, y, hk, hfk, hl0, hlf, hlh⟩ : ∃ (k : Nat) (y : List Int), C[k]? = some y ∧ first = k ∧ ¬ (stateF (hasT T) y 0).2 = 0 ∧ (stateF (hasT T) y 0).2 ∈ C.flatten ∧ hasT T (stateF (hasT T) y 0).2 = false := by
            rcases hst with ⟨h1, -⟩ | ⟨-, h1, -⟩ | ⟨-, k, y, h1, h2, h3, h4, h5, -⟩
            · exact absurd h1 (by simp)
            · exact absurd h1 hf
            · exact ⟨k, y, h1, h2, h3, h4, h5⟩
          clear hst
          subst hfk
          have hkn : k < C.length := (List.getElem?_eq_some_iff.1 hk).1
          have hkn' : k < n := by have := HCW.out.len; omega
          have hkI : (k : Int) < (n : Int) := by omega
          obtain ⟨b2, off, hx, A', n', c', rfl, hb2, hcell, hnc, hcm, har⟩ := arrs_get HCW.out hkn'
          have hyk : C[k] = y := by rw [List.getElem?_eq_getElem hkn] at hk; exact Option.some.inj hk
          rw [hyk] at har
          have hym : y ∈ C := List.mem_of_getElem? hk
          have hcall := HST.out A' n' c' y hym har
          have hrun := HF.out.2.1
          rw [if_neg (by simp), if_neg hf, Int.toNat_natCast, List.getD_eq_getElem?_getD, hk, Option.getD_some] at hrun
          have hrng := state_range (T := hasT T) (HT.out y hym).2
          obtain ⟨no, l, hnl⟩ : ∃ no l, stateF (hasT T) y 0 = (no, l) := ⟨_, _, rfl⟩
          rw [hnl] at hcall hl0 hlf hlh hrun hrng
          have hK := HF.out.2.2.1.out
          have hless := openN_less hlf hlh
          have HADD := Lib.hid (tadd_any B G M _ v2 v3 T Y l (k : Int) wr hK.1 ⟨by omega, by omega⟩ ⟨by omega, by omega⟩ (by have := hK.2.2.2.1; omega))
          have HCA := Lib.hid hcall
          have HX := Lib.hid (And.intro hless (And.intro hrun hK))
          clear hcall hrun hnl hl0 hlf hlh hrng hK hless hyk hk hkn hym har
          go_wp2_with fail
          refine HCA.out.mono ?_
          rintro e w9 ⟨rfl, rfl⟩
          go_wp2_with fail
          refine HADD.out.mono ?_
          rintro e w9 ⟨rfl, hadd, hbel⟩
          have HB9 := Lib.hid (And.intro hadd hbel)
          clear hadd hbel
          go_wp2_with fail
          go_roundg m
          case measure => omega
          case rel =>
            obtain ⟨⟨u2, u3, htr⟩, hbel⟩ := HB9.out
            obtain ⟨hless, hrun, hK⟩ := HX.out
            exact ⟨T ++ [l], Y ++ [(k : Int)], u2, u3, trivial, htr, by have := hK.2.1; omega, hrun, by have := hK.2.2.2.1; simp; omega, hK.2.2.2.2.trans hbel⟩

def NegP (xs : List Int) (w : World) (e : Ending) (w' : World) : Prop := ∃ v, e = .returned v ∧ OwnT w' w.heap.size v (xs.map fun x => -x) ∧ Below w.heap.size w w'
set_option maxRecDepth 100000 in
set_option maxHeartbeats 2000000 in
theorem negated_any (A : Option Addr) (n c : Nat) (xs : List Int) (w : World) (hxs : IntsB w w.heap.size A n xs) (hn : n ≤ 1000) (hr : ∀ x ∈ xs, -1000000 ≤ x ∧ x ≤ 1000000) :
    Calls Try.prog 43 #[.slice A n c] w (NegP xs w) := by
  have HXS := Lib.hid hxs
  have HR := Lib.hid hr
  clear hxs hr
  go_enter Try.func43, Try.ntmps43
  go_wp2_with fail
  go_loopw [3, 8] (fun s3 s8 wr => ∃ (j : Nat), s8 = .int .i64 (j : Int) ∧ j ≤ n ∧ Hid (OwnT wr w.heap.size s3 ((xs.take j).map fun x => -x) ∧ Below w.heap.size w wr)) (fun _ s8 _ => n - (intOf s8).toNat)
  case atStart => exact ⟨0, rfl, Nat.zero_le _, OwnV.none_ _ _ _ _ _ _, Below.refl _ _⟩
  case round =>
    obtain ⟨j, rfl, hj, HO⟩ := hrel
    obtain ⟨A3, c3, rfl, hc3, hc3m⟩ := HO.out.1.len
    unfold maxLen at hc3m
    by_cases hlt : j < n
    · have hltI : (j : Int) < (n : Int) := by omega
      obtain ⟨b, off, hx, rfl, hb, hcell, hlo, hhi⟩ := ints_get (HXS.out.below stays_int HO.out.2 (Nat.le_refl _)) hlt
      have hrg := HR.out _ (List.getElem_mem hx)
      have hts := take_snoc_l hx
      generalize xs[j] = y at hcell hrg hts hlo hhi
      have HT := Lib.hid hts
      clear hts hlo hhi
      have hlj : ((xs.take j).map fun x => -x).length = j := by simp; omega
      have HLJ := Lib.hid hlj
      clear hlj
      have hba : Below wr.heap.size wr (wr.alloc (.cells #[.int .i64 (-y)] 3)) := (Below.refl _ _).alloc (Nat.le_refl _) _
      have hbn := Blk.new wr 3 #[.int .i64 (-y)]
      have hz : w.heap.size ≤ wr.heap.size := HO.out.2.size
      have HN := Lib.hid (And.intro hbn (And.intro (own_later HO.out.1 (only_of_below hba none) (by cases A3 <;> simp [Value.ownBlock])) (HO.out.2.trans (hba.mono hz))))
      clear hba hbn
      go_wp2_with (at_builtin; refine wpList_append_item rfl _ _ _ rfl rowInts tells_int (base := w.heap.size) (S := fun _ => False) rfl HN.out.2.1 (g := wr.heap.size) (cs := #[.int .i64 (-y)]) rfl HN.out.1 (y := -y) ⟨rfl, by unfold I64; omega⟩ (fun b h => False.elim h) (by rw [HLJ.out]; unfold maxLen; omega) (by rw [HLJ.out]; omega) (by simp; omega) ?_; intro v' w6 hown6 hgrow6 hat6; have HB6 := Lib.hid (And.intro hown6 hgrow6); clear hown6 hgrow6 hat6)
      go_roundw
      case rel =>
        have hl := HN.out.2.1.lt
        refine ⟨j + 1, by go_num, by omega, ?_, below_then HN.out.2.2 HB6.out.2 (by simp; omega) (fun x hx => (hl x hx).1)⟩
        rw [HT.out, List.map_append]
        exact HB6.out.1
      case measure => simp [intOf]; omega
    · obtain rfl : j = n := by omega
      have hl := HXS.out.len
      obtain ⟨zs, hzs⟩ : ∃ zs, ((xs.take j).map fun x => -x) = zs := ⟨_, rfl⟩
      rw [hzs] at HO ⊢
      have hze : zs = xs.map fun x => -x := by rw [← hzs, List.take_of_length_le (by omega)]
      have HZ := Lib.hid hze
      clear hzs hl hze
      go_wp2_with fail
      go_ret
      exact ⟨_, rfl, by have := HO.out.1; rwa [HZ.out] at this ⊢, HO.out.2⟩

noncomputable def clashB (C : List (List Int)) (T : List Int) : Bool := @decide (Clash C T) (Classical.propDecidable _)
theorem clashB_iff {C : List (List Int)} {T : List Int} : clashB C T = true ↔ Clash C T := by unfold clashB; simp
theorem tape_new (w : World) (Cv : Value) : Trail ((w.alloc (.map #[] 0)).alloc (.cells #[Cv, .slice none 0 0, .slice none 0 0, .map (some w.heap.size)] 115)) w.heap.size (w.heap.size + 1) w.heap.size Cv (.slice none 0 0) (.slice none 0 0) [] [] :=
  ⟨by have := Blk.new (w.alloc (.map #[] 0)) 115 #[Cv, .slice none 0 0, .slice none 0 0, .map (some w.heap.size)]; rwa [World.size_alloc] at this, (TMap.made w).kept (only_alloc (only_refl _ none) _) (by simp), OwnV.none_ _ _ _ _ _ _, OwnV.none_ _ _ _ _ _ _, rfl, .inl rfl, by omega, Nat.le_refl _, ⟨by simp [Value.ownBlock], by simp [Value.ownBlock]⟩, ⟨by simp [Value.ownBlock], by simp [Value.ownBlock]⟩, by omega⟩
set_option maxRecDepth 100000 in
set_option maxHeartbeats 1000000 in
theorem tnew_any (A : Option Addr) (n c : Nat) (w : World) : Calls Try.prog 57 #[.slice A n c] w fun e w' => e = .returned (.pointer (some ⟨w.heap.size + 1, 0, none⟩)) ∧ (w.alloc (.map #[] 0)).alloc (.cells #[.slice A n c, .slice none 0 0, .slice none 0 0, .map (some w.heap.size)] 115) = w' := by
  have hmm := @run_makeMap Try.prog
  go_enter Try.func57, Try.ntmps57
  go_wp2_with fail
  go_ret
  exact ⟨rfl, rfl⟩
set_option maxRecDepth 100000 in
set_option maxHeartbeats 2000000 in
theorem assume_any (A : Option Addr) (n c : Nat) (C : List (List Int)) (A2 : Option Addr) (n2 c2 : Nat) (xs : List Int) (w : World) (hC : ArrB (AtArr AtInt 1) 1 w w.heap.size A n C) (hn : n ≤ 1000000) (hcl : ∀ c ∈ C, CleanC c) (ht : Tame C) (hN : C.flatten.length ≤ 1000000)
    (hxs : IntsB w w.heap.size A2 n2 xs) (hn2 : n2 ≤ 1000) :
    Calls Try.prog 42 #[.slice A n c, .slice A2 n2 c2] w fun e w' => (∃ (G : Nat) (r : Int), e = .returned (.tuple #[.pointer (some ⟨G, 0, none⟩), .int .i64 r]) ∧ (0 ≤ r ↔ Clash C xs)) ∧ Below w.heap.size w w' := by
  have HXS := Lib.hid hxs
  have HRUN : Hid (∀ (wr : World) (v2 v3 : Value) (Y : List Int), w.heap.size ≤ wr.heap.size → Below w.heap.size w wr → Trail wr w.heap.size (w.heap.size + 1) w.heap.size (.slice A n c) v2 v3 xs Y → Calls Try.prog 59 #[.pointer (some ⟨w.heap.size + 1, 0, none⟩)] wr fun e w' => (∃ r : Int, e = .returned (.int .i64 r) ∧ (0 ≤ r ↔ Clash C xs)) ∧ Below w.heap.size wr w') :=
    fun wr v2 v3 Y hz hb htr => trun_any w.heap.size (w.heap.size + 1) w.heap.size A n c v2 v3 C xs Y wr hz htr (hC.below (stays_arr stays_int) hb (Nat.le_refl _)) hn hcl ht (by have := hxs.len; omega) hN
  have HNEW : Hid (Trail ((w.alloc (.map #[] 0)).alloc (.cells #[.slice A n c, .slice none 0 0, .slice none 0 0, .map (some w.heap.size)] 115)) w.heap.size (w.heap.size + 1) w.heap.size (.slice A n c) (.slice none 0 0) (.slice none 0 0) [] [] ∧ Below w.heap.size w ((w.alloc (.map #[] 0)).alloc (.cells #[.slice A n c, .slice none 0 0, .slice none 0 0, .map (some w.heap.size)] 115))) := ⟨tape_new w _, ((Below.refl _ _).alloc (Nat.le_refl _) _).alloc (by simp) _⟩
  have hnx := hxs.len
  clear hC hn hcl ht hN hxs
  go_enter Try.func42, Try.ntmps42
  go_wp2_with fail
  refine (tnew_any A n c w).mono ?_
  rintro e w9 ⟨rfl, hw9⟩
  rw [hw9] at HNEW
  clear hw9
  go_wp2_with fail
  go_loopw [13] (fun s13 wr => ∃ (j : Nat) (v2 v3 : Value) (Y : List Int), s13 = .int .i64 (j : Int) ∧ j ≤ n2 ∧ Hid (Trail wr w.heap.size (w.heap.size + 1) w.heap.size (.slice A n c) v2 v3 (xs.take j) Y ∧ Below w.heap.size w wr)) (fun s13 _ => n2 - (intOf s13).toNat)
  case atStart => exact ⟨0, _, _, [], rfl, Nat.zero_le _, HNEW⟩
  case round =>
    clear HNEW
    obtain ⟨j, v2, v3, Y, rfl, hj, HT⟩ := hrel
    by_cases hlt : j < n2
    · have hltI : (j : Int) < (n2 : Int) := by omega
      obtain ⟨b, off, hx, rfl, hb, hcell, hlo, hhi⟩ := ints_get (HXS.out.below stays_int HT.out.2 (Nat.le_refl _)) hlt
      have hts := take_snoc_l hx
      generalize xs[j] = y at hcell hts hlo hhi
      have HADD := Lib.hid (tadd_any w.heap.size (w.heap.size + 1) w.heap.size _ v2 v3 (xs.take j) Y y (-1) wr HT.out.1 ⟨by omega, by omega⟩ ⟨by omega, by omega⟩ (by simp; omega))
      have HS := Lib.hid hts
      clear hts hlo hhi
      go_wp2_with fail
      refine HADD.out.mono ?_
      rintro e w9 ⟨rfl, hadd, hbel⟩
      have HB9 := Lib.hid (And.intro hadd hbel)
      clear hadd hbel
      go_wp2_with fail
      go_roundw
      case rel =>
        obtain ⟨⟨u2, u3, htr⟩, hbel⟩ := HB9.out
        exact ⟨j + 1, u2, u3, Y ++ [-1], by go_num, by omega, by rw [HS.out]; exact htr, HT.out.2.trans hbel⟩
      case measure => simp [intOf]; omega
    · obtain rfl : j = n2 := by omega
      have HR := Lib.hid (HRUN.out wr v2 v3 Y HT.out.2.size HT.out.2 (by have := HT.out.1; rwa [List.take_of_length_le (by omega)] at this))
      have HB := Lib.hid HT.out.2
      clear HRUN HT
      go_wp2_with fail
      refine HR.out.mono ?_
      rintro e w9 ⟨⟨r, rfl, hr⟩, hbel⟩
      have H9 := Lib.hid (And.intro hr hbel)
      clear hr hbel
      go_wp2_with fail
      go_ret2
      exact ⟨⟨_, r, rfl, H9.out.1⟩, HB.out.trans H9.out.2⟩

set_option maxRecDepth 100000 in
set_option maxHeartbeats 2000000 in
theorem falls_any (A : Option Addr) (n c : Nat) (C : List (List Int)) (A2 : Option Addr) (n2 c2 : Nat) (xs : List Int) (w : World) (hC : ArrB (AtArr AtInt 1) 1 w w.heap.size A n C) (hn : n ≤ 1000000) (hcl : ∀ c ∈ C, CleanC c) (ht : Tame C) (hN : C.flatten.length ≤ 1000000)
    (hxs : IntsB w w.heap.size A2 n2 xs) (hn2 : n2 ≤ 1000) (hr : ∀ x ∈ xs, -1000000 ≤ x ∧ x ≤ 1000000) :
    Calls Try.prog 26 #[.slice A n c, .slice A2 n2 c2] w fun e w' => e = .returned (.bool (clashB C (xs.map fun x => -x))) ∧ Below w.heap.size w w' := by
  have HNEG := Lib.hid (negated_any A2 n2 c2 xs w hxs hn2 hr)
  have HAS : Hid (∀ (w1 : World) (A3 : Option Addr) (n3 c3 : Nat), Below w.heap.size w w1 → IntsB w1 w1.heap.size A3 n3 (xs.map fun x => -x) → Calls Try.prog 42 #[.slice A n c, .slice A3 n3 c3] w1 fun e w' => (∃ (G : Nat) (r : Int), e = .returned (.tuple #[.pointer (some ⟨G, 0, none⟩), .int .i64 r]) ∧ (0 ≤ r ↔ Clash C (xs.map fun x => -x))) ∧ Below w1.heap.size w1 w') :=
    fun w1 A3 n3 c3 hb h3 => assume_any A n c C A3 n3 c3 _ w1 (hC.below (stays_arr stays_int) hb hb.size) hn hcl ht hN h3 (by have h4 := h3.len; rw [List.length_map] at h4; have := hxs.len; omega)
  have HL := Lib.hid hxs.len
  clear hC hn hcl ht hN hxs hn2 hr
  go_enter Try.func26, Try.ntmps26
  go_wp2_with fail
  refine HNEG.out.mono ?_
  rintro e w9 ⟨v, rfl, hown, hbel⟩
  have hlt := hown.lt
  obtain ⟨A3, c3, rfl, h1, h2, h3⟩ := OwnV.reads (E := AtInt) tells_int (fun _ _ _ _ _ h => atV_int.1 h) hown (S' := fun b => b < w9.heap.size) (fun b h => False.elim h) (fun g hg => (hlt g hg).2)
  obtain ⟨n3, hn3⟩ : ∃ n3, (xs.map fun x => -x).length = n3 := ⟨_, rfl⟩
  rw [hn3] at h1 h3 ⊢
  have HA := Lib.hid (HAS.out w9 A3 n3 c3 hbel h3)
  have HB := Lib.hid hbel
  clear hown hbel hlt h1 h2 h3 hn3
  go_wp2_with fail
  refine HA.out.mono ?_
  rintro e w8 ⟨⟨G, r, rfl, hr⟩, hb8⟩
  have H8 := Lib.hid (And.intro hr hb8)
  clear hr hb8
  go_wp2_with fail
  go_ret
  refine ⟨ret_bool ?_, HB.out.trans (H8.out.2.mono HB.out.size)⟩
  rw [Bool.eq_iff_iff, clashB_iff, decide_eq_true_eq]
  exact H8.out.1
end Go.Proofs.Ytdncchlfeanlmaa
