/- Walks: what is the same, in the judge. · Walk: whether a clause follows by what is the same. -/
import Derived.Test.YtdncchlfeanlmaaJuCD
import Derived.Deep.RegionHeld3
namespace Go.Proofs.Ytdncchlfeanlmaa
open Go.RowKit

theorem field_a (x : AtomD) (A : Option Addr) (n c : Nat) (w : World) : (Instr.field 35 (.agg #[.int .i64 x.kind, .int .i64 x.a, .int .i64 x.b, .slice A n c, .int .i64 x.row.kind, .int .i64 x.row.to_]) 1).run Try.prog w = .ok (.int .i64 x.a) w := by kernel_rfl
theorem field_b (x : AtomD) (A : Option Addr) (n c : Nat) (w : World) : (Instr.field 35 (.agg #[.int .i64 x.kind, .int .i64 x.a, .int .i64 x.b, .slice A n c, .int .i64 x.row.kind, .int .i64 x.row.to_]) 2).run Try.prog w = .ok (.int .i64 x.b) w := by kernel_rfl

set_option maxRecDepth 100000 in
set_option maxHeartbeats 4000000 in
theorem same1_any (B0 G B1 B2 g B n : Nat) (A1 A2 A3 : Option Addr) (c1 c2 c3 : Nat) (ts : List TermD) (ints : List Bool) (ats : List AtomD) (l : Int) (cl : List Int) (w : World) (h : StR w B0 G A1 c1 A2 c2 A3 c3 ts ints ats) (hl : LitIn ats.length l)
    (hb1 : w.cell? ⟨B1, 0, none⟩ = some (.slice (some ⟨g, 0, none⟩) n n)) (hb2 : w.cell? ⟨B2, 0, none⟩ = some (.pointer (some ⟨G, 0, none⟩))) (hl1 : B1 < w.heap.size) (hl2 : B2 < w.heap.size)
    (hown : OwnT w B (.slice (some ⟨g, 0, none⟩) n n) cl) (hn : cl.length = n) (ha : 0 ≤ (atomAt ats l).a ∧ (atomAt ats l).a < n) (hb : 0 ≤ (atomAt ats l).b ∧ (atomAt ats l).b < n) :
    Calls Try.prog 47 #[.int .i64 l, .pointer (some ⟨B1, 0, none⟩), .pointer (some ⟨B2, 0, none⟩)] w fun e w' => e = .returned (.bool (decide (0 < l) && decide (cl[(atomAt ats l).a.toNat]? = cl[(atomAt ats l).b.toNat]?))) ∧ Below w.heap.size w w' := by
  by_cases hp : 0 < l
  · have HC : Hid (∀ W, Below w.heap.size w W → Calls Try.prog 45 #[.pointer (some ⟨G, 0, none⟩), .int .i64 l] W (AtomP B0 (atomAt ats l) W)) := fun W hW => jatom_any B0 G A1 A2 A3 c1 c2 c3 ts ints ats l W (h.later hW) hl
    have hpb : decide (0 < l) = true := by simpa using hp
    have HFA := Lib.hid (field_a (atomAt ats l))
    have HFB := Lib.hid (field_b (atomAt ats l))
    obtain ⟨i, hi⟩ := Int.eq_ofNat_of_zero_le ha.1
    obtain ⟨k, hk⟩ := Int.eq_ofNat_of_zero_le hb.1
    have hil : i < cl.length := by omega
    have hkl : k < cl.length := by omega
    have hiI : (i : Int) < (n : Int) := by omega
    have hkI : (k : Int) < (n : Int) := by omega
    have cell : ∀ (i : Nat) (hi : i < cl.length), w.cell? ⟨g, i, none⟩ = some (.int .i64 cl[i]) := fun i hi => by
      obtain ⟨u, h1, h2⟩ := OwnV.elem tells_int hown (List.getElem?_eq_getElem hi)
      rw [h1, (List.cons.inj h2.1).1]
    have e1 := cell i hil
    have e2 := cell k hkl
    have hgl := (hown.lt g rfl).2
    have HG : Hid (decide (cl[(atomAt ats l).a.toNat]? = cl[(atomAt ats l).b.toNat]?) = decide (cl[i] = cl[k])) := by
      show _ = _
      rw [hi, hk, Int.toNat_natCast, Int.toNat_natCast, List.getElem?_eq_getElem hil, List.getElem?_eq_getElem hkl]
      simp
    rw [HG.out]
    generalize cl[i] = x at e1
    generalize cl[k] = y at e2
    generalize atomAt ats l = z at HC HFA HFB hi hk
    rw [hi, hk] at HFA HFB
    have hfa := HFA.out
    have hfb := HFB.out
    clear h hl hown cell ha hb HG hn hil hkl
    go_enter Try.func47, Try.ntmps47
    go_wp2_with fail
    go_region_held3 (fun w' => w'.cell? ⟨B1, 0, none⟩ = some (.slice (some ⟨g, 0, none⟩) n n) ∧ w'.cell? ⟨B2, 0, none⟩ = some (.pointer (some ⟨G, 0, none⟩)) ∧ w'.cell? ⟨g, i, none⟩ = some (.int .i64 x) ∧ w'.cell? ⟨g, k, none⟩ = some (.int .i64 y))
      (go_keep)
      (first
        | (go_simp
           go_at_call 45
           with_reducible refine (HC.out w.drew (below_drewN (Below.refl _ _) 1)).mono ?_
           rintro e w1 ⟨A, n1, c1, rfl, har1, hnc1, hcm1, hbx1⟩
           have hbw1 : Below w.heap.size w w1 := below_of_drew hbx1
           have f1 : w1.cell? ⟨B1, 0, none⟩ = some (.slice (some ⟨g, 0, none⟩) n n) := (hbw1.cell (p := ⟨B1, 0, none⟩) hl1).trans hb1
           have f2 : w1.cell? ⟨B2, 0, none⟩ = some (.pointer (some ⟨G, 0, none⟩)) := (hbw1.cell (p := ⟨B2, 0, none⟩) hl2).trans hb2
           have f3 : w1.cell? ⟨g, i, none⟩ = some (.int .i64 x) := (hbw1.cell (p := ⟨g, i, none⟩) hgl).trans e1
           have f4 : w1.cell? ⟨g, k, none⟩ = some (.int .i64 y) := (hbw1.cell (p := ⟨g, k, none⟩) hgl).trans e2
           have HB1 := Lib.hid hbw1
           clear har1 hnc1 hcm1 hbx1 hbw1)
        | (go_simp
           go_at_call 45
           with_reducible refine (HC.out w1 HB1.out).mono ?_
           rintro e w2 ⟨A, n1, c1, rfl, har1, hnc1, hcm1, hbx1⟩
           have hbw2 : Below w.heap.size w w2 := HB1.out.trans (hbx1.mono HB1.out.size)
           have k1 : w2.cell? ⟨B1, 0, none⟩ = some (.slice (some ⟨g, 0, none⟩) n n) := (hbw2.cell (p := ⟨B1, 0, none⟩) hl1).trans hb1
           have k2 : w2.cell? ⟨B2, 0, none⟩ = some (.pointer (some ⟨G, 0, none⟩)) := (hbw2.cell (p := ⟨B2, 0, none⟩) hl2).trans hb2
           have k3 : w2.cell? ⟨g, i, none⟩ = some (.int .i64 x) := (hbw2.cell (p := ⟨g, i, none⟩) hgl).trans e1
           have k4 : w2.cell? ⟨g, k, none⟩ = some (.int .i64 y) := (hbw2.cell (p := ⟨g, k, none⟩) hgl).trans e2
           have HB2 := Lib.hid hbw2
           clear har1 hnc1 hcm1 hbx1 hbw2)
        | fail)
    all_goals
      go_wp2_with fail
      go_ret
      refine ⟨ret_bool ?_, HB2.out⟩
      by_cases e : x = y <;> simp [e, hp]
  · have hpb : decide (0 < l) = false := by simpa using hp
    clear h hl hown ha hb hn hb1 hb2
    rw [hpb]
    go_enter Try.func47, Try.ntmps47
    go_wp2_with fail
    go_quiet (fail)
    go_wp2_with fail
    go_ret
    exact ⟨rfl, below_drewN (Below.refl _ _) _⟩
end Go.Proofs.Ytdncchlfeanlmaa
namespace Go.Proofs.Ytdncchlfeanlmaa
open Go.RowKit

def VPair : Val (Int × Int) := fun _ _ cs x => cs = [.int .i64 x.1, .int .i64 x.2] ∧ I64 x.1 ∧ I64 x.2
theorem tells_pair : Tells VPair 2 := ⟨fun _ _ _ _ _ _ _ _ h => h, fun _ _ _ _ h => by rw [h.1]; rfl, fun _ _ _ _ h u hu => by rw [h.1] at hu; simp only [List.mem_cons, List.not_mem_nil, or_false] at hu; rcases hu with rfl | rfl <;> rfl⟩
theorem atV_pair {w : World} {S : Nat → Prop} {b o : Nat} {x : Int × Int} (h : AtV VPair w S b o x) : AtPair w S b o x := by
  obtain ⟨cs, ⟨rfl, h1, h2⟩, hc⟩ := h
  exact ⟨⟨hc 0 _ rfl, h1⟩, hc 1 _ rfl, h2⟩
abbrev OwnP (w : World) (B : Nat) (v : Value) (l : List (Int × Int)) : Prop := OwnV VPair 84 2 w B (fun _ => False) v l
theorem pair_later {w w' : World} {B : Nat} {v : Value} {c : List (Int × Int)} (h : OwnP w B v c) (hb : w.grownBy w' none) : OwnP w' B v c := h.kept tells_pair hb (by cases v.ownBlock <;> simp) (fun _ hb => False.elim hb)
theorem infoPair : (Try.prog.info? 84).map (fun i => (i.zero, i.size, i.bytes)) = some (some (.agg #[.int .i64 0, .int .i64 0]), 2, 16) := by kernel_rfl
theorem rowPairs : RowT Try.prog 82 84 2 16 := rowT_of Try.underlying82 infoPair rfl (by omega)
theorem pairsOf_neg {ats : List AtomD} {pre : List Int} {l : Int} (h : l < 0) : pairsOf ats (pre ++ [l]) = pairsOf ats pre ++ [((atomAt ats l).a, (atomAt ats l).b)] := by
  unfold pairsOf; rw [List.filter_append, List.map_append]; simp [h]
theorem pairsOf_pos {ats : List AtomD} {pre : List Int} {l : Int} (h : ¬ l < 0) : pairsOf ats (pre ++ [l]) = pairsOf ats pre := by
  unfold pairsOf; rw [List.filter_append, List.map_append]; simp [h]
theorem pairsOf_len (ats : List AtomD) (lits : List Int) : (pairsOf ats lits).length ≤ lits.length := by unfold pairsOf; rw [List.length_map]; exact List.length_filter_le _ _

/-- atoms that say that two terms are the same are over terms -/
def GoodSame (n : Nat) (ats : List AtomD) : Prop := ∀ x ∈ ats, x.kind = 2 → 0 ≤ x.a ∧ x.a < x.b ∧ x.b < n
set_option maxRecDepth 100000 in
set_option maxHeartbeats 4000000 in
theorem jsame_any (B0 G : Nat) (A1 A2 A3 : Option Addr) (c1 c2 c3 : Nat) (ts : List TermD) (ints : List Bool) (ats : List AtomD) (A : Option Addr) (n c : Nat) (lits : List Int) (w : World) (h : StR w B0 G A1 c1 A2 c2 A3 c3 ts ints ats)
    (hlits : IntsB w w.heap.size A n lits) (hl : ∀ l ∈ lits, LitIn ats.length l) (hn : n ≤ 1000) (hg : GoodTs ts) (hgs : GoodSame ts.length ats) (hts : ts.length ≤ 1000) :
    Calls Try.prog 27 #[.pointer (some ⟨G, 0, none⟩), .slice A n c] w fun e w' => e = .returned (.bool (sameF ts ats lits)) ∧ Below w.heap.size w w' := by
  have hb0 : Below w.heap.size w (w.alloc (.cells #[.pointer (some ⟨G, 0, none⟩)] 57)) := (Below.refl _ _).alloc (Nat.le_refl _) _
  have HALL := Lib.hid (jall_any B0 G A1 A2 A3 c1 c2 c3 ts ints ats A n c lits 2 _ (h.later hb0) (hlits.below stays_int hb0 hb0.size) hl (by omega))
  have hk0 := Blk.new w 57 #[.pointer (some ⟨G, 0, none⟩)]
  have HK := Lib.hid (And.intro hb0 hk0)
  have H := Lib.hid (And.intro h (And.intro hlits (And.intro hl (And.intro hg (And.intro hgs hts)))))
  have hGl := h.lt
  cases hall : allK ats 2 lits with
  | false =>
    rw [hall] at HALL
    rw [show sameF ts ats lits = false from by unfold sameF; rw [hall]; rfl]
    clear h hlits hl hg hgs hts hb0 hk0 hall
    go_enter Try.func27, Try.ntmps27
    go_wp2_with fail
    refine HALL.out.mono ?_
    rintro e w9 ⟨rfl, hb9⟩
    have HB9 := Lib.hid (HK.out.1.trans (hb9.mono HK.out.1.size))
    clear hb9
    go_wp2_with fail
    go_ret
    exact ⟨rfl, HB9.out⟩
  | true =>
    rw [hall] at HALL
    have HA := Lib.hid hall
    clear h hlits hl hg hgs hts hb0 hk0 hall
    go_enter Try.func27, Try.ntmps27
    go_wp2_with fail
    refine HALL.out.mono ?_
    rintro e w9 ⟨rfl, hb9⟩
    have HB9 := Lib.hid hb9
    clear hb9
    go_wp2_with fail
    go_loopw [5, 16] (fun s5 s16 wr => ∃ j : Nat, s16 = .int .i64 (j : Int) ∧ j ≤ n ∧ Hid (OwnV VPair 84 2 wr (w.heap.size + 1) (fun _ => False) s5 (pairsOf ats (lits.take j)) ∧ Below (w.heap.size + 1) (w.alloc (.cells #[.pointer (some ⟨G, 0, none⟩)] 57)) wr)) (fun _ s _ => n - (intOf s).toNat)
    case atStart => exact ⟨0, rfl, Nat.zero_le _, OwnV.none_ _ _ _ _ _ _, by have := HB9.out; rwa [World.size_alloc] at this⟩
    case round =>
      obtain ⟨j, rfl, hj, HJ⟩ := hrel
      obtain ⟨A5, c5, rfl, hc5, hc5m⟩ := HJ.out.1.len
      unfold maxLen at hc5m
      have hbx : wr.cell? ⟨w.heap.size, 0, none⟩ = some (.pointer (some ⟨G, 0, none⟩)) := (HJ.out.2.cell (p := ⟨w.heap.size, 0, none⟩) (Nat.lt_succ_self _)).trans (HK.out.2.cell 0)
      have hwz : w.heap.size + 1 ≤ wr.heap.size := by have := HJ.out.2.size; simp at this; omega
      have hbel : Below w.heap.size w wr := HK.out.1.trans (HJ.out.2.mono (by omega))
      have HBL := Lib.hid hbel
      clear hbel
      by_cases hlt : j < n
      · have hltI : (j : Int) < (n : Int) := by omega
        obtain ⟨b, off, hx, rfl, hb, hcell, hlo, hhi⟩ := ints_get (H.out.2.1.below stays_int HBL.out (Nat.le_refl _)) hlt
        have hlm := List.getElem_mem hx
        have hlit := H.out.2.2.1 _ hlm
        have hts := take_snoc_l hx
        have hC := jatom_any B0 G A1 A2 A3 c1 c2 c3 ts ints ats lits[j] wr (H.out.1.later (HBL.out.mono (Nat.le_refl _))) hlit
        obtain ⟨y, hy⟩ : ∃ y, lits[j] = y := ⟨_, rfl⟩
        rw [hy] at hcell hlit hts hC hlm
        have hz2 : (atomAt ats y).kind = 2 := by
          have h1 := HA.out
          unfold allK at h1
          exact of_decide_eq_true (List.all_eq_true.1 h1 y hlm)
        have hgs2 := H.out.2.2.2.2.1 _ (atomAt_mem hlit) hz2
        have hts1 := H.out.2.2.2.2.2
        obtain ⟨z, hz⟩ : ∃ z, atomAt ats y = z := ⟨_, rfl⟩
        rw [hz] at hC hgs2
        have HIZ : Hid (I64 z.a ∧ I64 z.b) := ⟨by unfold I64; omega, by unfold I64; omega⟩
        have HC := Lib.hid hC
        have HT := Lib.hid (And.intro hts hz)
        have hpl : (pairsOf ats (lits.take j)).length ≤ n := Nat.le_trans (pairsOf_len _ _) (by simp; omega)
        obtain ⟨m, hm⟩ : ∃ m, (pairsOf ats (lits.take j)).length = m := ⟨_, rfl⟩
        rw [hm] at HJ hc5 hpl ⊢
        have HM := Lib.hid hm
        clear hy hlo hhi hlm hlit hts hC hz2 hgs2 hts1 hz hm hx
        go_wp2_with fail
        refine HC.out.mono ?_
        rintro e w8 ⟨Az, nz, cz, rfl, har, hnc, hcm, hb8⟩
        have hz8 := hb8.size
        by_cases hneg : y < 0
        · have hbA : Below wr.heap.size wr (w8.alloc (.cells #[.int .i64 z.kind, .int .i64 z.a, .int .i64 z.b, .slice Az nz cz, .int .i64 z.row.kind, .int .i64 z.row.to_] 35)) := hb8.alloc hz8 _
          have hbB : Below wr.heap.size wr ((w8.alloc (.cells #[.int .i64 z.kind, .int .i64 z.a, .int .i64 z.b, .slice Az nz cz, .int .i64 z.row.kind, .int .i64 z.row.to_] 35)).alloc (.cells #[.int .i64 z.a, .int .i64 z.b] 84)) := hbA.alloc (by simp; omega) _
          have hbk := Blk.new (w8.alloc (.cells #[.int .i64 z.kind, .int .i64 z.a, .int .i64 z.b, .slice Az nz cz, .int .i64 z.row.kind, .int .i64 z.row.to_] 35)) 84 #[.int .i64 z.a, .int .i64 z.b]
          rw [World.size_alloc] at hbk
          have HO := Lib.hid (And.intro (pair_later HJ.out.1 (only_of_below hbB none)) (And.intro hbk (HJ.out.2.trans (hbB.mono hwz))))
          clear har hnc hcm hb8 hbA hbB hbk
          go_wp2_with (at_builtin; refine wpList_append_item rfl _ _ _ rfl rowPairs tells_pair (v := .slice A5 m c5) (xs := pairsOf ats (lits.take j)) (base := w.heap.size + 1) (S := fun _ => False) rfl HO.out.1 (g := w8.heap.size + 1) (cs := #[.int .i64 z.a, .int .i64 z.b]) rfl HO.out.2.1 (y := (z.a, z.b)) ⟨rfl, HIZ.out⟩ (fun b h => False.elim h) (by rw [HM.out]; unfold maxLen; omega) (by rw [HM.out]; omega) (by simp; omega) ?_; intro v' w6 hown6 hgrow6 hat6; have HB6 := Lib.hid (And.intro hown6 hgrow6); clear hown6 hgrow6 hat6)
          go_roundw
          case rel =>
            have hlt9 := HO.out.1.lt
            refine ⟨j + 1, by go_num, by omega, ?_, below_then HO.out.2.2 HB6.out.2 (by simp; omega) (fun x hx => (hlt9 x hx).1)⟩
            rw [HT.out.1, pairsOf_neg hneg, HT.out.2]
            exact HB6.out.1
          case measure => simp [intOf]; omega
        · have hbA : Below wr.heap.size wr (w8.alloc (.cells #[.int .i64 z.kind, .int .i64 z.a, .int .i64 z.b, .slice Az nz cz, .int .i64 z.row.kind, .int .i64 z.row.to_] 35)) := hb8.alloc hz8 _
          have HO := Lib.hid (And.intro (pair_later HJ.out.1 (only_of_below hbA none)) (HJ.out.2.trans (hbA.mono hwz)))
          clear har hnc hcm hb8 hbA
          go_wp2_with fail
          go_roundw
          case rel =>
            refine ⟨j + 1, by go_num, by omega, ?_, HO.out.2⟩
            rw [HT.out.1, pairsOf_pos (by omega)]
            exact HO.out.1
          case measure => simp [intOf]; omega
      · obtain rfl : j = n := by omega
        have hln := H.out.2.1.len
        have hall2 := HA.out
        unfold allK at hall2
        have hkind : ∀ y ∈ lits, (atomAt ats y).kind = 2 := fun y hy => of_decide_eq_true (List.all_eq_true.1 hall2 y hy)
        have hab : ∀ y ∈ lits, 0 ≤ (atomAt ats y).a ∧ (atomAt ats y).a < ts.length ∧ 0 ≤ (atomAt ats y).b ∧ (atomAt ats y).b < ts.length := fun y hy => by
          have := H.out.2.2.2.2.1 _ (atomAt_mem (H.out.2.2.1 y hy)) (hkind y hy); omega
        have hgp : GoodPs ts.length (pairsOf ats lits) := fun p hp => by
          obtain ⟨y, hy, rfl⟩ := List.mem_map.1 hp
          exact hab y (List.mem_filter.1 hy).1
        have hown := HJ.out.1
        rw [List.take_of_length_le (by omega)] at hown hc5 ⊢
        have hlt5 := hown.lt
        obtain ⟨A6, c6, he6, -, -, har5⟩ := OwnV.reads (E := AtPair) tells_pair (fun _ _ _ _ _ h => atV_pair h) hown (S' := fun b => b < wr.heap.size) (fun b h => False.elim h) (fun g hg => (hlt5 g hg).2)
        injection he6 with e1 e2 e3
        subst e1 e3
        have hst := H.out.1.later (HBL.out.mono (Nat.le_refl _))
        have hcla := classes_any A1 c1 ts A5 _ c5 (pairsOf ats lits) wr (hst.t.below stays_term (Below.refl _ _) hst.hB) H.out.2.2.2.2.2 hst.l1 H.out.2.2.2.1 har5 (by have := pairsOf_len ats lits; omega) hgp
        obtain ⟨m, hm⟩ : ∃ m, (pairsOf ats lits).length = m := ⟨_, rfl⟩
        rw [hm] at hcla ⊢
        have q0 : wr.cell? ⟨G, 0, none⟩ = some (.slice A1 ts.length c1) := hst.q0
        have HCL := Lib.hid hcla
        have HAB := Lib.hid hab
        clear hln hall2 hkind hab hgp hown hlt5 har5 hst hcla hm hc5 HJ
        go_wp2_with fail
        refine HCL.out.mono ?_
        rintro e w7 ⟨g, cl, rfl, hown7, hcy, hb7⟩
        have hgl7 := hown7.lt g rfl
        have hbX : Below wr.heap.size wr (w7.alloc (.cells #[.slice (some ⟨g, 0, none⟩) ts.length ts.length] 31)) := hb7.alloc hb7.size _
        have hkX := Blk.new w7 31 #[.slice (some ⟨g, 0, none⟩) ts.length ts.length]
        have hownX : OwnT (w7.alloc (.cells #[.slice (some ⟨g, 0, none⟩) ts.length ts.length] 31)) wr.heap.size (.slice (some ⟨g, 0, none⟩) ts.length ts.length) cl := own_later hown7 (only_alloc (only_refl w7 none) _) (by simp [Value.ownBlock])
        have hz7 := hb7.size
        have eg := enters_of Try.func47 (by kernel_rfl) rfl
        have hcl := hcy.len
        have hbW : Below w.heap.size w (w7.alloc (.cells #[.slice (some ⟨g, 0, none⟩) ts.length ts.length] 31)) := HBL.out.trans (hbX.mono HBL.out.size)
        have hp : PredOn Try.prog 47 #[.pointer (some ⟨w7.heap.size, 0, none⟩), .pointer (some ⟨w.heap.size, 0, none⟩)] (fun l => decide (0 < l) && decide (cl[(atomAt ats l).a.toNat]? = cl[(atomAt ats l).b.toNat]?)) lits (w7.alloc (.cells #[.slice (some ⟨g, 0, none⟩) ts.length ts.length] 31)) := fun W y hy hbY => by
          have hzY := hbY.size
          rw [World.size_alloc] at hzY
          refine (same1_any B0 G w7.heap.size w.heap.size g wr.heap.size ts.length A1 A2 A3 c1 c2 c3 ts ints ats y cl W (H.out.1.later (hbW.trans (hbY.mono hbW.size))) (H.out.2.2.1 y hy) ?_ ?_ (by omega) (by omega) ?_ hcl ?_ ?_).mono fun _ _ ⟨he, hb'⟩ => ⟨he, hbY.trans (hb'.mono hbY.size)⟩
          · exact (hkX.below hbY (by simp)).cell 0
          · refine (hbY.cell (p := ⟨w.heap.size, 0, none⟩) (by simp; omega)).trans ((hbX.cell (p := ⟨w.heap.size, 0, none⟩) (by show w.heap.size < _; omega)).trans hbx)
          · exact own_later hownX (only_of_below hbY none) (by simp [Value.ownBlock])
          · exact ⟨(HAB.out y hy).1, (HAB.out y hy).2.1⟩
          · exact ⟨(HAB.out y hy).2.2.1, (HAB.out y hy).2.2.2⟩
        have HC := Lib.hid (fun R hR => containsInts_any 47 _ eg _ A j c lits R _ (H.out.2.1.below stays_int hbW hbW.size) (by omega) hp hR)
        have HR : Hid (lits.any (fun l => decide (0 < l) && decide (cl[(atomAt ats l).a.toNat]? = cl[(atomAt ats l).b.toNat]?)) = sameF ts ats lits) := by
          show _ = _
          unfold sameF
          rw [HA.out, Bool.true_and, Bool.eq_iff_iff, List.any_eq_true, List.any_eq_true]
          refine exists_congr fun y => and_congr_right fun hy => ?_
          have h1 := HAB.out y hy
          rw [Bool.and_eq_true, Bool.and_eq_true, congB_iff, decide_eq_true_eq, decide_eq_true_eq, hcy.same (by omega)]
        have HB := Lib.hid hbW
        have hbx7 : w7.cell? ⟨w.heap.size, 0, none⟩ = some (.pointer (some ⟨G, 0, none⟩)) := (hb7.cell (p := ⟨w.heap.size, 0, none⟩) (by show w.heap.size < _; omega)).trans hbx
        clear hown7 hcy hb7 hbX hkX hownX hcl hbW hp hgl7
        go_wp2_with fail
        refine (HC.out _ HR.out).mono ?_
        rintro e w6 ⟨rfl, hb6⟩
        have HB6 := Lib.hid (HB.out.trans (hb6.mono HB.out.size))
        clear hb6
        go_wp2_with fail
        go_ret
        exact ⟨rfl, HB6.out⟩
end Go.Proofs.Ytdncchlfeanlmaa
