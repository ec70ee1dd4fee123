/- Walk: the reference's Closed (JudgeWhySays). -/
import Derived.Test.YthjfiomcpihlaaaGreatJwIJ
import Derived.Deep.LoopGhost
import Derived.Deep.CutBlock
import Derived.StillTailTactics
namespace Go.Proofs.YthjfiomcpihlaaaGreat
open Go.RowKit

theorem own_some {α : Type} {V : Val α} {e sz base : Nat} {w : World} {S : Nat → Prop} {v : Value} {xs : List α} (h : OwnV V e sz w base S v xs) (hx : 0 < xs.length) : ∃ g c, v = .slice (some ⟨g, 0, none⟩) xs.length c ∧ xs.length ≤ c ∧ c ≤ maxLen := by
  obtain ⟨cells, hown, hels⟩ := h
  rcases hown.2 with ⟨rfl, h0⟩ | ⟨g, cap, cur, rfl, hb, hh, hn, hcap, hcs, htake⟩
  · omega
  · exact ⟨g, _, rfl, hn, hcap⟩
theorem own_at {w : World} {e base n g k c : Nat} {S : Nat → Prop} {rbs : List Nat} (h : OwnV (VRw n) e 1 w base S (.slice (some ⟨g, 0, none⟩) k c) rbs) {i r : Nat} (hr : rbs[i]? = some r) : w.cell? ⟨g, i, none⟩ = some (.slice (some ⟨r, 0, none⟩) n n) := by
  obtain ⟨u, h1, h2⟩ := OwnV.elem (tells_rw n) h hr
  rw [h1, (List.cons.inj h2).1]
theorem below_drawn2 {B : Nat} {a w : World} (h : Below B a w) : Below B a w.drew := ⟨h.os, h.tape, h.output, h.size, h.block⟩
def ClosedP (ts : List TermD) (ps : List (Int × Int)) (w : World) (e : Ending) (w' : World) : Prop :=
  ∃ (A : Option Addr) (c g : Nat) (rbs : List Nat) (one : Nat → Nat → Bool), e = .returned (.slice A ts.length c) ∧ ts.length ≤ c ∧ (0 < ts.length → A = some ⟨g, 0, none⟩) ∧ Tab w' w.heap.size ts.length g rbs one ∧ (∀ a b, a < ts.length → b < ts.length → one a b = congB ts ps a b) ∧ Below w.heap.size w w'

set_option maxRecDepth 100000 in
set_option maxHeartbeats 16000000 in
theorem refClosed_any (A : Option Addr) (c : Nat) (ts : List TermD) (A2 : Option Addr) (n2 c2 : Nat) (ps : List (Int × Int)) (w : World) (hts : ArrB AtTerm 2 w w.heap.size A ts.length ts) (hn : ts.length ≤ 1000) (hc : ts.length ≤ c) (hg : GoodTs ts)
    (hps : ArrB AtPair 2 w w.heap.size A2 n2 ps) (hn2 : n2 ≤ 1000000) (hgp : GoodPs ts.length ps) :
    Calls Tryz.prog 65 #[.slice A ts.length c, .slice A2 n2 c2] w (ClosedP ts ps w) := by
  have HTS := Lib.hid hts
  have HPS := Lib.hid hps
  have HG := Lib.hid (And.intro hg hgp)
  obtain ⟨n, hnn⟩ : ∃ n, ts.length = n := ⟨_, rfl⟩
  have HN := Lib.hid hnn
  have hmk := make_boolsJ n (by omega)
  have hcn : n ≤ c := by rw [← hnn]; exact hc
  rw [hnn] at hn ⊢
  clear hc
  clear hts hps hg hgp hnn
  go_enter Tryz.func65, Tryz.ntmps65
  go_wp2_with fail
  go_loopw [6, 7] (fun s6 s7 wr => ∃ (i : Nat) (rbs : List Nat), s7 = .int .i64 (i : Int) ∧ i ≤ n ∧ Hid (rbs.length = i ∧ OwnV (VRw n) 23 1 wr w.heap.size (fun _ => False) s6 rbs ∧ (∀ k r, rbs[k]? = some r → Blk wr r 4 (rowA n (fun j => decide (j = k)))) ∧ rbs.Nodup ∧ (∀ r ∈ rbs, w.heap.size ≤ r ∧ r < wr.heap.size ∧ s6.ownBlock ≠ some r) ∧ Below w.heap.size w wr)) (fun _ s7 _ => n - (intOf s7).toNat)
  case atStart => exact ⟨0, [], rfl, Nat.zero_le _, rfl, OwnV.none_ _ _ _ _ _ _, fun k r h => by simp at h, List.nodup_nil, fun r h => by simp at h, Below.refl _ _⟩
  case round =>
    obtain ⟨i, rbs, rfl, hi, HI⟩ := hrel
    obtain ⟨A3, c3, rfl, hc3, hc3m⟩ := HI.out.2.1.len
    have hl := HI.out.1
    rw [hl] at HI hc3 ⊢
    have HL := Lib.hid hl
    clear hl
    unfold maxLen at hc3m
    by_cases hlt : i < n
    · have hltI : (i : Int) < (n : Int) := by omega
      have hba : Below wr.heap.size wr (wr.alloc (.cells (rowA n (fun _ => false)) 4)) := (Below.refl _ _).alloc (Nat.le_refl _) _
      have hbb : Below wr.heap.size wr ((wr.alloc (.cells (rowA n (fun _ => false)) 4)).alloc (.cells #[.slice (some ⟨wr.heap.size, 0, none⟩) n n] 23)) := hba.alloc (by simp) _
      have hbn := Blk.new (wr.alloc (.cells (rowA n (fun _ => false)) 4)) 23 #[.slice (some ⟨wr.heap.size, 0, none⟩) n n]
      have hbr := (Blk.new wr 4 (rowA n (fun _ => false))).alloc (.cells #[.slice (some ⟨wr.heap.size, 0, none⟩) n n] 23)
      have hz : w.heap.size ≤ wr.heap.size := HI.out.2.2.2.2.2.size
      have HO := Lib.hid (And.intro hbn (And.intro (HI.out.2.1.kept (tells_rw n) (only_of_below hbb none) (by cases A3 <;> simp [Value.ownBlock]) (S' := fun _ => False) (fun b hb => hb.elim)) (And.intro (HI.out.2.2.2.2.2.trans (hbb.mono hz)) hbr)))
      clear hba hbb hbn hbr
      go_wp2_with (at_builtin; go_loud (refine wpList_append_item rfl _ _ _ rfl rowTab (tells_rw n) (v := .slice A3 i c3) (xs := rbs) (base := w.heap.size) (S := fun _ => False) rfl HO.out.2.1 (g := wr.heap.size + 1) (cs := #[.slice (some ⟨wr.heap.size, 0, none⟩) n n]) rfl (by have := HO.out.1; rwa [World.size_alloc] at this) (y := wr.heap.size) rfl (fun b h => h.elim) (by rw [HL.out]; unfold maxLen; omega) (by rw [HL.out]; omega) (by simp; omega) ?_); intro v' w6 hown6 hgrow6 hat6; obtain ⟨g6, c6, rfl, hc6, hc6m⟩ := own_some hown6 (by simp); (have hl6 : (rbs ++ [wr.heap.size]).length = i + 1 := by rw [List.length_append, HL.out]; rfl); rw [hl6] at hown6 hc6 hat6 ⊢; (have q6 : w6.cell? ⟨g6, i, none⟩ = some (.slice (some ⟨wr.heap.size, 0, none⟩) n n) := own_at hown6 (by rw [List.getElem?_append_right (by rw [HL.out]; exact Nat.le_refl _), HL.out]; simp)); (have hb6 : Blk w6 wr.heap.size 4 (rowA n (fun _ => false)) := HO.out.2.2.2.grown hgrow6 (fun e => by have := (HI.out.2.1.lt _ e.symm).2; omega)); (have q7 : w6.cell? ⟨wr.heap.size, i, none⟩ = some (.bool false) := (hb6.cell i).trans (rowA_get _ hlt)); (have f7 : w6.frozen? ⟨wr.heap.size, i, none⟩ = false := hb6.frozen i); (have z7 : wr.heap.size < w6.heap.size := hb6.lt); (have HB6 := Lib.hid (And.intro hown6 (And.intro hgrow6 (And.intro hat6 hb6)))); clear hown6 hgrow6 hat6 hb6 hl6)
      go_roundw
      case rel =>
        obtain ⟨hown6, hgrow6, hat6, hb6⟩ := HB6.out
        have hl3 := HI.out.2.1.lt
        have hzz := hgrow6.size
        simp only [World.size_alloc] at hzz hat6
        replace hat6 : some g6 = (Value.slice A3 i c3).ownBlock ∨ some g6 = some (wr.heap.size + 1 + 1) := hat6
        have hgr : g6 ≠ wr.heap.size := by
          rcases hat6 with e | e
          · intro e2
            rw [e2] at e
            have := (hl3 _ e.symm).2
            omega
          · injection e with e; omega
        have hset := one_only (only_refl w6 (some wr.heap.size)) i (.bool true)
        refine ⟨i + 1, rbs ++ [wr.heap.size], by go_num, by omega, by rw [List.length_append, HL.out]; rfl, hown6.kept (tells_rw n) hset (.inr (fun e => by have e' : some g6 = some wr.heap.size := e; injection e' with e'; exact hgr e')) (S' := fun _ => False) (fun b hb => hb.elim), fun k r hr => ?_, ?_, fun r hr => ?_, ?_⟩
        · rcases Nat.lt_or_ge k rbs.length with hk | hk
          · rw [List.getElem?_append_left hk] at hr
            obtain ⟨h1, h2, h3⟩ := HI.out.2.2.2.2.1 r (List.mem_of_getElem? hr)
            have h4 := ((((HI.out.2.2.1 k r hr).alloc (.cells (rowA n (fun _ => false)) 4)).alloc (.cells #[.slice (some ⟨wr.heap.size, 0, none⟩) n n] 23)).grown hgrow6 (fun e => h3 e.symm))
            exact h4.far (p := ⟨wr.heap.size, i, none⟩) (by show r ≠ wr.heap.size; omega) _
          · have hk2 : k = i := by
              have := (List.getElem?_eq_some_iff.1 hr).1
              rw [List.length_append, List.length_singleton] at this
              have := HL.out
              omega
            subst hk2
            rw [List.getElem?_append_right hk, HL.out, Nat.sub_self, List.getElem?_cons_zero] at hr
            injection hr with hr
            subst hr
            have h1 := hb6.set_ k (.bool true)
            rw [rowA_set] at h1
            have h2 : (fun x => if x = k then true else false) = fun j => decide (j = k) := by
              funext x
              by_cases e : x = k <;> simp [e]
            rw [h2] at h1
            exact h1
        · rw [List.nodup_append]
          exact ⟨HI.out.2.2.2.1, by simp, fun a ha b hb e => by
            have := (HI.out.2.2.2.2.1 a ha).2.1
            rw [List.mem_singleton.1 hb] at e
            omega⟩
        · have hz6 : (w6.setCell ⟨wr.heap.size, i, none⟩ (.bool true)).heap.size = w6.heap.size := by simp [World.setCell]
          rw [hz6]
          rcases List.mem_append.1 hr with h | h
          · obtain ⟨h1, h2, h3⟩ := HI.out.2.2.2.2.1 r h
            refine ⟨h1, by omega, fun e => ?_⟩
            have e' : some g6 = some r := e
            rcases hat6 with e2 | e2
            · exact h3 (e2.symm.trans e')
            · injection e' with e'; injection e2 with e2; omega
          · rw [List.mem_singleton.1 h]
            exact ⟨hz, by omega, fun e => by have e' : some g6 = some wr.heap.size := e; injection e' with e'; exact hgr e'⟩
        · exact below_then (below_then HO.out.2.2.1 hgrow6 (by simp; omega) (fun x hx => (hl3 x hx).1)) hset (by omega) (fun x hx => by injection hx with hx; omega)
      case measure => simp [intOf]; omega
    · obtain rfl : n = i := by omega
      have hA : 0 < n → ∃ g, A3 = some ⟨g, 0, none⟩ ∧ g < wr.heap.size := fun h => by
        obtain ⟨g, c, e, -, hgw, -⟩ := HI.out.2.1.form (by rw [HL.out]; exact h)
        injection e with e
        exact ⟨g, e, hgw⟩
      obtain ⟨g, hA3, hgw⟩ : ∃ g, (0 < n → A3 = some ⟨g, 0, none⟩) ∧ (0 < n → g < wr.heap.size) := by
        by_cases h : 0 < n
        · obtain ⟨g, h1, h2⟩ := hA h
          exact ⟨g, fun _ => h1, fun _ => h2⟩
        · exact ⟨0, fun e => absurd e h, fun e => absurd e h⟩
      have HT : Hid (Tab wr w.heap.size n g rbs (fun a b => decide (b = a))) := by
        refine ⟨HL.out, fun k r hr => ?_, fun k r hr => HI.out.2.2.1 k r hr, HI.out.2.2.2.1, fun r hr => ?_, hgw⟩
        · have h0 : 0 < n := by have := (List.getElem?_eq_some_iff.1 hr).1; have := HL.out; omega
          have h1 := HI.out.2.1
          rw [hA3 h0] at h1
          exact own_at h1 hr
        · obtain ⟨h1, h2, h3⟩ := HI.out.2.2.2.2.1 r hr
          have h0 : 0 < n := by obtain ⟨k, hk, -⟩ := List.getElem_of_mem hr; have := HL.out; omega
          exact ⟨h1, fun e => h3 (by rw [hA3 h0, e]; rfl)⟩
      have HB := Lib.hid HI.out.2.2.2.2.2
      have HA := Lib.hid hA3
      have hl1 := hn
      clear hA hA3 hgw HI hmk hlt hi hl1
      go_wp2_with fail
      go_loopw [8] (fun s8 wr => ∃ (p : Nat) (one : Nat → Nat → Bool), s8 = .int .i64 (p : Int) ∧ p ≤ n2 ∧ Hid (Tab wr w.heap.size n g rbs one ∧ TabOk ts ps n one ∧ (∀ x y : Int, (x, y) ∈ ps.take p → x.toNat < n ∧ y.toNat < n ∧ one x.toNat y.toNat = true) ∧ Below w.heap.size w wr)) (fun s8 _ => n2 - (intOf s8).toNat)
      case atStart => exact ⟨0, _, rfl, Nat.zero_le _, HT.out, ⟨fun a _ => by simp, fun a b _ _ h => by simpa using (of_decide_eq_true h).symm, fun a b _ _ h => by rw [of_decide_eq_true h]; exact Cong.refl _⟩, fun x y h => by simp at h, HB.out⟩
      case round =>
        clear HT HB
        obtain ⟨p, one, rfl, hp, HP⟩ := hrel
        have hz := HP.out.2.2.2.size
        by_cases hlt : p < n2
        · have hltI : (p : Int) < (n2 : Int) := by omega
          obtain ⟨b2, off, hx, rfl, hb2, hcx, hcy⟩ := pairs_get (HPS.out.below stays_pair HP.out.2.2.2 (Nat.le_refl _)) hlt
          have hts := take_snoc_l hx
          have hgd := HG.out.2 _ (List.getElem_mem hx)
          have hpm := List.getElem_mem hx
          generalize ps[p] = q at hcx hcy hts hgd hpm
          obtain ⟨qa, qb⟩ := q
          dsimp only at hcx hcy hgd
          rw [HN.out] at hgd
          obtain ⟨a, rfl⟩ : ∃ a : Nat, qa = a := ⟨qa.toNat, by omega⟩
          obtain ⟨b, rfl⟩ : ∃ b : Nat, qb = b := ⟨qb.toNat, by omega⟩
          have ha : a < n := by omega
          have hb : b < n := by omega
          have haI : (a : Int) < (n : Int) := by omega
          have hbI : (b : Int) < (n : Int) := by omega
          obtain rfl := HA.out (by omega)
          obtain ⟨ra, hra, ga, ca, fa, la, Ba⟩ := HP.out.1.get ha
          obtain ⟨rb, hrb, gb, cb, fb, lb, Bb⟩ := HP.out.1.get hb
          have ca1 := ca b hb
          have fa1 := fa b
          have hT1 := (HP.out.1.later (below_drawn2 (Below.refl _ _))).put (b := b) hra
          have hC : Cong ts ps a b := by have h := Cong.pair (ts := ts) hpm; simpa using h
          have HM := Lib.hid (And.intro hts (And.intro hra (And.intro hrb (And.intro hT1 hC))))
          clear hts hgd hpm hra hrb hT1 hC ca fa cb fb
          go_upto_region 11 with fail
          go_still_tail 14, (by kernel_rfl)
          change wpList _ _ _ _ _ wr.drew
          go_wp2_with fail
          have hgX : wr.grownBy ((wr.setCell ⟨ra, b, none⟩ (.bool true)).drew) (some ra) := only_drew (one_only (only_refl wr (some ra)) b (.bool true))
          have hTX : Tab ((wr.setCell ⟨ra, b, none⟩ (.bool true)).drew) w.heap.size n g rbs (upd one a b) := HM.out.2.2.2.1
          have hcxX := (only_cell hgX (Nat.lt_of_lt_of_le hb2 hz) (fun e => by injection e with e; omega)).trans hcx
          have hcyX := (only_cell hgX (Nat.lt_of_lt_of_le hb2 hz) (fun e => by injection e with e; omega)).trans hcy
          have hzX : wr.heap.size = ((wr.setCell ⟨ra, b, none⟩ (.bool true)).drew).heap.size := by simp [World.setCell]
          generalize (wr.setCell ⟨ra, b, none⟩ (.bool true)).drew = X at hgX hTX hcxX hcyX hzX ⊢
          obtain ⟨rb', hrb', gb', cb', fb', lb', Bb'⟩ := hTX.get hb
          obtain rfl : rb = rb' := by have := HM.out.2.2.1; rw [this] at hrb'; injection hrb'
          have cb1 := cb' a ha
          have fb1 := fb' a
          have HX := Lib.hid (And.intro hgX (And.intro hTX hzX))
          clear hgX hTX hcx hcy ga gb ca1 fa1 cb' fb' hzX hrb' la lb
          have hb2X : b2 < X.heap.size := by have := HX.out.2.2; omega
          go_still_tail 14, (by kernel_rfl)
          change wpList _ _ _ _ _ X.drew
          go_wp2_with fail
          go_roundw
          case rel =>
            have hT2 : Tab ((X.setCell ⟨rb, a, none⟩ (.bool true)).drew) w.heap.size n g rbs (upd (upd one a b) b a) := (HX.out.2.1.later (below_drawn2 (Below.refl _ _))).put (b := a) HM.out.2.2.1
            refine ⟨p + 1, _, by go_num, by omega, hT2, HP.out.2.1.put HM.out.2.2.2.2, fun x y hxy => ?_, ?_⟩
            · rw [HM.out.1] at hxy
              rcases List.mem_append.1 hxy with h | h
              · obtain ⟨h1, h2, h3⟩ := HP.out.2.2.1 x y h
                exact ⟨h1, h2, upd_mono (upd_mono h3)⟩
              · have h1 := List.mem_singleton.1 h
                injection h1 with h1 h2
                subst h1
                subst h2
                simp only [Int.toNat_natCast]
                exact ⟨ha, hb, upd_mono (upd_same _ _ _)⟩
            · exact below_then (below_then HP.out.2.2.2 HX.out.1 hz (fun x hx => by injection hx with hx; omega)) (only_drew (one_only (only_refl X (some rb)) a (.bool true))) (by have := HX.out.2.2; omega) (fun x hx => by injection hx with hx; omega)
          case measure => simp [intOf]; omega
        · obtain rfl : p = n2 := by omega
          have HT : Hid (Tab wr w.heap.size n g rbs one ∧ TabOk ts ps n one ∧ (∀ x y : Int, (x, y) ∈ ps → x.toNat < n ∧ y.toNat < n ∧ one x.toNat y.toNat = true) ∧ Below w.heap.size w wr) := by
            have h1 := HP.out
            rw [List.take_of_length_le (by have := HPS.out.len; omega)] at h1
            exact h1
          clear HP hp
          go_wp2_with fail
          go_loopg [9] (falsesN n one + 2) (fun k s9 wr => ∃ (ch : Bool) (one' : Nat → Nat → Bool), s9 = .bool ch ∧ Hid (Tab wr w.heap.size n g rbs one' ∧ TabOk ts ps n one' ∧ (∀ x y : Int, (x, y) ∈ ps → x.toNat < n ∧ y.toNat < n ∧ one' x.toNat y.toNat = true) ∧ Below w.heap.size w wr ∧ (ch = true → falsesN n one' + 1 < k) ∧ (ch = false → StillTo ts n one' n 0 ∧ 0 < k)))
          case atStart => exact ⟨true, one, rfl, HT.out.1, HT.out.2.1, HT.out.2.2.1, HT.out.2.2.2, fun _ => by omega, fun h => by cases h⟩
          case round =>
            clear HT
            obtain ⟨ch, one', rfl, HC⟩ := hrel
            cases ch with
            | false =>
              have HS := Lib.hid (HC.out.2.2.2.2.2 rfl).1
              go_wp2_with fail
              go_ret
              have HG1 := HG.out.1
              refine ⟨A3, c3, g, rbs, one', by rw [HN.out]; rfl, by rw [HN.out]; exact hc3, ?_⟩
              rw [HN.out]
              exact ⟨HA.out, HC.out.1, fun a b ha hb => HC.out.2.1.done HN.out.symm HG1 HC.out.2.2.1 HS.out ha hb, HC.out.2.2.2.1⟩
            | true =>
              have hfl : falsesN n one' + 1 < gk := HC.out.2.2.2.2.1 rfl
              obtain ⟨g0, rfl⟩ : ∃ m, gk = m + 1 := ⟨gk - 1, by omega⟩
              have HC0 := Lib.hid (And.intro HC.out.1 (And.intro HC.out.2.1 (And.intro HC.out.2.2.1 HC.out.2.2.2.1)))
              clear HC
              obtain ⟨one0, h10⟩ : ∃ o, one' = o := ⟨_, rfl⟩
              rw [h10] at HC0 hfl
              clear h10 one'
              go_wp2_with fail
              go_loopw [9, 10] (fun s9 s10 wr => ∃ (a : Nat) (ch : Bool) (one' : Nat → Nat → Bool), s10 = .int .i64 (a : Int) ∧ s9 = .bool ch ∧ a ≤ n ∧ Hid (Tab wr w.heap.size n g rbs one' ∧ TabOk ts ps n one' ∧ (∀ x y, one0 x y = true → one' x y = true) ∧ Below w.heap.size w wr ∧ (ch = true → falsesN n one' < falsesN n one0) ∧ (ch = false → one' = one0 ∧ StillTo ts n one0 a 0))) (fun _ s10 _ => n - (intOf s10).toNat)
              case atStart => exact ⟨0, false, one0, rfl, rfl, Nat.zero_le _, HC0.out.1, HC0.out.2.1, (fun _ _ h => h), HC0.out.2.2.2, (fun h => by cases h), (fun _ => ⟨rfl, StillTo.none_⟩)⟩
              case round =>
                obtain ⟨a, ch, one1, rfl, rfl, ha, HA1⟩ := hrel
                by_cases hlt : a < n
                · have hltI : (a : Int) < (n : Int) := by omega
                  go_wp2_with fail
                  go_loopw [9, 11] (fun s9 s11 wr => ∃ (b : Nat) (ch : Bool) (one' : Nat → Nat → Bool), s11 = .int .i64 (b : Int) ∧ s9 = .bool ch ∧ b ≤ n ∧ Hid (Tab wr w.heap.size n g rbs one' ∧ TabOk ts ps n one' ∧ (∀ x y, one0 x y = true → one' x y = true) ∧ Below w.heap.size w wr ∧ (ch = true → falsesN n one' < falsesN n one0) ∧ (ch = false → one' = one0 ∧ StillTo ts n one0 a b))) (fun _ s11 _ => n - (intOf s11).toNat)
                  case atStart => exact ⟨0, ch, one1, rfl, rfl, Nat.zero_le _, HA1⟩
                  case round =>
                    clear HA1
                    obtain ⟨b, ch, one', rfl, rfl, hb, HB1⟩ := hrel
                    by_cases hltb : b < n
                    · have hltbI : (b : Int) < (n : Int) := by omega
                      obtain rfl := HA.out (by omega)
                      obtain ⟨ra, hra, ga, ca, fa, la, Ba⟩ := HB1.out.1.get hlt
                      obtain ⟨rb, hrb, gb, cb, fb, lb, Bb⟩ := HB1.out.1.get hltb
                      have HCA := Lib.hid (And.intro ca cb)
                      have cab := ca b hltb
                      have fab := fa b
                      have fba := fb a
                      obtain ⟨v0, hv0⟩ : ∃ v, one' a b = v := ⟨_, rfl⟩
                      rw [hv0] at cab
                      have HV0 := Lib.hid hv0
                      clear ca cb hv0
                      obtain ⟨P6, hP6⟩ : ∃ P : Prop, (v0 = true ∨ ∃ c, c < n ∧ one' a c = true ∧ one' c b = true) = P := ⟨_, rfl⟩
                      have HP6 := Lib.hid hP6
                      clear hP6
                      go_upto_block 10 with fail
                      go_cut [12] (fun s12 wx => ∃ i6 : Bool, s12 = .bool i6 ∧ Hid (i6 = true ↔ P6) ∧ wx = wr)
                      case first =>
                        go_wp2_with fail
                        go_loop [12, 13] (fun s12 s13 => ∃ (c : Nat) (is : Bool), s13 = .int .i64 (c : Int) ∧ s12 = .bool is ∧ c ≤ n ∧ Hid ((is = true → P6) ∧ (is = false → v0 = false ∧ ∀ c', c' < c → one' a c' = true → one' c' b = true → False))) (fun _ s13 => n - (intOf s13).toNat)
                        case atStart => exact ⟨0, v0, rfl, rfl, Nat.zero_le _, fun h => by rw [← HP6.out]; exact .inl h, fun h => ⟨h, fun _ h => by omega⟩⟩
                        case round =>
                          obtain ⟨c1, is, rfl, rfl, hc1, HR⟩ := hrel
                          cases is with
                          | true =>
                            have HF : Hid P6 := HR.out.1 rfl
                            go_wp2_with fail
                            go_meet
                            exact ⟨true, rfl, ⟨fun _ => HF.out, fun _ => rfl⟩, rfl⟩
                          | false =>
                            by_cases hcn : c1 < n
                            · have hcnI : (c1 : Int) < (n : Int) := by omega
                              obtain ⟨rc, hrc, gc, cc, fc, lc, Bc⟩ := HB1.out.1.get hcn
                              have cac := HCA.out.1 c1 hcn
                              have ccb := cc b hltb
                              obtain ⟨v1, hv1⟩ : ∃ v, one' a c1 = v := ⟨_, rfl⟩
                              obtain ⟨v2, hv2⟩ : ∃ v, one' c1 b = v := ⟨_, rfl⟩
                              rw [hv1] at cac
                              rw [hv2] at ccb
                              have HV := Lib.hid (And.intro hv1 hv2)
                              have HR0 := Lib.hid (HR.out.2 rfl).1
                              have HR1 := Lib.hid (HR.out.2 rfl).2
                              clear hv1 hv2 cc fc hrc
                              cases v1 with
                              | false =>
                                go_wp2_with fail
                                go_round
                                case rel => exact ⟨c1 + 1, false, by go_num, rfl, by omega, (fun h => by cases h), fun _ => ⟨HR0.out, fun c' h1 h2 h3 => by
                                  by_cases e : c' = c1
                                  · subst e; rw [HV.out.1] at h2; cases h2
                                  · exact HR1.out c' (by omega) h2 h3⟩⟩
                                case measure => simp [intOf]; omega
                              | true =>
                                go_wp2_with fail
                                go_round
                                case rel => exact ⟨c1 + 1, v2, by go_num, rfl, by omega, fun h => by rw [← HP6.out]; exact .inr ⟨c1, hcn, HV.out.1, HV.out.2.trans h⟩, fun h => ⟨HR0.out, fun c' h1 h2 h3 => by
                                  by_cases e : c' = c1
                                  · subst e; rw [HV.out.2, h] at h3; cases h3
                                  · exact HR1.out c' (by omega) h2 h3⟩⟩
                                case measure => simp [intOf]; omega
                            · obtain rfl : n = c1 := by omega
                              have HF : Hid (¬ P6) := fun h => by
                                rw [← HP6.out] at h
                                rcases h with h | ⟨c', h1, h2, h3⟩
                                · rw [(HR.out.2 rfl).1] at h; cases h
                                · exact (HR.out.2 rfl).2 c' h1 h2 h3
                              go_wp2_with fail
                              go_meet
                              exact ⟨false, rfl, ⟨fun h => (by cases h), fun h => absurd h HF.out⟩, rfl⟩
                      case rest =>
                        obtain ⟨i6, rfl, H6, rfl⟩ := hcut
                        obtain ⟨bt, offt, hxa, Ka, nka, cka, rfl, hbt, ta0, ta1, hka, hkam, hkar, -, -⟩ := terms_get (HTS.out.below stays_term HB1.out.2.2.2.1 (Nat.le_refl _)) (i := a) (by rw [HN.out]; exact hlt)
                        obtain ⟨bt2, offt2, hxb, Kb, nkb, ckb, e2, -, tb0, tb1, hkb, hkbm, hkbr, -, -⟩ := terms_get (HTS.out.below stays_term HB1.out.2.2.2.1 (Nat.le_refl _)) (i := b) (by rw [HN.out]; exact hltb)
                        injection e2 with e2
                        injection e2 with e2 e3
                        subst e2
                        subst e3
                        have hta := List.getElem?_eq_getElem hxa
                        have htb := List.getElem?_eq_getElem hxb
                        generalize ts[a] = t at ta0 ta1 hkar hta
                        generalize ts[b] = u at tb0 tb1 hkbr htb
                        have hgt := HG.out.1 a t hta
                        have hgu := HG.out.1 b u htb
                        have hzw := HB1.out.2.2.2.1.size
                        obtain ⟨hbX, k1X, k2X, hsX⟩ := two_boxes wc 73 73 #[.int .i64 t.head, .slice Ka nka cka] #[.int .i64 u.head, .slice Kb nkb ckb]
                        have HBX := Lib.hid (And.intro hbX (And.intro k1X (And.intro k2X hsX)))
                        have HTU := Lib.hid (And.intro hta (And.intro htb (And.intro hgt (And.intro hgu (And.intro hkar hkbr)))))
                        clear hta htb hgt hgu hkar hkbr hbX k1X k2X hsX ga gb cab fab fba fa fb
                        have hbtw : bt < wc.heap.size := by omega
                        go_upto_region 29 with fail
                        obtain ⟨X, hX⟩ : ∃ X, (wc.alloc (.cells #[.int .i64 t.head, .slice Ka nka cka] 73)).alloc (.cells #[.int .i64 u.head, .slice Kb nkb ckb] 73) = X := ⟨_, rfl⟩
                        rw [hX] at HBX
                        rw [hX]
                        clear hX ta0 ta1 tb0 tb1
                        have p0 : X.cell? ⟨wc.heap.size, 0, none⟩ = some (.int .i64 t.head) := HBX.out.2.1.cell 0
                        have p1 : X.cell? ⟨wc.heap.size, 1, none⟩ = some (.slice Ka nka cka) := HBX.out.2.1.cell 1
                        have p2 : X.cell? ⟨wc.heap.size + 1, 0, none⟩ = some (.int .i64 u.head) := HBX.out.2.2.1.cell 0
                        have p3 : X.cell? ⟨wc.heap.size + 1, 1, none⟩ = some (.slice Kb nkb ckb) := HBX.out.2.2.1.cell 1
                        have HTX := Lib.hid (HB1.out.1.later HBX.out.1)
                        obtain ⟨ra2, hra2, ga, ca0, fa0, la2, -⟩ := HTX.out.get hlt
                        obtain rfl : ra = ra2 := by rw [hra] at hra2; injection hra2
                        have cab := ca0 b hltb
                        have fab := fa0 b
                        rw [HV0.out] at cab
                        clear ca0 fa0 hra2 la
                        have HRR := Lib.hid (And.intro hra hrb)
                        clear hra hrb
                        -- what both ways that add do: two stores, and the round's end
                        cases v0 with
                        | true =>
                          have HI : Hid (i6 = true) := H6.out.2 (by rw [← HP6.out]; exact .inl rfl)
                          have hi6 := HI.out
                          subst hi6
                          clear HI
                          go_wp2_with fail
                          go_roundw
                          case rel => exact ⟨b + 1, ch, one', by go_num, rfl, by omega, HTX.out, HB1.out.2.1, HB1.out.2.2.1, HB1.out.2.2.2.1.trans (HBX.out.1.mono hzw), HB1.out.2.2.2.2.1, fun h => ⟨(HB1.out.2.2.2.2.2 h).1, (HB1.out.2.2.2.2.2 h).2.step (StillAt.of_true (by rw [← (HB1.out.2.2.2.2.2 h).1]; exact HV0.out))⟩⟩
                          case measure => simp [intOf]; omega
                        | false =>
                          cases i6 with
                          | true =>
                            have HCo : Hid (Cong ts ps a b) := by
                              have h := H6.out.1 rfl
                              rw [← HP6.out] at h
                              rcases h with h | ⟨c', h1, h2, h3⟩
                              · cases h
                              · exact (HB1.out.2.1.sound a c' hlt h1 h2).trans (HB1.out.2.1.sound c' b h1 hltb h3)
                            go_upto_region 37 with fail
                            have hgY : X.grownBy (X.setCell ⟨ra, b, none⟩ (.bool true)) (some ra) := one_only (only_refl X (some ra)) b (.bool true)
                            have hTY : Tab (X.setCell ⟨ra, b, none⟩ (.bool true)) w.heap.size n g rbs (upd one' a b) := Tab.put (HTX.out) (b := b) HRR.out.1
                            have hBY : Below w.heap.size w X := HB1.out.2.2.2.1.trans (HBX.out.1.mono hzw)
                            obtain ⟨Y, hY⟩ : ∃ Y, X.setCell ⟨ra, b, none⟩ (.bool true) = Y := ⟨_, rfl⟩
                            rw [hY] at hgY hTY
                            try rw [hY]
                            clear hY
                            obtain ⟨rb2, hrb2, gbY, cbY0, fbY0, lbY, -⟩ := hTY.get hltb
                            obtain rfl : rb = rb2 := by have := HRR.out.2; rw [this] at hrb2; injection hrb2
                            have cbY := cbY0 a hlt
                            have fbY := fbY0 a
                            have HY := Lib.hid (And.intro hgY (And.intro hTY hBY))
                            clear hgY hTY hBY cbY0 fbY0 hrb2
                            go_wp2_with fail
                            go_roundw
                            case rel =>
                              have hT2 := HY.out.2.1.put (b := a) HRR.out.2
                              have hzY := HY.out.1.size
                              have hz0 := HY.out.2.2.size
                              refine ⟨b + 1, true, _, by go_num, rfl, by omega, hT2, HB1.out.2.1.put HCo.out, (fun x y h => upd_mono (upd_mono (HB1.out.2.2.1 x y h))), ?_, (fun _ => ?_), (fun h => by cases h)⟩
                              · exact below_then (below_then HY.out.2.2 HY.out.1 hz0 (fun x hx => by injection hx with hx; omega)) (one_only (only_refl Y (some rb)) a (.bool true)) (by omega) (fun x hx => by injection hx with hx; omega)
                              · refine falsesN_lt (fun x y _ _ h => upd_mono (upd_mono (HB1.out.2.2.1 x y h))) hlt hltb ?_ (upd_mono (upd_same one' a b))
                                cases h : one0 a b with
                                | false => rfl
                                | true => have h1 := HB1.out.2.2.1 a b h; rw [HV0.out] at h1; cases h1
                            case measure => simp [intOf]; omega
                          | false =>
                            have HNC : Hid (∀ c', c' < n → one' a c' = true → one' c' b = true → False) := fun c' h1 h2 h3 => by
                              have h : P6 := by rw [← HP6.out]; exact .inr ⟨c', h1, h2, h3⟩
                              have := H6.out.2 h
                              cases this
                            have hlt1 := HTU.out.2.2.2.2.1.len
                            have hlt2 := HTU.out.2.2.2.2.2.len
                            by_cases hal : t.head = u.head ∧ nka = nkb
                            · obtain ⟨hh, hkl⟩ := hal
                              subst hkl
                              have hhb : (t.head == u.head) = true := by simpa using hh
                              have HAL : Hid (alikeT t u = true) := by show _ = _; unfold alikeT; rw [decide_eq_true hh, decide_eq_true (hlt1.trans hlt2.symm)]; rfl
                              have HHH := Lib.hid hh
                              have HLL := Lib.hid (hlt1.trans hlt2.symm)
                              obtain ⟨tot, htot⟩ : ∃ b, kidsOne one' t.kids u.kids = b := ⟨_, rfl⟩
                              have HTOT := Lib.hid htot
                              have hka3 : nka ≤ 1000 := by have := HTU.out.2.2.1.1; omega
                              have HLT := Lib.hid hlt1
                              clear hh hlt1 hlt2 htot
                              go_wp2_with fail
                              go_loopw [12, 16] (fun s12 s16 wr => ∃ (k : Nat) (is : Bool), s16 = .int .i64 (k : Int) ∧ s12 = .bool is ∧ k ≤ nka ∧ Hid ((is && kidsOne one' (t.kids.drop k) (u.kids.drop k)) = tot) ∧ ∃ nd, wr = X.drewN nd) (fun _ s16 _ => nka - (intOf s16).toNat)
                              case atStart => exact ⟨0, true, rfl, rfl, Nat.zero_le _, HTOT, 0, rfl⟩
                              case round =>
                                obtain ⟨k, is, rfl, rfl, hk, HK, nd, rfl⟩ := hrel
                                by_cases hlk : k < nka
                                · have hlkI : (k : Int) < (nka : Int) := by omega
                                  cases is with
                                  | false =>
                                    have h0 : tot = false := by rw [← HK.out]; rfl
                                    go_wp2_with fail
                                    go_quiet (fail)
                                    go_wp2_with fail
                                    go_roundw
                                    case rel => exact ⟨k + 1, false, by go_num, rfl, by omega, by show _ = _; rw [h0]; rfl, _, rfl⟩
                                    case measure => simp [intOf]; omega
                                  | true =>
                                    obtain ⟨b5, off5, hx5, rfl, hb5, hc5, -, -⟩ := ints_get (HTU.out.2.2.2.2.1.below stays_int (HBX.out.1.mono hzw) (Nat.le_refl _)) hlk
                                    obtain ⟨b6, off6, hx6, rfl, hb6, hc6, -, -⟩ := ints_get (HTU.out.2.2.2.2.2.below stays_int (HBX.out.1.mono hzw) (Nat.le_refl _)) hlk
                                    have hm5 := HTU.out.2.2.1.2 _ (List.getElem_mem hx5)
                                    have hm6 := HTU.out.2.2.2.1.2 _ (List.getElem_mem hx6)
                                    have e1 := HK.out
                                    rw [drop_cons hx5, drop_cons hx6, kidsOne, Bool.true_and] at e1
                                    generalize t.kids[k] = x at hc5 hm5 e1
                                    generalize u.kids[k] = y at hc6 hm6 e1
                                    obtain ⟨x, rfl⟩ : ∃ x' : Nat, x = x' := ⟨x.toNat, by omega⟩
                                    obtain ⟨y, rfl⟩ : ∃ y' : Nat, y = y' := ⟨y.toNat, by omega⟩
                                    simp only [Int.toNat_natCast] at e1
                                    have hxn : x < n := by omega
                                    have hyn : y < n := by omega
                                    have hxI : (x : Int) < (n : Int) := by omega
                                    have hyI : (y : Int) < (n : Int) := by omega
                                    obtain ⟨rx, hrx, gx, cx0, -, lx, -⟩ := HTX.out.get hxn
                                    have cx := cx0 y hyn
                                    obtain ⟨v3, hv3⟩ : ∃ v, one' x y = v := ⟨_, rfl⟩
                                    rw [hv3] at cx e1
                                    have HE := Lib.hid e1
                                    clear hm5 hm6 e1 cx0 hrx hv3 hx5 hx6
                                    go_wp2_with fail
                                    go_quiet (fail)
                                    go_wp2_with fail
                                    go_roundw
                                    case rel => exact ⟨k + 1, v3, by go_num, rfl, by omega, HE, _, rfl⟩
                                    case measure => simp [intOf]; omega
                                · obtain rfl : nka = k := by omega
                                  have e1 := HK.out
                                  rw [List.drop_of_length_le (by have := HLT.out; omega), kidsOne, Bool.and_true] at e1
                                  subst e1
                                  clear HK
                                  cases is with
                                  | true =>
                                    have HCo : Hid (Cong ts ps a b) := by
                                      refine Cong.app HTU.out.1 HTU.out.2.1 HHH.out HLL.out fun m x y hx hy => ?_
                                      have h1 := (kidsOne_iff HLL.out).1 HTOT.out m x y hx hy
                                      have h2 := HTU.out.2.2.1.2 x (List.mem_of_getElem? hx)
                                      have h3 := HTU.out.2.2.2.1.2 y (List.mem_of_getElem? hy)
                                      exact HB1.out.2.1.sound _ _ (by omega) (by omega) h1
                                    go_upto_region 37 with fail
                                    have hgY : (X.drewN nd).grownBy ((X.drewN nd).setCell ⟨ra, b, none⟩ (.bool true)) (some ra) := one_only (only_refl (X.drewN nd) (some ra)) b (.bool true)
                                    have hTY : Tab ((X.drewN nd).setCell ⟨ra, b, none⟩ (.bool true)) w.heap.size n g rbs (upd one' a b) := Tab.put (HTX.out.later (below_drewN (Below.refl _ _) nd)) (b := b) HRR.out.1
                                    have hBY : Below w.heap.size w (X.drewN nd) := below_drewN (HB1.out.2.2.2.1.trans (HBX.out.1.mono hzw)) nd
                                    obtain ⟨Y, hY⟩ : ∃ Y, (X.drewN nd).setCell ⟨ra, b, none⟩ (.bool true) = Y := ⟨_, rfl⟩
                                    rw [hY] at hgY hTY
                                    try rw [hY]
                                    clear hY
                                    obtain ⟨rb2, hrb2, gbY, cbY0, fbY0, lbY, -⟩ := hTY.get hltb
                                    obtain rfl : rb = rb2 := by have := HRR.out.2; rw [this] at hrb2; injection hrb2
                                    have cbY := cbY0 a hlt
                                    have fbY := fbY0 a
                                    have HY := Lib.hid (And.intro hgY (And.intro hTY hBY))
                                    clear hgY hTY hBY cbY0 fbY0 hrb2
                                    go_wp2_with fail
                                    go_roundw
                                    case rel =>
                                      have hT2 := HY.out.2.1.put (b := a) HRR.out.2
                                      have hzY := HY.out.1.size
                                      have hz0 := HY.out.2.2.size
                                      refine ⟨b + 1, true, _, by go_num, rfl, by omega, hT2, HB1.out.2.1.put HCo.out, (fun x y h => upd_mono (upd_mono (HB1.out.2.2.1 x y h))), ?_, (fun _ => ?_), (fun h => by cases h)⟩
                                      · exact below_then (below_then HY.out.2.2 HY.out.1 hz0 (fun x hx => by injection hx with hx; omega)) (one_only (only_refl Y (some rb)) a (.bool true)) (by omega) (fun x hx => by injection hx with hx; omega)
                                      · refine falsesN_lt (fun x y _ _ h => upd_mono (upd_mono (HB1.out.2.2.1 x y h))) hlt hltb ?_ (upd_mono (upd_same one' a b))
                                        cases h : one0 a b with
                                        | false => rfl
                                        | true => have h1 := HB1.out.2.2.1 a b h; rw [HV0.out] at h1; cases h1
                                    case measure => simp [intOf]; omega
                                  | false =>
                                    have HSA : Hid (StillAt ts n one' a b) := ⟨fun c' h1 h2 h3 => (HNC.out c' h1 h2 h3).elim, fun t' u' ht' hu' _ hk' => by
                                      rw [HTU.out.1] at ht'
                                      rw [HTU.out.2.1] at hu'
                                      injection ht' with ht'
                                      injection hu' with hu'
                                      subst ht'
                                      subst hu'
                                      rw [HTOT.out] at hk'
                                      cases hk'⟩
                                    go_wp2_with fail
                                    go_roundw
                                    case rel => exact ⟨b + 1, ch, one', by go_num, rfl, by omega, HTX.out.later (below_drewN (Below.refl _ _) nd), HB1.out.2.1, HB1.out.2.2.1, below_drewN (HB1.out.2.2.2.1.trans (HBX.out.1.mono hzw)) nd, HB1.out.2.2.2.2.1, fun h => ⟨(HB1.out.2.2.2.2.2 h).1, (HB1.out.2.2.2.2.2 h).2.step (by rw [← (HB1.out.2.2.2.2.2 h).1]; exact HSA.out)⟩⟩
                                    case measure => simp [intOf]; omega
                            · have HSA : Hid (StillAt ts n one' a b) := ⟨fun c' h1 h2 h3 => (HNC.out c' h1 h2 h3).elim, fun t' u' ht' hu' hal' _ => by
                                rw [HTU.out.1] at ht'
                                rw [HTU.out.2.1] at hu'
                                injection ht' with ht'
                                injection hu' with hu'
                                subst ht'
                                subst hu'
                                unfold alikeT at hal'
                                rw [Bool.and_eq_true] at hal'
                                exact absurd ⟨of_decide_eq_true hal'.1, by have := of_decide_eq_true hal'.2; omega⟩ hal⟩
                              by_cases hh : t.head = u.head
                              · have hkl : ¬ nka = nkb := fun e => hal ⟨hh, e⟩
                                have hhb : (t.head == u.head) = true := by simpa using hh
                                have hlb : ((nka : Int) == (nkb : Int)) = false := by rw [beq_eq_false_iff_ne]; omega
                                have hlb2 : (nka == nkb) = false := by simpa using hkl
                                clear hal hh hlt1 hlt2 hkl
                                go_wp2_with fail
                                go_roundw
                                case rel => exact ⟨b + 1, ch, one', by go_num, rfl, by omega, HTX.out, HB1.out.2.1, HB1.out.2.2.1, HB1.out.2.2.2.1.trans (HBX.out.1.mono hzw), HB1.out.2.2.2.2.1, fun h => ⟨(HB1.out.2.2.2.2.2 h).1, (HB1.out.2.2.2.2.2 h).2.step (by rw [← (HB1.out.2.2.2.2.2 h).1]; exact HSA.out)⟩⟩
                                case measure => simp [intOf]; omega
                              · have hhb : (t.head == u.head) = false := by simpa using hh
                                clear hal hh hlt1 hlt2
                                go_wp2_with fail
                                go_roundw
                                case rel => exact ⟨b + 1, ch, one', by go_num, rfl, by omega, HTX.out, HB1.out.2.1, HB1.out.2.2.1, HB1.out.2.2.2.1.trans (HBX.out.1.mono hzw), HB1.out.2.2.2.2.1, fun h => ⟨(HB1.out.2.2.2.2.2 h).1, (HB1.out.2.2.2.2.2 h).2.step (by rw [← (HB1.out.2.2.2.2.2 h).1]; exact HSA.out)⟩⟩
                                case measure => simp [intOf]; omega
                    · obtain rfl : n = b := by omega
                      go_wp2_with fail
                      go_roundw
                      case rel => exact ⟨a + 1, ch, one', by go_num, rfl, by omega, HB1.out.1, HB1.out.2.1, HB1.out.2.2.1, HB1.out.2.2.2.1, HB1.out.2.2.2.2.1, fun h => ⟨(HB1.out.2.2.2.2.2 h).1, (HB1.out.2.2.2.2.2 h).2.row⟩⟩
                      case measure => simp [intOf]; omega
                · obtain rfl : n = a := by omega
                  go_wp2_with fail
                  go_roundg g0
                  case measure => omega
                  case rel => exact ⟨ch, one1, rfl, HA1.out.1, HA1.out.2.1, fun x y h => by obtain ⟨h1, h2, h3⟩ := HC0.out.2.2.1 x y h; exact ⟨h1, h2, HA1.out.2.2.1 _ _ h3⟩, HA1.out.2.2.2.1, fun h => by have := HA1.out.2.2.2.2.1 h; omega, fun h => by obtain ⟨h1, h2⟩ := HA1.out.2.2.2.2.2 h; exact ⟨h1 ▸ h2, by omega⟩⟩
end Go.Proofs.YthjfiomcpihlaaaGreat
