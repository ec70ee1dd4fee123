/- Walk: package long's made: digits become bytes, bytes a string. · Walks: math/bits.Len32, LeadingZeros32. · Walks: package long's cmp. · Walks: package long's Bits, limited, Of, Cmp. -/
import Derived.Test.YtkkpfdfoojcljaaGreatLgGI
import Derived.Test.YtkkpfdfoojcljaaGreatOuOC
import Derived.Laws.BytesArg
import Derived.Test.YtkkpfdfoojcljaaGreatLgAV
import Derived.Test.YtkkpfdfoojcljaaGreatProg
import Derived.Deep.QuietTactic
import Derived.BigQuiet
namespace Go.Proofs.YtkkpfdfoojcljaaGreat
open Go.RowKit

def VB : Val UInt8 := fun _ _ cs x => cs = [.int .u8 (x.toNat : Int)]
theorem tells_b : Tells VB 1 := ⟨fun _ _ _ _ _ _ _ _ h => h, fun _ _ _ _ h => by rw [h]; rfl, fun _ _ _ _ h u hu => by rw [h] at hu; simp only [List.mem_singleton] at hu; rw [hu]; rfl⟩
def AtB : Ent UInt8 := fun w _ b o x => w.cell? ⟨b, o, none⟩ = some (.int .u8 (x.toNat : Int))
theorem atV_b : ∀ (w : World) (S : Nat → Prop) (b o : Nat) (x : UInt8), AtV VB w S b o x → AtB w S b o x := fun w S b o x ⟨cs, h0, hc⟩ => by rw [h0] at hc; exact hc 0 _ rfl
theorem atV_b' : ∀ (w : World) (S : Nat → Prop) (b o : Nat) (x : UInt8), AtB w S b o x → AtV VB w S b o x := fun w S b o x h => ⟨_, rfl, fun j u hj => by
  rcases j with _ | j
  · simp only [List.getElem?_cons_zero, Option.some.injEq] at hj
    rw [← hj]; exact h
  · simp at hj⟩
theorem infoB : (Tryz.prog.info? 5).map (fun i => (i.zero, i.size, i.bytes)) = some (some (.int .u8 0), 1, 1) := by kernel_rfl
theorem rowB : RowT Tryz.prog 132 5 1 1 := rowT_of Tryz.underlying132 infoB rfl (by omega)
abbrev OwnB (w : World) (B : Nat) (S : Nat → Prop) (v : Value) (l : List UInt8) : Prop := OwnV VB 5 1 w B S v l
theorem cels_b {w w' : World} {S S' : Nat → Prop} : ∀ (l : List UInt8) (cs : List Value), Cels VB w S l cs → Cels VB w' S' l cs
  | [], _, h => h
  | _ :: r, _, ⟨c0, c1, e, h0, h1⟩ => ⟨c0, c1, e, h0, cels_b r c1 h1⟩
theorem OwnB.any {w : World} {B : Nat} {S S' : Nat → Prop} {v : Value} {l : List UInt8} (h : OwnB w B S v l) : OwnB w B S' v l := by
  obtain ⟨cells, h1, h2⟩ := h
  exact ⟨cells, h1, cels_b _ _ h2⟩
theorem OwnB.later {w w' : World} {B : Nat} {v : Value} {l : List UInt8} (h : OwnB w B (fun _ => False) v l) (hb : w.grownBy w' none) : OwnB w' B (fun _ => False) v l := OwnV.kept tells_b h hb (by cases v.ownBlock <;> simp) (fun _ hb => False.elim hb)
theorem make_b (c : Nat) (hc : c ≤ 1000000) (W : World) : (Instr.makeSlice 132 (.int .i64 0) (.int .i64 (c : Int))).run Tryz.prog W = .ok (.slice (some ⟨W.heap.size, 0, none⟩) 0 c) (W.alloc (.cells (madeCells #[.int .u8 0] c) 5)) := by
  obtain ⟨i0, hi, hz0, hz1, hz2⟩ := info_parts infoB
  have h := run_make (P := Tryz.prog) W 132 5 i0 (.int .u8 0) Tryz.underlying132 hi hz0 .i64 .i64 0 c (by omega) (by omega) (by rw [hz2]; omega) (by omega)
  rw [hz1, Int.toNat_zero, Int.toNat_natCast, Nat.mul_one] at h
  exact h
theorem own_madeB (W : World) {B c : Nat} (S : Nat → Prop) (hB : B ≤ W.heap.size) (hc : c ≤ 1000000) : OwnB (W.alloc (.cells (madeCells #[.int .u8 0] c) 5)) B S (.slice (some ⟨W.heap.size, 0, none⟩) 0 c) [] :=
  ⟨[], ⟨by simp, .inr ⟨W.heap.size, c, _, rfl, hB, heap_alloc_new W _, by simp, by unfold maxLen; omega, by simp [size_madeCells], by simp⟩⟩, rfl⟩
/-- the row as a string -/
theorem OwnB.str {w : World} {B : Nat} {S : Nat → Prop} {v : Value} {l : List UInt8} (h : OwnB w B S v l) : (convert 132 9 v).run Tryz.prog w = .ok (.string ⟨l.toArray⟩) w := by
  have hr := h.reads tells_b atV_b (S' := fun _ => True) (fun _ _ => trivial) (fun _ _ => trivial)
  obtain ⟨A, c, rfl, -, -, ha⟩ := hr
  rcases l with _ | ⟨y, r⟩
  · rcases A with _ | ⟨b, off, sub⟩
    · exact run_convert_bytes_nil w 132 5 Tryz.underlying132 Tryz.underlying5 _ _ 9 Tryz.underlying9
    · have hsub : sub = none := by
        obtain ⟨cells, ho, -⟩ := h
        rcases ho.2 with ⟨e, -⟩ | ⟨g, cap, cur, e, -⟩
        · cases e
        · injection e with e; injection e with e; injection e
      subst hsub
      exact run_convert_bytes_arg w 132 5 Tryz.underlying132 Tryz.underlying5 b off 0 c [] rfl (fun i hi => absurd hi (Nat.not_lt_zero _)) 9 Tryz.underlying9
  · obtain ⟨b, off, rfl, -, -⟩ := ha.at_ 0 y rfl
    have := run_convert_bytes_arg w 132 5 Tryz.underlying132 Tryz.underlying5 b off (y :: r).length c ((y :: r).map fun x => (x.toNat : Int)) (by simp) (fun i hi => by
      obtain ⟨b', off', e, -, hc⟩ := ha.at_ i (y :: r)[i] (List.getElem?_eq_getElem hi)
      injection e with e
      injection e with e1 e2
      subst e1 e2
      unfold AtB at hc
      rw [Nat.mul_one] at hc
      rw [hc, List.getD, List.getElem?_map, List.getElem?_eq_getElem hi]; rfl) 9 Tryz.underlying9
    rw [this]
    have e2 : strOfNums ((y :: r).map fun x => (x.toNat : Int)) = ⟨(y :: r).toArray⟩ := by
      unfold strOfNums
      rw [List.map_map]
      have e3 : (y :: r).map ((fun n : Int => UInt8.ofNat n.toNat) ∘ fun x : UInt8 => (x.toNat : Int)) = y :: r := (List.map_congr_left (fun x _ => by simp)).trans (List.map_id _)
      rw [e3]
    rw [e2]
theorem lng_of (ng : Bool) {N : Nat} {t : List Nat} (ht : digN N = t) : Lng (if ng then -(N : Int) else (N : Int)) = .agg #[.bool (ng && decide (0 < t.length)), .string (sizeB t)] := by
  have h0 : (0 < t.length) ↔ ¬ N = 0 := by
    rw [← digN_nil_iff, ht, List.length_pos_iff]
  cases ng with
  | true =>
    have e1 : decide (-(N : Int) < 0) = decide (0 < t.length) := by
      rw [decide_eq_decide, h0]; omega
    simp only [if_true, Bool.true_and]
    unfold Lng
    rw [e1, Int.natAbs_neg, Int.natAbs_natCast, ht]
  | false =>
    have e1 : decide ((N : Int) < 0) = false := by simp
    simp only [Bool.false_and]
    unfold Lng
    rw [if_neg (by simp), e1, Int.natAbs_natCast, ht]
theorem four_row {W : World} {g x : Nat} {ty : TypeId} (hx : x < 4294967296) (h : Blk W g ty #[.int .u8 ((x : Int) % 256), .int .u8 ((x : Int) / 256 % 256), .int .u8 ((x : Int) / 65536 % 256), .int .u8 ((x : Int) / 16777216)]) : Arr AtB 1 W (fun b => b = g) (some ⟨g, 0, none⟩) 4 (by4 x) := by
  have e0 : (((UInt8.ofNat x).toNat : Nat) : Int) = (x : Int) % 256 := by simp
  have e1 : (((UInt8.ofNat (x / 256)).toNat : Nat) : Int) = (x : Int) / 256 % 256 := by simp
  have e2 : (((UInt8.ofNat (x / 65536)).toNat : Nat) : Int) = (x : Int) / 65536 % 256 := by simp
  have e3 : (((UInt8.ofNat (x / 16777216)).toNat : Nat) : Int) = (x : Int) / 16777216 := by simp; omega
  rw [← e0, ← e1, ← e2, ← e3] at h
  exact row_of_blk (S := fun b => b = g) tells_b atV_b h (xs := by4 x) ⟨[_], [_, _, _], rfl, rfl, [_], [_, _], rfl, rfl, [_], [_], rfl, rfl, [_], [], rfl, rfl, rfl⟩ rfl
/-- the bytes of one digit more -/
theorem bytes_snoc {t : List Nat} {i x : Nat} (h : t[i]? = some x) : bytesL (t.take (i + 1)) = bytesL (t.take i) ++ by4 x := by
  rw [List.take_add_one, h]
  unfold bytesL
  simp
set_option maxRecDepth 100000 in
set_option maxHeartbeats 2000000 in
theorem made_any (ng : Bool) (A : Option Addr) (n c : Nat) (l : List Nat) (w : World) (B : Nat) (hB : B ≤ w.heap.size) (h : DigsB w B A n l) (hn : n ≤ c) (hc : c ≤ maxLen) (hl : n ≤ 100000) :
    Calls Tryz.prog 90 #[.bool ng, .slice A n c] w fun e w' => e = .returned (Lng (if ng then -(valL l : Int) else (valL l : Int))) ∧ Below w.heap.size w w' := by
  have hlen := h.len
  have hfin := lng_of ng (N := valL l) rfl
  generalize Lng (if ng then -(valL l : Int) else (valL l : Int)) = R at hfin ⊢
  have hfin := Lib.hid hfin
  go_enter Tryz.func90, Tryz.ntmps90
  go_wp2_with fail
  refine (trim_any A n c l _ B (h.alloc stays_u hB _) hn hc).mono ?_
  rintro e w1 ⟨rfl, rfl, hk, htk⟩
  have ht : DigsB (w.alloc (.cells #[.bool false, .string ⟨#[]⟩] 86)) B A (digN (valL l)).length (digN (valL l)) := by
    have := Arr.take (h.alloc stays_u hB (.cells #[.bool false, .string ⟨#[]⟩] 86)) (k := (digN (valL l)).length) (by omega)
    rwa [htk] at this
  have hcan := (canon_digN (valL l)).1
  have hvv := val_digN (valL l)
  clear htk h
  rw [hlen] at hk
  clear hlen
  generalize digN (valL l) = t at *
  obtain ⟨k, hk'⟩ : ∃ k, t.length = k := ⟨_, rfl⟩
  rw [hk'] at hk ht ⊢
  have HT := Lib.hid (And.intro ht (And.intro hk' (And.intro hcan hfin)))
  clear ht hk' hcan hfin hvv
  have hmk := make_b (4 * k) (by omega)
  simp only [Int.natCast_mul, Int.cast_ofNat_Int] at hmk
  go_wp2_with fail
  obtain ⟨W1, hW1⟩ : ∃ W1, W1 = w.alloc (.cells #[.bool false, .string ⟨#[]⟩] 86) := ⟨_, rfl⟩
  have hz1 : W1.heap.size = w.heap.size + 1 := by rw [hW1]; simp
  have hr1 : Blk W1 w.heap.size 86 #[.bool false, .string ⟨#[]⟩] := by rw [hW1]; exact Blk.new w _ _
  have hbw : Below w.heap.size w W1 := by rw [hW1]; exact (Below.refl _ _).alloc (Nat.le_refl _) _
  have HW := Lib.hid (And.intro hr1 (And.intro hbw hz1))
  have HT' : Hid (DigsB W1 B A k t ∧ t.length = k ∧ Digs t ∧ R = .agg #[.bool (ng && decide (0 < t.length)), .string (sizeB t)]) := by
    rw [hW1]; exact ⟨HT.out.1, HT.out.2.1, HT.out.2.2.1, HT.out.2.2.2.out⟩
  have ho0 := own_madeB W1 (B := w.heap.size + 1) (c := 4 * k) (fun _ => False) (by omega) (by omega)
  have hb0 : Below (w.heap.size + 1) W1 (W1.alloc (.cells (madeCells #[.int .u8 0] (4 * k)) 5)) := (Below.refl _ _).alloc (by omega) _
  rw [hz1] at ho0
  have H0 := Lib.hid (And.intro ho0 hb0)
  rw [← hW1]
  clear ho0 hb0 hr1 hbw HT hW1 hmk hz1
  go_loopw [5, 16] (fun s5 s16 wr => ∃ (i : Nat), s16 = .int .i64 (i : Int) ∧ i ≤ k ∧ Hid (OwnB wr (w.heap.size + 1) (fun _ => False) s5 (bytesL (t.take i)) ∧ Below (w.heap.size + 1) W1 wr)) (fun _ s16 _ => k - (intOf s16).toNat)
  case atStart => exact ⟨0, rfl, by omega, H0.out⟩
  case round =>
    clear H0
    obtain ⟨i, rfl, hi, HD⟩ := hrel
    by_cases hil : i < k
    · have hilI : (i : Int) < (k : Int) := by omega
      obtain ⟨b, off, x, hx, rfl, hb, hcell0, hx32⟩ := digs_get HT'.out.1 hil
      have hcell := (HD.out.2.cell (p := ⟨b, off + i, none⟩) (by show b < _; omega)).trans hcell0
      have HX := Lib.hid hx
      clear hcell0 hx
      obtain ⟨A5, c5, rfl, hc5, hc5m⟩ := HD.out.1.len
      obtain ⟨lb, hlb⟩ : ∃ lb, (bytesL (t.take i)).length = lb := ⟨_, rfl⟩
      rw [hlb] at hc5 HD ⊢
      have HL := Lib.hid (And.intro hc5 (And.intro hc5m hlb))
      clear hc5 hc5m hlb
      have hbn := Blk.new wr 5 #[.int .u8 ((x : Int) % 256), .int .u8 ((x : Int) / 256 % 256), .int .u8 ((x : Int) / 65536 % 256), .int .u8 ((x : Int) / 16777216)]
      have hba := (Below.refl wr.heap.size wr).alloc (Nat.le_refl _) (.cells #[.int .u8 ((x : Int) % 256), .int .u8 ((x : Int) / 256 % 256), .int .u8 ((x : Int) / 65536 % 256), .int .u8 ((x : Int) / 16777216)] 5)
      have hrow := four_row hx32 hbn
      have hsz2 : wr.heap.size < (wr.alloc (.cells #[.int .u8 ((x : Int) % 256), .int .u8 ((x : Int) / 256 % 256), .int .u8 ((x : Int) / 65536 % 256), .int .u8 ((x : Int) / 16777216)] 5)).heap.size := hbn.lt
      have hzw : w.heap.size + 1 ≤ wr.heap.size := by have := HD.out.2.size; have := HW.out.2.2; omega
      have hown := OwnB.any (S' := fun b => b = wr.heap.size) (HD.out.1.later (only_of_below hba none))
      have hown0 := HD.out.1.lt
      have HO := Lib.hid (And.intro hown (And.intro hrow (And.intro hba hown0)))
      have hlb4 : lb ≤ 400000 := by
        have h1 := HL.out.2.2
        rw [bytes_len, List.length_take] at h1
        omega
      clear hbn hba hrow hown hown0
      go_wp2_with (at_builtin; refine wpList_append_many rfl _ _ _ rfl rowB tells_b (v := .slice A5 lb c5) (xs := bytesL (t.take i)) (base := w.heap.size + 1) (S := fun b => b = wr.heap.size) rfl HO.out.1 atV_b' (A := some ⟨wr.heap.size, 0, none⟩) (m := 4) (c := 4) (ys := by4 x) rfl HO.out.2.1 (fun b hb => ⟨by rw [hb]; exact hsz2, fun e => by have := HO.out.2.2.2 b e; omega⟩) (by rw [HL.out.2.2]; unfold maxLen; omega) (by rw [HL.out.2.2]; omega) (by omega) ?_; intro v' w6 hown6 hgrow6 hat6; have HB6 := Lib.hid (And.intro hown6 hgrow6); clear hown6 hgrow6 hat6)
      go_roundw
      case rel => exact ⟨i + 1, by go_num, by omega, by rw [bytes_snoc HX.out]; exact OwnB.any HB6.out.1, below_then (HD.out.2.trans (HO.out.2.2.1.mono hzw)) HB6.out.2 (by simp; omega) (fun g hg => (HO.out.2.2.2 g hg).1)⟩
      case measure => simp [intOf]; omega
    · obtain rfl : i = k := by omega
      have hstr := HD.out.1.str
      rw [List.take_of_length_le (by rw [HT'.out.2.1]; exact Nat.le_refl _)] at hstr
      have hblk : Blk wr w.heap.size 86 #[.bool false, .string ⟨#[]⟩] := HW.out.1.below HD.out.2 (by omega)
      have hc0 := hblk.cell 0
      have hc1 := hblk.cell 1
      have hf0 := hblk.frozen 0
      have hf1 := hblk.frozen 1
      simp only [List.getElem?_toArray, List.getElem?_cons_zero, List.getElem?_cons_succ] at hc0 hc1
      have HE := HT'.out.2.2.2
      rw [HT'.out.2.1] at HE
      have HB : Hid (Blk wr w.heap.size 86 #[.bool false, .string ⟨#[]⟩] ∧ Below w.heap.size w wr) := ⟨hblk, HW.out.2.1.trans (HD.out.2.mono (by omega))⟩
      clear HT' HD HW hblk
      have hbs : (⟨(bytesL t).toArray⟩ : ByteArray) = sizeB t := rfl
      rw [hbs] at hstr
      generalize sizeB t = st at hstr HE
      clear hbs
      have HQ := Lib.hid HE
      clear HE
      have key : ∀ b : Bool, R = .agg #[.bool b, .string st] → ∀ Z, Z = (wr.setCell ⟨w.heap.size, 0, none⟩ (.bool b)).setCell ⟨w.heap.size, 1, none⟩ (.string st) →
          Z.cell? ⟨w.heap.size, 0, none⟩ = some (.bool b) ∧ Z.cell? ⟨w.heap.size, 1, none⟩ = some (.string st) ∧ Below w.heap.size w Z := fun b _ Z hZ => by
        have hz := (HB.out.1.set_ 0 (.bool b)).set_ 1 (.string st)
        rw [← hZ] at hz
        refine ⟨?_, ?_, ?_⟩
        · rw [hz.cell 0]; rfl
        · rw [hz.cell 1]; rfl
        · rw [hZ]; exact (HB.out.2.setCell (Nat.le_refl _) _).setCell (Nat.le_refl _) _
      have KEY := Lib.hid key
      clear key
      cases ng with
      | false =>
        go_wp2_with fail
        have hR := HQ.out
        simp only [Bool.false_and] at hR
        obtain ⟨Z, hZ⟩ : ∃ Z, Z = (wr.setCell ⟨w.heap.size, 0, none⟩ (.bool false)).setCell ⟨w.heap.size, 1, none⟩ (.string st) := ⟨_, rfl⟩
        obtain ⟨z0, z1, z2⟩ := KEY.out _ hR Z hZ
        rw [← hZ]
        refine bodyPost_ret (v := .agg #[.bool false, .string st]) (by simp [results, Tryz.results90, go_sem, z0, z1]) rfl ⟨by rw [hR], z2⟩
      | true =>
        go_wp2_with fail
        have hR := HQ.out
        simp only [Bool.true_and] at hR
        obtain ⟨Z, hZ⟩ : ∃ Z, Z = (wr.setCell ⟨w.heap.size, 0, none⟩ (.bool (decide (0 < i)))).setCell ⟨w.heap.size, 1, none⟩ (.string st) := ⟨_, rfl⟩
        obtain ⟨z0, z1, z2⟩ := KEY.out _ hR Z hZ
        rw [← hZ]
        refine bodyPost_ret (v := .agg #[.bool (decide (0 < i)), .string st]) (by simp [results, Tryz.results90, go_sem, z0, z1]) rfl ⟨by rw [hR], z2⟩
end Go.Proofs.YtkkpfdfoojcljaaGreat
namespace Go.Proofs.YtkkpfdfoojcljaaGreat
open Go.RowKit
theorem len8_at (i : Int) (h0 : 0 ≤ i) (h1 : i < 256) (W : World) : (Instr.index 9 (.string Lib.len8tab) (.int .u8 i)).run Tryz.prog W = .ok (.int .u8 (Lib.bitLen i.toNat : Int)) W := by
  rw [Lib.run_index_len8tab W 9 .u8 i Tryz.underlying9 h0 (by omega), Lib.len8_of i h0 (by omega)]
set_option maxRecDepth 100000 in
set_option maxHeartbeats 4000000 in
theorem len32_any (x : Int) (w : World) (h0 : 0 ≤ x) (h1 : x < 4294967296) :
    Calls Tryz.prog 109 #[.int .u32 x] w fun e w' => e = .returned (.int .i64 (Lib.bitLen x.toNat)) ∧ w = w' := by
  by_cases h2 : x < 65536
  · by_cases h3 : x < 256
    · have hi := len8_at x h0 h3
      have hl := Lib.bitLen_le8' x h0 (by omega)
      go_enter Tryz.func109, Tryz.ntmps109
      go_wp2
      go_ret
      exact ⟨rfl, rfl⟩
    · have hi := len8_at (x / 256) (by omega) (by omega)
      have hl := Lib.bitLen_le8' (x / 256) (by omega) (by omega)
      have hs := Lib.bitLen_shift8 x.toNat (by omega) (by omega)
      rw [show (x / 256).toNat = x.toNat / 256 by omega] at hi hl
      go_enter Tryz.func109, Tryz.ntmps109
      go_wp2
      go_ret
      exact ⟨rfl, rfl⟩
  · by_cases h3 : x / 65536 < 256
    · have hi := len8_at (x / 65536) (by omega) (by omega)
      have hl := Lib.bitLen_le8' (x / 65536) (by omega) (by omega)
      have hs := Lib.bitLen_shift16 x.toNat (by omega) (by omega)
      rw [show (x / 65536).toNat = x.toNat / 65536 by omega] at hi hl
      go_enter Tryz.func109, Tryz.ntmps109
      go_wp2
      go_ret
      exact ⟨rfl, rfl⟩
    · have hi := len8_at (x / 65536 / 256) (by omega) (by omega)
      have hl := Lib.bitLen_le8' (x / 65536 / 256) (by omega) (by omega)
      have hs := Lib.bitLen_shift24 x.toNat (by omega) (by omega)
      rw [show (x / 65536 / 256).toNat = x.toNat / 16777216 by omega] at hi hl
      go_enter Tryz.func109, Tryz.ntmps109
      go_wp2
      go_ret
      exact ⟨rfl, rfl⟩
set_option maxHeartbeats 400000 in
theorem lead32_any (x : Int) (w : World) (h0 : 0 < x) (h1 : x < 4294967296) :
    Calls Tryz.prog 114 #[.int .u32 x] w fun e w' => e = .returned (.int .i64 (32 - (Lib.bitLen x.toNat : Int))) ∧ w = w' := by
  have hl := bitLen_le32 (x := x.toNat) (by omega) (by omega)
  go_enter Tryz.func114, Tryz.ntmps114
  go_wp2_with fail
  refine (len32_any x w (by omega) h1).mono ?_
  rintro e w1 ⟨rfl, rfl⟩
  go_wp2_with fail
  go_ret
  exact ⟨rfl, rfl⟩
end Go.Proofs.YtkkpfdfoojcljaaGreat
namespace Go.Proofs.YtkkpfdfoojcljaaGreat
open Go.RowKit

set_option maxHeartbeats 1000000 in
theorem cmp_any (A : Option Addr) (n c : Nat) (l : List Nat) (A2 : Option Addr) (n2 c2 : Nat) (m : List Nat) (w : World) (B : Nat) (h : DigsB w B A n l) (h2 : DigsB w B A2 n2 m) (hn : n ≤ 1000000) (hn2 : n2 ≤ 1000000) (hc : Canon l) (hc2 : Canon m) :
    Calls Tryz.prog 87 #[.slice A n c, .slice A2 n2 c2] w fun e w' => e = .returned (.int .i64 (cmpN (valL l) (valL m))) ∧ Below B w w' := by
  have HL := Lib.hid (And.intro h (And.intro h2 (And.intro hc hc2)))
  have hl := h.len
  have hl2 := h2.len
  clear h h2 hc hc2
  rcases Nat.lt_trichotomy n n2 with hlt | heq | hgt
  · rw [cmpN_lt (cmp_len HL.out.2.2.1 HL.out.2.2.2 (by omega))]
    go_enter Tryz.func87, Tryz.ntmps87
    go_wp2_with fail
    go_ret
    exact ⟨rfl, Below.refl _ _⟩
  · subst heq
    obtain ⟨N, hN⟩ : ∃ N, cmpN (valL l) (valL m) = N := ⟨_, rfl⟩
    rw [hN]
    have HN := Lib.hid (And.intro hN (And.intro hl hl2))
    clear hN hl hl2
    go_enter Tryz.func87, Tryz.ntmps87
    go_wp2_with fail
    go_loopw [5] (fun s5 wr => ∃ (k : Nat), s5 = .int .i64 ((k : Int) - 1) ∧ k ≤ n ∧ Hid (Below B w wr ∧ l.drop k = m.drop k)) (fun s5 _ => (intOf s5 + 1).toNat)
    case atStart => exact ⟨n, rfl, Nat.le_refl _, Below.refl _ _, by rw [List.drop_eq_nil_of_le (by have := HN.out.2.1; omega), List.drop_eq_nil_of_le (by have := HN.out.2.2; omega)]⟩
    case round =>
      obtain ⟨k, rfl, hk, HK⟩ := hrel
      rcases k with _ | k
      · have he : l = m := by have := HK.out.2; simpa using this
        have hN0 : N = 0 := by rw [← HN.out.1, he, cmpN_eq]
        go_wp2_with fail
        go_ret
        exact ⟨ret_int hN0.symm, HK.out.1⟩
      · obtain ⟨b, off, x, hx, rfl, hb, hcell0, hx32⟩ := digs_get HL.out.1 (i := k) (by omega)
        obtain ⟨b2, off2, y, hy, rfl, hb2, hcell20, hy32⟩ := digs_get HL.out.2.1 (i := k) (by omega)
        have hcell := (HK.out.1.cell (p := ⟨b, off + k, none⟩) hb).trans hcell0
        have hcell2 := (HK.out.1.cell (p := ⟨b2, off2 + k, none⟩) hb2).trans hcell20
        have HX := Lib.hid (And.intro hx (And.intro hy (And.intro hx32 hy32)))
        have hk1 : ((k + 1 : Nat) : Int) - 1 = (k : Int) := by omega
        have hkn : (k : Int) < (n : Int) := by omega
        clear hcell0 hcell20 hx hy hb hb2
        rw [hk1]
        rcases Nat.lt_trichotomy x y with hlt | heq | hgt
        · have hN1 : N = -1 := by rw [← HN.out.1, cmpN_lt (cmp_at HL.out.2.2.1.1 HL.out.2.2.2.1 (by have := HN.out.2; omega) HK.out.2 HX.out.1 HX.out.2.1 hlt)]
          have hltI : (x : Int) < (y : Int) := by omega
          go_wp2_with fail
          go_quiet (fail)
          go_wp2_with fail
          go_ret
          exact ⟨ret_int hN1.symm, below_drewN HK.out.1 _⟩
        · subst heq
          have hltI : ¬ (x : Int) < (x : Int) := by omega
          go_wp2_with fail
          go_quiet (fail)
          go_wp2_with fail
          go_quiet (fail)
          go_wp2_with fail
          go_roundw
          case rel => exact ⟨k, rfl, by omega, below_drewN HK.out.1 _, by
            obtain ⟨i1, e1⟩ := List.getElem?_eq_some_iff.1 HX.out.1
            obtain ⟨i2, e2⟩ := List.getElem?_eq_some_iff.1 HX.out.2.1
            rw [drop_cons i1, drop_cons i2, e1, e2, HK.out.2]⟩
          case measure => simp only [intOf]; omega
        · have hN1 : N = 1 := by rw [← HN.out.1, cmpN_gt (cmp_at HL.out.2.2.2.1 HL.out.2.2.1.1 (by have := HN.out.2; omega) HK.out.2.symm HX.out.2.1 HX.out.1 hgt)]
          have hltI : ¬ (x : Int) < (y : Int) := by omega
          have hltI2 : (y : Int) < (x : Int) := by omega
          go_wp2_with fail
          go_quiet (fail)
          go_wp2_with fail
          go_quiet (fail)
          go_wp2_with fail
          go_ret
          exact ⟨ret_int hN1.symm, below_drewN (below_drewN HK.out.1 _) _⟩
  · rw [cmpN_gt (cmp_len HL.out.2.2.2 HL.out.2.2.1 (by omega))]
    go_enter Tryz.func87, Tryz.ntmps87
    go_wp2_with fail
    go_ret
    exact ⟨rfl, Below.refl _ _⟩
end Go.Proofs.YtkkpfdfoojcljaaGreat
namespace Go.Proofs.YtkkpfdfoojcljaaGreat
open Go.RowKit

theorem lng_cells {w : World} {g : Nat} {t : TypeId} {a b : Value} (h : Blk w g t #[a, b]) : w.cell? ⟨g, 0, none⟩ = some a ∧ w.cell? ⟨g, 1, none⟩ = some b ∧ w.frozen? ⟨g, 0, none⟩ = false ∧ w.frozen? ⟨g, 1, none⟩ = false :=
  ⟨by rw [h.cell 0]; rfl, by rw [h.cell 1]; rfl, h.frozen 0, h.frozen 1⟩
/-- a number is put into a box -/
theorem lng_put {w1 W Z : World} {g B : Nat} {t : TypeId} {x y : Value} (a b : Value) (hZ : Z = (w1.setCell ⟨g, 0, none⟩ a).setCell ⟨g, 1, none⟩ b) (h : Blk w1 g t #[x, y]) (hb : Below B W w1) (hg : B ≤ g) :
    Z.cell? ⟨g, 0, none⟩ = some a ∧ Z.cell? ⟨g, 1, none⟩ = some b ∧ Below B W Z := by
  have hz := lng_cells ((h.set_ 0 a).set_ 1 b)
  rw [← hZ] at hz
  exact ⟨hz.1, hz.2.1, by rw [hZ]; exact (hb.setCell hg _).setCell hg _⟩
set_option maxHeartbeats 1000000 in
theorem bits_any (z : Int) (w : World) (hz : (digN z.natAbs).length ≤ 100000) :
    Calls Tryz.prog 100 #[Lng z] w fun e w' => ∃ b : Nat, e = .returned (.int .i64 (b : Int)) ∧ b ≤ 32 * (digN z.natAbs).length ∧ Below w.heap.size w w' := by
  have HLb : ∀ W, Calls Tryz.prog 88 #[Lng z] W (RowP (digN z.natAbs) W) := fun W => limbs_any z W hz
  have hcan := canon_digN z.natAbs
  obtain ⟨s, l, hL, hl, -⟩ := lng_open z
  rw [hL] at HLb ⊢
  rw [hl] at hz hcan HLb ⊢
  clear hL hl
  generalize decide (z < 0) = ng at HLb ⊢
  go_enter Tryz.func100, Tryz.ntmps100
  go_wp2_with fail
  refine (HLb _).mono ?_
  rintro e w1 ⟨v, rfl, hown, hb⟩
  have hb0 : Below w.heap.size w w1 := ((Below.refl _ _).alloc (Nat.le_refl _) _).trans (hb.mono (by simp))
  obtain ⟨A, c, rfl, h1, h2, h3⟩ := hown.reads
  have HO := Lib.hid (And.intro h3 (And.intro hb0 (And.intro hcan h2)))
  clear hown hb hb0 h3 h1 h2 hcan HLb
  obtain ⟨n, hn⟩ : ∃ n, l.length = n := ⟨_, rfl⟩
  rw [hn] at hz HO ⊢
  have HN := Lib.hid hn
  clear hn
  rcases n with _ | n
  · go_wp2_with fail
    go_ret
    exact ⟨0, rfl, Nat.zero_le _, HO.out.2.1⟩
  · obtain ⟨b, off, x, hx, rfl, hb, hcell, hx32⟩ := digs_get HO.out.1 (i := n) (by omega)
    have hx0 : 0 < x := by
      apply Nat.pos_of_ne_zero
      intro e
      apply HO.out.2.2.1.2
      rw [List.getLast?_eq_getElem?, HN.out, Nat.add_sub_cancel, hx, e]
    have hl := bitLen_le32 hx0 hx32
    clear hx hb
    go_wp2_with fail
    refine (len32_any (x : Int) _ (by omega) (by omega)).mono ?_
    rintro e w2 ⟨rfl, rfl⟩
    rw [Int.toNat_natCast]
    go_wp2_with fail
    go_ret
    exact ⟨32 * n + Lib.bitLen x, ret_int (by simp), by have := HN.out; omega, HO.out.2.1⟩

set_option maxHeartbeats 1000000 in
theorem limited_any (z : Int) (w : World) (hz : (digN z.natAbs).length ≤ 4096) :
    Calls Tryz.prog 101 #[Lng z] w fun e w' => e = .returned (.tuple #[Lng z, .int .i64 0]) ∧ Below w.heap.size w w' := by
  have HLb : ∀ W, Calls Tryz.prog 100 #[Lng z] W _ := fun W => bits_any z W (by omega)
  obtain ⟨s, l, hL, hl, -⟩ := lng_open z
  rw [hL] at HLb ⊢
  rw [hl] at hz HLb
  clear hL hl
  generalize decide (z < 0) = ng at HLb ⊢
  go_enter Tryz.func101, Tryz.ntmps101
  go_wp2_with fail
  refine (HLb _).mono ?_
  rintro e w1 ⟨b, rfl, hb32, hb⟩
  have hk1 : Blk w1 w.heap.size 86 #[.bool ng, .string s] := ((Blk.new w _ _).alloc _).below hb (by simp; omega)
  have hk2 : Blk w1 (w.heap.size + 1) 86 #[.bool false, .string ⟨#[]⟩] := by
    have := Blk.new (w.alloc (.cells #[.bool ng, .string s] 86)) 86 #[.bool false, .string ⟨#[]⟩]
    have := this.below hb (by simp)
    simpa using this
  have hb0 : Below w.heap.size w w1 := (((Below.refl _ _).alloc (Nat.le_refl _) _).alloc (by simp) _).trans (hb.mono (by simp; omega))
  obtain ⟨a0, a1, a2, a3⟩ := lng_cells hk1
  obtain ⟨c0, c1, c2, c3⟩ := lng_cells hk2
  have HB := Lib.hid (And.intro hk2 hb0)
  clear hk1 hk2 hb0 hb HLb
  have hbI : ¬ (131072 : Int) < (b : Int) := by omega
  go_wp2_with fail
  obtain ⟨Z, hZ⟩ : ∃ Z, Z = (w1.setCell ⟨w.heap.size + 1, 0, none⟩ (.bool ng)).setCell ⟨w.heap.size + 1, 1, none⟩ (.string s) := ⟨_, rfl⟩
  have hz := lng_cells ((HB.out.1.set_ 0 (.bool ng)).set_ 1 (.string s))
  have hzb := (HB.out.2.setCell (p := ⟨w.heap.size + 1, 0, none⟩) (by simp) (.bool ng)).setCell (p := ⟨w.heap.size + 1, 1, none⟩) (by simp) (.string s)
  rw [← hZ] at hz hzb ⊢
  refine bodyPost_ret (v := .tuple #[.agg #[.bool ng, .string s], .int .i64 0]) (by simp [results, Tryz.results101, go_sem, hz.1, hz.2.1]) rfl ⟨rfl, hzb⟩
end Go.Proofs.YtkkpfdfoojcljaaGreat
