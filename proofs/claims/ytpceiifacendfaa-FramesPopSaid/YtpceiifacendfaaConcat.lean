/- Walks: slices.Grow and slices.Concat over lists of clauses. -/
import Derived.Test.YtpceiifacendfaaFuncs
import Derived.Test.YtpceiifacendfaaCore
import Derived.Lib.AppendZerosOnto
namespace Go.Proofs.Ytpceiifacendfaa
open Go.RowKit

theorem infoInts : (Try.prog.info? 31).map (fun i => (i.zero, i.size, i.bytes)) = some (some (.slice none 0 0), 1, 24) := by kernel_rfl
theorem rowRows : RowT Try.prog 25 31 1 24 := rowT_of Try.underlying25 infoInts rfl (by omega)

abbrev VRow : Val (List Int) := VArr AtInt 1
theorem tells_row' : Tells VRow 1 := tells_arr stays_int
/-- the slice value v is the call's own row of clauses -/
abbrev OwnRows (w : World) (base : Nat) (S : Nat → Prop) (v : Value) (xs : List (List Int)) : Prop := OwnV VRow 31 1 w base S v xs

def GrowP (S : Nat → Prop) (w : World) (e : Ending) (w' : World) : Prop := ∃ v, e = .returned v ∧ OwnRows w' w.heap.size S v [] ∧ Below w.heap.size w w'

set_option maxHeartbeats 1000000 in
set_option maxRecDepth 100000 in
theorem growRows_any (n : Nat) (S : Nat → Prop) (w : World) (hn : n ≤ 1000000) : Calls Try.prog 58 #[.slice none 0 0, .int .i64 n] w (GrowP S w) := by
  by_cases h0 : n = 0
  · subst h0
    go_enter Try.func58, Try.ntmps58
    go_wp2_with fail
    go_ret
    exact ⟨_, rfl, OwnV.none_ _ _ _ _ _ _, Below.refl _ _⟩
  · obtain ⟨i0, hi0, hz0, hz1, hz2⟩ := info_parts infoInts
    have hrz : ∀ ty, (Builtin.append_ #[25, 3] ty #[.slice none 0 0, .int .i64 (n : Int)]).run Try.prog w =
        .ok (.slice (some ⟨w.heap.size, 0, none⟩) n (grownCap w n 0 31)) (w.drew.alloc (.cells ((#[] : Array Value) ++ Builtin.zeroCells (Value.slice none 0 0).cells n ++ Builtin.zeroCells (Value.slice none 0 0).cells (grownCap w n 0 31 - n)) 31)) := fun ty => by
      have h := Lib.run_append_grow_zeros w 25 3 ty 31 i0 _ .i64 .i64 Try.underlying25 Try.underlying3 hi0 hz0 none 0 0 [] (run_firstCells_none w.drew i0.size 0 0 0) n (by omega) (by omega) (by omega) (by omega) (by rw [hz2]; omega)
        (growslice_fits (by omega) (by rw [hz2]; omega))
      rw [Nat.zero_add] at h
      exact h
    have hge : n ≤ grownCap w n 0 31 := grownCap_ge w _ _ _
    have hcm := grownCap_le_maxLen w n 0 31 (by unfold maxLen; omega)
    have hsz : ∀ G, n ≤ G → ((#[] : Array Value) ++ Builtin.zeroCells (Value.slice none 0 0).cells n ++ Builtin.zeroCells (Value.slice none 0 0).cells (G - n)).size = G * 1 := fun G hG => by
      simp only [Array.size_append, size_zeroCells]
      simp [Value.cells]
      omega
    have HS := Lib.hid (hsz _ hge)
    have HC := Lib.hid hcm
    unfold maxLen at hcm
    generalize grownCap w n 0 31 = G at hrz hge hcm HC HS
    clear hi0 hz0 hz1 hz2 hsz
    have hpos : (n : Int) > 0 := by omega
    go_enter Try.func58, Try.ntmps58
    go_wp2_with (at_builtin; refine Lib.wpList_append_run _ rfl _ _ _ _ rfl _ _ rfl rfl _ _ (hrz _) ?_)
    go_ret
    refine ⟨_, rfl, ⟨[], ⟨by simp, .inr ⟨w.heap.size, G, _, rfl, Nat.le_refl _, heap_alloc_new w.drew _, Nat.zero_le _, HC.out, (by simpa [Value.cells] using HS.out), by simp⟩⟩, rfl⟩, ?_⟩
    exact ((Below.refl _ w).drew).alloc (by simp) _

def sumLen : List (List (List Int)) → Nat
  | [] => 0
  | x :: r => x.length + sumLen r
theorem sumLen_flat : ∀ l : List (List (List Int)), sumLen l = l.flatten.length
  | [] => rfl
  | x :: r => by simp [sumLen, sumLen_flat r]

def ConcatP (S : Nat → Prop) (w : World) (xs : List (List Int)) (e : Ending) (w' : World) : Prop := ∃ v, e = .returned v ∧ OwnRows w' w.heap.size S v xs ∧ Below w.heap.size w w'

theorem rowss_get {w : World} {S : Nat → Prop} {A : Option Addr} {n : Nat} {xs : List (List (List Int))} (h : Arr (AtArr (AtArr AtInt 1) 1) 1 w S A n xs) {i : Nat} (hi : i < n) :
    ∃ (b off : Nat) (hx : i < xs.length) (A' : Option Addr) (n' c' : Nat), A = some ⟨b, off, none⟩ ∧ S b ∧ w.cell? ⟨b, off + i, none⟩ = some (.slice A' n' c') ∧ n' ≤ c' ∧ c' ≤ maxLen ∧ Arr (AtArr AtInt 1) 1 w S A' n' xs[i] := by
  obtain ⟨b, off, hx, e, hb, A', n', c', hc, h1, h2, h3⟩ := Arr.get h hi
  rw [Nat.mul_one] at hc
  exact ⟨b, off, hx, A', n', c', e, hb, hc, h1, h2, h3⟩

set_option maxHeartbeats 2000000 in
set_option maxRecDepth 100000 in
theorem concat_any (A : Option Addr) (n c : Nat) (xs : List (List (List Int))) (S : Nat → Prop) (w : World) (hSl : ∀ b, S b → b < w.heap.size) (hxs : Arr (AtArr (AtArr AtInt 1) 1) 1 w S A n xs) (hn : n ≤ 1000) (hT : sumLen xs ≤ 100000) :
    Calls Try.prog 53 #[.slice A n c] w (ConcatP S w xs.flatten) := by
  have HXS := Lib.hid hxs
  have HSL := Lib.hid hSl
  clear hSl
  have HT := Lib.hid hT
  have hl := hxs.len
  have HL := Lib.hid hl
  clear hxs hT hl
  go_enter Try.func53, Try.ntmps53
  go_wp2_with fail
  go_loop [3, 11] (fun t i => ∃ k a : Nat, k ≤ n ∧ i = .int .i64 k ∧ t = .int .i64 a ∧ Hid (a + sumLen (xs.drop k) = sumLen xs)) (fun _ i => n - (intOf i).toNat)
  case atStart => exact ⟨0, 0, Nat.zero_le _, rfl, rfl, by show _ = _; simp⟩
  case round =>
    obtain ⟨k, a, hk, rfl, rfl, HA⟩ := hrel
    have ha : a ≤ 100000 := by have := HA.out; have := HT.out; omega
    by_cases hlt : k < n
    · obtain ⟨b, off, hx, A', n', c', rfl, hb, hcell, hnc, hcm, har⟩ := rowss_get HXS.out hlt
      have e1 := HA.out
      rw [drop_cons hx, sumLen, har.len] at e1
      have ha2 : a + n' ≤ 100000 := by have := HT.out; omega
      have H1 : Hid (a + n' + sumLen (xs.drop (k + 1)) = sumLen xs) := by show _ = _; omega
      clear e1 har hcm hnc HA
      go_wp2_with fail
      go_round
      case rel => exact ⟨k + 1, a + n', by omega, by go_num, by go_num, H1⟩
      case measure => simp [intOf]; omega
    · obtain rfl : k = n := by omega
      have e1 := HA.out
      rw [List.drop_of_length_le (by have := HL.out; omega), sumLen] at e1
      clear HA e1
      go_wp2_with fail
      refine (growRows_any a S w (by omega)).mono ?_
      rintro e w0 ⟨v0, rfl, hown0, hbel0⟩
      go_wp2_with fail
      go_loopw [6, 27] (fun v s wr => ∃ j : Nat, j ≤ k ∧ s = .int .i64 j ∧ OwnRows wr w.heap.size S v (xs.take j).flatten ∧ Below w.heap.size w wr) (fun _ s _ => k - (intOf s).toNat)
      case atStart => exact ⟨0, Nat.zero_le _, rfl, by simpa using hown0, hbel0⟩
      case round =>
        obtain ⟨j, hj, rfl, hown, hbel⟩ := hrel
        have hzz : w.heap.size ≤ wr.heap.size := hbel.size
        by_cases hlt2 : j < k
        · obtain ⟨b, off, hx, A', n', c', rfl, hb, hcell, hnc, hcm, har⟩ := rowss_get (HXS.out.keep (stays_arr (stays_arr stays_int)) (fun _ h => h) (fun b o hb => hbel.cell (p := ⟨b, o, none⟩) (HSL.out b hb))) hlt2
          have hsum : (xs.take j).flatten.length + n' ≤ 100000 := by
            have h1 : (xs.take (j + 1)).flatten.length ≤ sumLen xs := by
              rw [sumLen_flat]
              conv => rhs; rw [← List.take_append_drop (j + 1) xs, List.flatten_append]
              simp
            rw [take_snoc_l hx, List.flatten_append, List.length_append] at h1
            simp only [List.flatten_cons, List.flatten_nil, List.append_nil] at h1
            rw [har.len] at h1
            have := HT.out
            omega
          have hlt3 := hown.lt
          obtain ⟨y, hy⟩ : ∃ y, xs[j] = y := ⟨_, rfl⟩
          have HX : Hid (xs.take (j + 1) = xs.take j ++ [y]) := by show _ = _; rw [take_snoc_l hx, hy]
          rw [hy] at har
          have HO := Lib.hid hown
          have HAR := Lib.hid har
          have HLT := Lib.hid hlt3
          have HSUM := Lib.hid hsum
          have HB := Lib.hid hbel
          clear hown har hlt3 hy hx hsum hbel hown0 hbel0
          go_wp2_with (at_builtin; refine wpList_append_many rfl _ _ _ rfl rowRows tells_row' (base := w.heap.size) (S := S) rfl HO.out (E := AtArr AtInt 1) (fun _ _ _ _ _ h => atV_arr.2 h) (A := A') (m := n') (c := c') rfl HAR.out (fun b hb => ⟨by have := HSL.out b hb; omega, fun e => by have := HLT.out b e; have := HSL.out b hb; omega⟩) (by have := HSUM.out; unfold maxLen; omega) (by have := HSUM.out; omega) hzz ?_; intro v' w1 hown' hgrow hat)
          go_roundw
          case rel =>
            refine ⟨j + 1, by omega, by go_num, ?_, below_then HB.out hgrow hzz (fun x hx => by have := HLT.out x hx; omega)⟩
            rw [HX.out, List.flatten_append]
            simpa using hown'
          case measure => simp [intOf]; omega
        · obtain rfl : j = k := by omega
          have H1 := Lib.hid (show OwnRows wr w.heap.size S u6 xs.flatten by rwa [List.take_of_length_le (by have := HL.out; omega)] at hown)
          clear hown
          go_wp2_with fail
          go_ret
          exact ⟨_, rfl, H1.out, hbel⟩
end Go.Proofs.Ytpceiifacendfaa
