/- The plain law of writing expressions; walks: the program's writer of one expression. -/
import Derived.Test.YtllgindmcjemeaaSexpC
import Derived.Test.YtllgindmcjemeaaBuilder
namespace Go.Proofs.Ytllgindmcjemeaa
open Go.RowKit

/-- the text of a forest within a list, a blank ahead of each expression but the first one -/
def rst : Bool → Fo → List UInt8
  | _, .nil => []
  | b, .cons wd ls ks nx => (if b then [32] else []) ++ (if ls then 40 :: (rst false ks ++ [41]) else wd.data.toList) ++ rst true nx
def one (wd : ByteArray) (ls : Bool) (ks : Fo) : List UInt8 := if ls then 40 :: (rst false ks ++ [41]) else wd.data.toList
/-- the text of a forest, a line each -/
def lns : Fo → List UInt8
  | .nil => []
  | .cons wd ls ks nx => one wd ls ks ++ 10 :: lns nx
def tsz : Fo → Nat
  | .nil => 0
  | .cons wd _ ks nx => wd.size + 3 + tsz ks + tsz nx

theorem rst_le : ∀ (b : Bool) (f : Fo), (rst b f).length ≤ tsz f
  | _, .nil => Nat.le_refl _
  | b, .cons wd ls ks nx => by
    have h1 := rst_le false ks
    have h2 := rst_le true nx
    have h3 : wd.data.toList.length = wd.size := rfl
    cases b <;> cases ls <;> simp [rst, tsz] <;> omega
theorem one_le (wd : ByteArray) (ls : Bool) (ks : Fo) : (one wd ls ks).length ≤ wd.size + 2 + tsz ks := by
  have h1 := rst_le false ks
  have h3 : wd.data.toList.length = wd.size := rfl
  cases ls <;> simp [one] <;> omega
theorem lns_le : ∀ f : Fo, (lns f).length ≤ tsz f
  | .nil => Nat.le_refl _
  | .cons wd ls ks nx => by
    have h1 := one_le wd ls ks
    have h2 := lns_le nx
    simp [lns, tsz]
    omega
theorem rst_cons (b : Bool) (wd : ByteArray) (ls : Bool) (ks nx : Fo) : rst b (.cons wd ls ks nx) = (if b then [32] else []) ++ one wd ls ks ++ rst true nx := by
  cases ls <;> simp [rst, one]

/-- a forest without a fault has short words -/
theorem tsz_good : ∀ (f : Fo) (d a : Int), (flt f d a).1 = 0 → tsz f ≤ 27 * f.cnt
  | .nil, _, _, _ => Nat.zero_le _
  | .cons wd ls ks nx, d, a, h => by
    simp only [flt] at h
    by_cases h1 : formBad wd ls ks = true
    · rw [if_pos h1] at h; simp at h
    rw [if_neg h1] at h
    by_cases h2 : (!ls && !wordB wd) = true
    · rw [if_pos h2] at h; simp at h
    rw [if_neg h2] at h
    by_cases h3 : 40 < d
    · rw [if_pos h3] at h; simp at h
    rw [if_neg h3] at h
    have hw : wd.size ≤ 24 := by
      cases ls with
      | true => simp only [formBad_true, decide_eq_true_eq] at h1; omega
      | false => simp [wordB] at h2; omega
    by_cases h4 : (flt ks (d + 1) (a + 1)).1 = 0
    · rw [if_pos h4] at h
      have g1 := tsz_good ks _ _ h4
      have g2 := tsz_good nx _ _ h
      simp only [tsz, Fo.cnt]
      omega
    · rw [if_neg h4] at h
      exact absurd h h4

theorem blk_kept {w w' : World} {B b g : Nat} {t : TypeId} {cs : Array Value} (h : Blk w g t cs) (hw : Wrote B b w w') (hg : g ≠ b) (ht : t ≠ 5) : Blk w' g t cs :=
  hw.2 g _ h (fun e => hg (by injection e)) (fun c fz e => ht (by injection e))

theorem byteCells_push (l : List UInt8) (c : UInt8) : Lib.byteCells (l ++ [c]) = Lib.byteCells l ++ [.int .u8 c.toNat] := Lib.byteCells_append _ _

set_option maxHeartbeats 2000000 in
theorem write_any (k : Nat) : ∀ (wd : ByteArray) (ls : Bool) (ks : Fo) (A : Option Addr) (n c B b : Nat) (acc : List UInt8) (w : World), ks.cnt < k → LiesB w B ks A 0 n → ks.cnt ≤ 4000000 → IsB B b (Lib.byteCells acc) w → B ≤ w.heap.size → b < w.heap.size → wd.size ≤ maxLen →
    acc.length + (one wd ls ks).length ≤ 1000000000000 →
    Calls Try.prog 40 #[.pointer (some ⟨b, 0, none⟩), .agg #[.string wd, .bool ls, .slice A n c]] w fun e w' => e = .returned (.tuple #[]) ∧ IsB B b (Lib.byteCells (acc ++ one wd ls ks)) w' ∧ Wrote B b w w' := by
  induction k with
  | zero => intro wd ls ks A n c B b acc w hk; omega
  | succ k ih =>
    intro wd ls ks A n c B b acc w hk hl hm hB hBw hbw hwd htot
    have IH := Lib.hid ih
    have hn := Lies.len _ _ _ _ hl
    have hn2 := Fo.len_le ks
    have hn3 : n ≤ 4000000 := by omega
    clear ih hn hn2
    cases ls with
    | false =>
      have e1 : one wd false ks = wd.data.toList := rfl
      have e2 : (one wd false ks).length = wd.size := by rw [e1]; rfl
      have HB := Lib.hid hB
      clear hB
      go_enter Try.func40, Try.ntmps40
      go_wp2_with fail
      refine (writeString_any B b (Lib.byteCells acc) wd _ (Lib.IsBuilderF.alloc HB.out _) (by rw [Lib.byteCells_length]; omega) (by simp; omega)).mono ?_
      rintro e w1 ⟨rfl, hB1, hw1⟩
      go_wp2_with fail
      refine bodyPost_ret (results_none rfl _ _ _) rfl ?_
      refine ⟨rfl, ?_, ((Wrote.refl B b w).alloc hBw _).trans hw1⟩
      rw [e1, Lib.byteCells_append]
      exact hB1
    | true =>
      have e2 : (one wd true ks).length = (rst false ks).length + 2 := by simp [one]
      have HE2 : Hid (acc ++ [40] ++ rst false ks ++ [41] = acc ++ one wd true ks) := by show _ = _; simp [one]
      have hbox : Blk (w.alloc (.cells #[.string wd, .bool true, .slice A n c] 86)) w.heap.size 86 #[.string wd, .bool true, .slice A n c] := Blk.new _ _ _
      have HB := Lib.hid (And.intro hB (And.intro hbox hl))
      clear hB hbox hl
      go_enter Try.func40, Try.ntmps40
      go_wp2_with fail
      refine (writeByte_any B b (Lib.byteCells acc) 40 _ (Lib.IsBuilderF.alloc HB.out.1 _) (by rw [Lib.byteCells_length]; omega) (by simp; omega)).mono ?_
      rintro e w1 ⟨rfl, hB1, hw1⟩
      obtain ⟨_, hbox, hl⟩ := HB.out
      have hbox1 := blk_kept hbox hw1 (by omega) (by decide)
      have x2 : w1.cell? ⟨w.heap.size, 2, none⟩ = some (.slice A n c) := hbox1.cell 2
      have hw2 : Wrote B b w w1 := ((Wrote.refl B b w).alloc hBw _).trans hw1
      have hz1 : w.heap.size < w1.heap.size := hbox1.lt
      have hl1 : LiesB w1 B ks A 0 n := hl.below hw2.1 (Nat.le_refl _)
      have hB2 : IsB B b (Lib.byteCells (acc ++ [40])) w1 := by rw [Lib.byteCells_append]; exact hB1
      have HX := Lib.hid (And.intro hw2 (And.intro hl1 hB2))
      clear hbox hl hw1 hB1 hbox1 hw2 hl1 hB2 HB
      go_wp2_with fail
      go_loopw [18] (fun i wr => ∃ (f' : Fo) (j : Nat) (ac : List UInt8), i = .int .i64 j ∧ f'.cnt ≤ ks.cnt ∧ Hid (ac ++ rst (decide (0 < j)) f' = acc ++ [40] ++ rst false ks) ∧ IsB B b (Lib.byteCells ac) wr ∧ LiesB wr B f' A j n ∧ Wrote B b w wr ∧ B ≤ wr.heap.size ∧ b < wr.heap.size) (fun i _ => n - (intOf i).toNat)
      case atStart => exact ⟨ks, 0, acc ++ [40], rfl, Nat.le_refl _, rfl, HX.out.2.2, HX.out.2.1, HX.out.1, by omega, by omega⟩
      case round =>
        obtain ⟨f', j, ac, rfl, hc, HA, hB3, hl3, hw3, hB4, hb4⟩ := hrel
        clear HX x2
        have hlen : ac.length + (rst (decide (0 < j)) f').length = acc.length + 1 + (rst false ks).length := by
          have := congrArg List.length HA.out; simp at this; omega
        cases f' with
        | nil =>
          obtain rfl : j = n := hl3
          have HB3 := Lib.hid hB3
          clear hB3
          go_wp2_with fail
          refine (writeByte_any B b (Lib.byteCells ac) 41 _ HB3.out (by rw [Lib.byteCells_length]; omega) hB4).mono ?_
          rintro e w5 ⟨rfl, hB5, hw5⟩
          go_wp2_with fail
          first | go_end0 | refine bodyPost_ret (results_none rfl _ _ _) rfl ?_
          refine ⟨rfl, ?_, hw3.trans hw5⟩
          have e := HA.out
          simp only [rst, List.append_nil] at e
          rw [← HE2.out, Lib.byteCells_append, ← e]
          exact hB5
        | cons wd' ls' ks' nx =>
          obtain ⟨hi, p, off, A', n', c', rfl, hb, h0, h1, h2, hsz, hks, hnx⟩ := hl3
          have hcnt : (Fo.cons wd' ls' ks' nx).cnt = 1 + ks'.cnt + nx.cnt := rfl
          have e3 : ks'.cnt < k := by omega
          have e6 : nx.cnt ≤ ks.cnt := by omega
          have e7 : ks'.cnt ≤ 4000000 := by omega
          rw [rst_cons] at hlen
          have hrl : (rst false ks).length + acc.length ≤ 1000000000000 - 2 := by omega
          have hbox : Blk (wr.alloc (.cells #[.string wd', .bool ls', .slice A' n' c'] 86)) wr.heap.size 86 #[.string wd', .bool ls', .slice A' n' c'] := Blk.new _ _ _
          have hB5 := Lib.IsBuilderF.alloc hB3 (.cells #[.string wd', .bool ls', .slice A' n' c'] 86)
          have hw5 := hw3.alloc hB4 (.cells #[.string wd', .bool ls', .slice A' n' c'] 86)
          have hks5 : LiesB (wr.alloc (.cells #[.string wd', .bool ls', .slice A' n' c'] 86)) B ks' A' 0 n' := LiesB.alloc hks hB4 _
          have hnx5 : LiesB (wr.alloc (.cells #[.string wd', .bool ls', .slice A' n' c'] 86)) B nx (some ⟨p, off, none⟩) (j + 1) n := LiesB.alloc hnx hB4 _
          by_cases hj : 0 < j
          · have HJ : Hid (ac ++ [32] ++ one wd' ls' ks' ++ rst true nx = acc ++ [40] ++ rst false ks) := by
              have := HA.out
              rw [rst_cons, show decide (0 < j) = true from by simpa using hj] at this
              show _ = _
              rw [← this]; simp
            rw [show decide (0 < j) = true from by simpa using hj] at hlen
            simp at hlen
            have HY := Lib.hid (And.intro hbox (And.intro hB5 (And.intro hw5 (And.intro hks5 hnx5))))
            clear hB3 hks hnx hcnt HA hbox hB5 hw5 hks5 hnx5
            go_wp2_with fail
            obtain ⟨hbox, hB5, hw5, hks5, hnx5⟩ := HY.out
            refine (writeByte_any B b (Lib.byteCells ac) 32 _ hB5 (by rw [Lib.byteCells_length]; omega) (by simp; omega)).mono ?_
            rintro e w6 ⟨rfl, hB6, hw6⟩
            have hbox6 := blk_kept hbox hw6 (by omega) (by decide)
            have x0 : w6.cell? ⟨wr.heap.size, 0, none⟩ = some (.string wd') := hbox6.cell 0
            have x1 : w6.cell? ⟨wr.heap.size, 1, none⟩ = some (.bool ls') := hbox6.cell 1
            have x2 : w6.cell? ⟨wr.heap.size, 2, none⟩ = some (.slice A' n' c') := hbox6.cell 2
            have hz6 := hbox6.lt
            have hB7 : IsB B b (Lib.byteCells (ac ++ [32])) w6 := by rw [Lib.byteCells_append]; exact hB6
            have hcall := IH.out wd' ls' ks' A' n' c' B b (ac ++ [32]) w6 e3 (hks5.below hw6.1 (Nat.le_refl _)) e7 hB7 (by omega) (by omega) hsz (by simp; omega)
            have hw7 := hw5.trans hw6
            have hnx7 := hnx5.below hw6.1 (Nat.le_refl _)
            have HZ := Lib.hid (And.intro hcall (And.intro hw7 hnx7))
            clear hbox hB5 hw5 hks5 hnx5 hbox6 hB6 hw6 hB7 hcall hw7 hnx7 HY
            go_wp2_with fail
            refine HZ.out.1.mono ?_
            rintro e w8 ⟨rfl, hB8, hw8⟩
            obtain ⟨_, hw7, hnx7⟩ := HZ.out
            have hnx8 := hnx7.below hw8.1 (Nat.le_refl _)
            have hz8 := hw8.1.size
            have hw9 := hw7.trans hw8
            clear x0 x1 x2
            go_wp2_with fail
            go_roundw
            case rel => exact ⟨nx, j + 1, ac ++ [32] ++ one wd' ls' ks', by go_num, e6, by show _ = _; rw [show decide (0 < j + 1) = true from by simp]; exact HJ.out, hB8, hnx8, hw9, by omega, by omega⟩
            case measure => simp [intOf]; omega
          · have HJ : Hid (ac ++ one wd' ls' ks' ++ rst true nx = acc ++ [40] ++ rst false ks) := by
              have := HA.out
              rw [rst_cons, show decide (0 < j) = false from by simpa using hj] at this
              show _ = _
              rw [← this]; simp
            rw [show decide (0 < j) = false from by simpa using hj] at hlen
            simp at hlen
            have hcall := IH.out wd' ls' ks' A' n' c' B b ac _ e3 hks5 e7 hB5 (by simp; omega) (by simp; omega) hsz (by omega)
            have HZ := Lib.hid (And.intro hcall (And.intro hw5 hnx5))
            clear hB3 hks hnx hcnt HA hbox hB5 hw5 hks5 hnx5 hcall
            go_wp2_with fail
            refine HZ.out.1.mono ?_
            rintro e w8 ⟨rfl, hB8, hw8⟩
            obtain ⟨_, hw7, hnx7⟩ := HZ.out
            have hnx8 := hnx7.below hw8.1 (Nat.le_refl _)
            have hz8 : wr.heap.size + 1 ≤ w8.heap.size := by have := hw8.1.size; simpa using this
            have hw9 := hw7.trans hw8
            go_wp2_with fail
            go_roundw
            case rel => exact ⟨nx, j + 1, ac ++ one wd' ls' ks', by go_num, e6, by show _ = _; rw [show decide (0 < j + 1) = true from by simp]; exact HJ.out, hB8, hnx8, hw9, by omega, by omega⟩
            case measure => simp [intOf]; omega
end Go.Proofs.Ytllgindmcjemeaa
