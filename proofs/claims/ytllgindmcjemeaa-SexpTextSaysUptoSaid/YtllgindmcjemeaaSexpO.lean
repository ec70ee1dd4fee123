/- An argument of type []Sexp, opened: it reads as a forest that lies in memory. -/
import Derived.Test.YtllgindmcjemeaaLaw
namespace Go.Proofs.Ytllgindmcjemeaa
open Go.ChangeShapes Go.WideShapes Go.ChangeAt Go.RowKit Go.Deep

theorem cells86 : Try.prog.cellsOf 86 = 3 := by kernel_rfl

theorem len3 {α : Type} {l : List α} (h : l.length = 3) : ∃ a b c, l = [a, b, c] := by
  match l, h with
  | [a, b, c], _ => exact ⟨a, b, c, rfl⟩

section
variable {H : Type} {enc : TypeId × Value → H} {w : World} {base : Nat} {spare : Nat → Bool} {held : Bool}

/-- places i, i + 1, .. n - 1 of a slice of expressions, each of which has kids that lie: the forest -/
theorem fo_from (b off n : Nat) (D : Nat → DataW H)
    (hel : ∀ i, i < n → ∃ (wd : ByteArray) (ls : Bool) (A' : Option Addr) (n' c' : Nat) (ks : Fo), w.cell? ⟨b, off + i * 3, none⟩ = some (.string wd) ∧ w.cell? ⟨b, off + i * 3 + 1, none⟩ = some (.bool ls) ∧
      w.cell? ⟨b, off + i * 3 + 2, none⟩ = some (.slice A' n' c') ∧ wd.size ≤ maxLen ∧ LiesB w w.heap.size ks A' 0 n' ∧ 1 + ks.cnt ≤ Rows.uptoBulk (D i)) :
    ∀ (m i : Nat), i + m = n → ∃ f : Fo, LiesB w w.heap.size f (some ⟨b, off, none⟩) i n ∧ f.cnt ≤ Rows.uptoBulkAll ((List.range m).map fun j => D (i + j))
  | 0, i, h => ⟨.nil, by simpa [LiesB, Lies] using h, by simp [Fo.cnt]⟩
  | m + 1, i, h => by
    obtain ⟨wd, ls, A', n', c', ks, h0, h1, h2, h3, h4, h5⟩ := hel i (by omega)
    obtain ⟨nx, g1, g2⟩ := fo_from b off n D hel m (i + 1) (by omega)
    refine ⟨.cons wd ls ks nx, ⟨by omega, b, off, A', n', c', rfl, cell_lt h0, h0, h1, h2, h3, h4, g1⟩, ?_⟩
    rw [List.range_succ_eq_map, List.map_cons, List.map_map]
    have e : ((fun j => D (i + j)) ∘ Nat.succ) = fun j => D (i + 1 + j) := by funext j; simp only [Function.comp]; congr 1; omega
    rw [e]
    simp only [Rows.uptoBulkAll, Fo.cnt, Nat.add_zero]
    omega

theorem open_fo (k : Nat) : ∀ (fuel : Nat) (v : Value) (x : DataW H × List MemPlace), Rows.uptoBulk x.1 < k → DataW.trod enc Try.prog w base spare held fuel 22 [v] = some x →
    ∃ (f : Fo) (A : Option Addr) (n c : Nat), v = .slice A n c ∧ LiesB w w.heap.size f A 0 n ∧ f.cnt ≤ Rows.uptoBulk x.1 := by
  induction k with
  | zero => intro fuel v x h; omega
  | succ k ih =>
    intro fuel v x hk h
    rcases open_slice Try.underlying22 h with ⟨hcs, rfl⟩ | ⟨a, len, cap, m, fl, D, Pl, hcs, hb, hl, hm, hmm, rfl, hi⟩
    · simp only [List.cons.injEq, and_true] at hcs
      exact ⟨.nil, none, 0, 0, hcs, rfl, by simp [Fo.cnt]⟩
    · simp only [List.cons.injEq, and_true] at hcs
      subst hcs
      have hk' : Rows.uptoBulk (DataW.slice ((List.range len).map D) ((List.range (m - len)).map fun j => D (len + j))) < k + 1 := hk
      have hlm : len ≤ m := by rw [hmm]; split <;> omega
      have hbulk : ∀ i, i < len → Rows.uptoBulk (D i) < Rows.uptoBulk (DataW.slice ((List.range len).map D) ((List.range (m - len)).map fun j => D (len + j))) := fun i hi => by
        have : ∀ (l : List Nat), i ∈ l → Rows.uptoBulk (D i) ≤ Rows.uptoBulkAll (l.map D) := by
          intro l
          induction l with
          | nil => intro h; cases h
          | cons y r ihl =>
            intro h
            simp only [List.map_cons, Rows.uptoBulkAll]
            rcases List.mem_cons.1 h with e | e
            · subst e; omega
            · have := ihl e; omega
        have := this (List.range len) (by simpa using hi)
        simp only [Rows.uptoBulk]
        omega
      have hel : ∀ i, i < len → ∃ (wd : ByteArray) (ls : Bool) (A' : Option Addr) (n' c' : Nat) (ks : Fo), w.cell? (a.add (i * 3)) = some (.string wd) ∧ w.cell? (a.add (i * 3 + 1)) = some (.bool ls) ∧
          w.cell? (a.add (i * 3 + 2)) = some (.slice A' n' c') ∧ wd.size ≤ maxLen ∧ LiesB w w.heap.size ks A' 0 n' ∧ 1 + ks.cnt ≤ Rows.uptoBulk (D i) := fun i hil => by
        obtain ⟨cs', hc, ht'⟩ := hi i (by omega)
        rw [cells86] at hc
        obtain ⟨ys, n', hn', hy, hlen, hyl, hf⟩ := DataW.trod_struct Try.underlying86 ht'
        obtain ⟨_, hcl, hat⟩ := World.cells?_some hc
        simp only [Prod.mk.injEq] at hy
        obtain ⟨c0, c1, c2, rfl⟩ := len3 hcl
        obtain ⟨y0, y1, y2, rfl⟩ := len3 hyl
        have f0 : DataW.trod enc Try.prog w base spare held n' 9 (([c0, c1, c2].drop 0).take (Try.prog.cellsOf 9)) = some y0 := hf 0 _ rfl
        rw [show Try.prog.cellsOf 9 = 1 from by kernel_rfl] at f0
        have f0' : DataW.trod enc Try.prog w base spare held n' 9 [c0] = some y0 := f0
        have f1 : DataW.trod enc Try.prog w base spare held n' 4 (([c0, c1, c2].drop 1).take (Try.prog.cellsOf 4)) = some y1 := hf 1 _ rfl
        rw [show Try.prog.cellsOf 4 = 1 from by kernel_rfl] at f1
        have f1' : DataW.trod enc Try.prog w base spare held n' 4 [c1] = some y1 := f1
        have f2 : DataW.trod enc Try.prog w base spare held n' 22 (([c0, c1, c2].drop 2).take (Try.prog.cellsOf 22)) = some y2 := hf 2 _ rfl
        rw [show Try.prog.cellsOf 22 = 1 from by kernel_rfl] at f2
        have f2' : DataW.trod enc Try.prog w base spare held n' 22 [c2] = some y2 := f2
        obtain ⟨wd, e0, rfl, hs⟩ := DataW.trod_string Try.underlying9 f0'
        obtain ⟨ls, e1, rfl⟩ := DataW.trod_bool Try.underlying4 f1'
        simp only [List.cons.injEq, and_true] at e0 e1
        subst e0 e1
        have hbd : 1 + Rows.uptoBulk y2.1 ≤ Rows.uptoBulk (D i) := by
          rw [hy.1]; simp only [List.map_cons, List.map_nil, Rows.uptoBulk, Rows.uptoBulkAll]; omega
        obtain ⟨ks, A', n2, c', rfl, hks, hcnt⟩ := ih n' c2 y2 (by have := hbulk i hil; omega) f2'
        refine ⟨wd, ls, A', n2, c', ks, ?_, ?_, ?_, hs, hks, by omega⟩
        · have := hat 0 (by omega); rw [Go.Deep.add_add] at this; simpa using this
        · have := hat 1 (by omega); rw [Go.Deep.add_add] at this; simpa using this
        · have := hat 2 (by omega); rw [Go.Deep.add_add] at this; simpa using this
      rcases Nat.eq_zero_or_pos len with rfl | hpos
      · exact ⟨.nil, some a, 0, cap, rfl, rfl, by simp [Fo.cnt]⟩
      · obtain ⟨b, off, spot⟩ := a
        have hspot : spot = none := by
          obtain ⟨wd, _, _, _, _, _, h0, _⟩ := hel 0 hpos
          simpa [Addr.add] using World.cell?_spot h0
        subst hspot
        obtain ⟨f, g1, g2⟩ := fo_from (w := w) b off len D (fun i hi => by
          obtain ⟨wd, ls, A', n', c', ks, h0, h1, h2, h3⟩ := hel i hi
          refine ⟨wd, ls, A', n', c', ks, ?_, ?_, ?_, h3⟩
          · rw [← h0, Go.WideShapes.add_plain]
          · rw [← h1, Go.WideShapes.add_plain, Nat.add_assoc]
          · rw [← h2, Go.WideShapes.add_plain, Nat.add_assoc]) len 0 (by omega)
        refine ⟨f, _, len, cap, rfl, g1, ?_⟩
        simp only [Nat.zero_add] at g2
        change f.cnt ≤ Rows.uptoBulkAll ((List.range len).map D) at g2
        simp only [Rows.uptoBulk]
        omega
end
end Go.Proofs.Ytllgindmcjemeaa
