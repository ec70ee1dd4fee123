/- Walks: Parse of the program and of the reference; the law that compares them. -/
import Derived.Test.YtllgindmcjemeaaSexpF
import Derived.Test.YtllgindmcjemeaaSexpJ
import Derived.Test.YtllgindmcjemeaaSexpK
import Derived.RegionTactic
namespace Go.Proofs.Ytllgindmcjemeaa
open Go.RowKit

def PRes (s : ByteArray) (f : Fo) (c a : Int) : Prop := (4000 < s.size ∧ f = .nil ∧ c = 2 ∧ a = 0) ∨ (s.size ≤ 4000 ∧ f.cnt ≤ 4000 ∧ ∃ e, Prs s 0 0 f e c a)
theorem PRes.one {s : ByteArray} {f f' : Fo} {c a c' a' : Int} (h : PRes s f c a) (h' : PRes s f' c' a') : f = f' ∧ c = c' ∧ a = a' := by
  rcases h with ⟨h1, rfl, rfl, rfl⟩ | ⟨h1, h0, e, h2⟩
  · rcases h' with ⟨_, rfl, rfl, rfl⟩ | ⟨h3, _⟩
    · exact ⟨rfl, rfl, rfl⟩
    · omega
  · rcases h' with ⟨h3, _⟩ | ⟨_, _, e', h4⟩
    · omega
    · obtain ⟨rfl, rfl, rfl, rfl⟩ := h2.one h4
      exact ⟨rfl, rfl, rfl⟩
theorem PRes.cnt {s : ByteArray} {f : Fo} {c a : Int} (h : PRes s f c a) : f.cnt ≤ 4000 := by
  rcases h with ⟨h1, rfl, rfl, rfl⟩ | ⟨h1, h0, e, h2⟩
  · simp [Fo.cnt]
  · exact h0
def ParsePost (s : ByteArray) (w : World) (e : Ending) (w' : World) : Prop :=
  ∃ (f : Fo) (c a : Int) (A : Option Addr) (cap : Nat), PRes s f c a ∧ e = .returned (.tuple #[.slice A f.len cap, .agg #[.int .i64 c, .int .i64 a]]) ∧
    Lies w' (fun b => w.heap.size ≤ b ∧ b < w'.heap.size) f A 0 f.len ∧ Below w.heap.size w w'

set_option maxHeartbeats 1000000 in
theorem parse_any (s : ByteArray) (w : World) (hmax : s.size ≤ maxLen) : Calls Try.prog 15 #[.string s] w (ParsePost s w) := by
  unfold maxLen at hmax
  by_cases hbig : 4000 < s.size
  · go_enter Try.func15, Try.ntmps15
    go_wp2_with fail
    refine bodyPost_ret (v := .tuple #[.slice none 0 0, .agg #[.int .i64 2, .int .i64 0]]) (by simp [results, Try.results15, go_sem]) rfl ?_
    exact ⟨.nil, 2, 0, none, 0, .inl ⟨hbig, rfl, rfl, rfl⟩, rfl, rfl, (Below.refl _ _).alloc (Nat.le_refl _) _⟩
  · have hs : s.size ≤ 4000 := by omega
    go_enter Try.func15, Try.ntmps15
    go_wp2_with fail
    refine (plist_any (s.size + 1) (w.heap.size + 1) s 0 0 _ (by omega) hs (by omega) (by omega) (by omega) (by have := Blk.new (w.alloc (.cells #[.int .i64 0, .int .i64 0] 24)) 80 #[.string s, .int .i64 0, .int .i64 0, .int .i64 0]; rw [World.size_alloc] at this; exact this)).mono ?_
    rintro e w2 (⟨f, e', A, cap, hp, rfl, honly, hl, p, hpos, hblk⟩ | ⟨e', c, a, p, v, hp, hc, rfl, honly, hblk⟩)
    all_goals
      have hbel0 : Below (w.heap.size + 1) (w.alloc (.cells #[.int .i64 0, .int .i64 0] 24)) w2 := ((Below.refl _ _).alloc (by simp) _).trans (only_below honly (Nat.le_refl _) (by simp))
      have hblk1 := (Blk.new w 24 #[.int .i64 0, .int .i64 0]).below hbel0 (by omega)
      have hbel : Below w.heap.size w w2 := ((Below.refl _ _).alloc (Nat.le_refl _) _).trans (hbel0.mono (by omega))
      have hz : w.heap.size < w2.heap.size := hblk1.lt
      have hz2 : w.heap.size + 1 < w2.heap.size := hblk.lt
      have c0 : w2.cell? ⟨w.heap.size, 0, none⟩ = some (.int .i64 0) := hblk1.cell 0
      have c1 : w2.cell? ⟨w.heap.size, 1, none⟩ = some (.int .i64 0) := hblk1.cell 1
      have z0 : w2.frozen? ⟨w.heap.size, 0, none⟩ = false := hblk1.frozen 0
      have z1 : w2.frozen? ⟨w.heap.size, 1, none⟩ = false := hblk1.frozen 1
    · have hcnt := ((hp.ends (by omega) (by omega)).2.2 rfl).2.1
      have hen := (hp.ends (by omega) (by omega)).2.1
      have HP := Lib.hid hp
      have hl2 : Lies ((w2.setCell ⟨w.heap.size, 0, none⟩ (.int .i64 0)).setCell ⟨w.heap.size, 1, none⟩ (.int .i64 0)) (fun b => w.heap.size ≤ b ∧ b < ((w2.setCell ⟨w.heap.size, 0, none⟩ (.int .i64 0)).setCell ⟨w.heap.size, 1, none⟩ (.int .i64 0)).heap.size) f A 0 f.len := by
        have hb1 : ∀ b, (w.alloc (.cells #[.int .i64 0, .int .i64 0] 24)).heap.size + 1 ≤ b → w.heap.size < b := fun b hb => by simp at hb; omega
        refine Lies.keep (fun b hb => ⟨Nat.le_of_lt (hb1 b (by simpa using hb.1)), by simpa [World.setCell] using hb.2⟩) (fun b o hb => ?_) _ _ _ _ hl
        have hlt := hb1 b (by simpa using hb.1)
        rw [World.cell?_setCell_other _ _ _ _ (by intro h; injection h; omega), World.cell?_setCell_other _ _ _ _ (by intro h; injection h; omega)]
      clear hp hblk honly hbel0 hblk1 hl
      go_wp2_with fail
      refine bodyPost_ret (v := .tuple #[.slice A f.len cap, .agg #[.int .i64 0, .int .i64 0]]) (by simp [results, Try.results15, go_sem, c0, c1]) rfl ?_
      exact ⟨f, 0, 0, A, cap, .inr ⟨hs, by omega, _, HP.out⟩, rfl, hl2, (hbel.setCell (p := ⟨w.heap.size, 0, none⟩) (Nat.le_refl _) _).setCell (p := ⟨w.heap.size, 1, none⟩) (Nat.le_refl _) _⟩
    · have x2 : w2.cell? ⟨w.heap.size + 1, 2, none⟩ = some (.int .i64 c) := hblk.cell 2
      have x3 : w2.cell? ⟨w.heap.size + 1, 3, none⟩ = some (.int .i64 a) := hblk.cell 3
      have HP := Lib.hid hp
      clear hp hblk honly hbel0 hblk1
      go_wp2_with fail
      go_region
      go_wp2_with fail
      refine bodyPost_ret (v := .tuple #[.slice none 0 0, .agg #[.int .i64 c, .int .i64 a]]) (by simp [results, Try.results15, go_sem, c0, c1]) rfl ?_
      exact ⟨.nil, c, a, none, 0, .inr ⟨hs, by simp [Fo.cnt], _, HP.out⟩, rfl, rfl, ((hbel.setCell (p := ⟨w.heap.size, 0, none⟩) (Nat.le_refl _) _).setCell (p := ⟨w.heap.size, 1, none⟩) (Nat.le_refl _) _).drew⟩

set_option maxHeartbeats 1000000 in
theorem sexpParse_any (s : ByteArray) (w : World) (hmax : s.size ≤ maxLen) : Calls Try.prog 16 #[.string s] w (ParsePost s w) := by
  unfold maxLen at hmax
  by_cases hbig : 4000 < s.size
  · go_enter Try.func16, Try.ntmps16
    go_wp2_with fail
    refine bodyPost_ret (v := .tuple #[.slice none 0 0, .agg #[.int .i64 2, .int .i64 0]]) (by simp [results, Try.results16, go_sem]) rfl ?_
    exact ⟨.nil, 2, 0, none, 0, .inl ⟨hbig, rfl, rfl, rfl⟩, rfl, rfl, (Below.refl _ _).alloc (Nat.le_refl _) _⟩
  · have hs : s.size ≤ 4000 := by omega
    go_enter Try.func16, Try.ntmps16
    go_wp2_with fail
    refine (from_any (s.size + 1) s 0 0 _ (by omega) hs (by omega) (by omega) (by omega)).mono ?_
    rintro e w2 (⟨f, e', A, cap, hp, rfl, hl, hb2⟩ | ⟨e', c, a, hp, hc, rfl, hb2⟩)
    all_goals
      have hblk1 := (Blk.new w 24 #[.int .i64 0, .int .i64 0]).below hb2 (by simp)
      have hbel : Below w.heap.size w w2 := ((Below.refl _ _).alloc (Nat.le_refl _) _).trans (hb2.mono (by simp))
      have hz : w.heap.size < w2.heap.size := hblk1.lt
      have c0 : w2.cell? ⟨w.heap.size, 0, none⟩ = some (.int .i64 0) := hblk1.cell 0
      have c1 : w2.cell? ⟨w.heap.size, 1, none⟩ = some (.int .i64 0) := hblk1.cell 1
      have z0 : w2.frozen? ⟨w.heap.size, 0, none⟩ = false := hblk1.frozen 0
      have z1 : w2.frozen? ⟨w.heap.size, 1, none⟩ = false := hblk1.frozen 1
    · have hcnt := ((hp.ends (by omega) (by omega)).2.2 rfl).2.1
      have hen := (hp.ends (by omega) (by omega)).2.1
      have HP := Lib.hid hp
      have HL := Lib.hid hl
      clear hp hblk1 hl hb2
      go_wp2_with fail
      go_region
      go_wp2_with fail
      refine bodyPost_ret (v := .tuple #[.slice A f.len cap, .agg #[.int .i64 0, .int .i64 0]]) (by simp [results, Try.results16, go_sem, c0, c1, hz]) rfl ?_
      refine ⟨f, 0, 0, A, cap, .inr ⟨hs, by omega, _, HP.out⟩, rfl, ?_, (((hbel.setCell (p := ⟨w.heap.size, 0, none⟩) (Nat.le_refl _) _).setCell (p := ⟨w.heap.size, 1, none⟩) (Nat.le_refl _) _).alloc (by simp; omega) _).drew⟩
      have hb1 : ∀ b, (w.alloc (.cells #[.int .i64 0, .int .i64 0] 24)).heap.size ≤ b → w.heap.size < b := fun b hb => by simp at hb; omega
      refine Lies.keep (fun b hb => ⟨Nat.le_of_lt (hb1 b hb.1), by have := hb.2; simp [World.setCell]; omega⟩) (fun b o hb => ?_) _ _ _ _ HL.out
      have hlt := hb1 b hb.1
      rw [World.cell?_drew, World.cell?_alloc_lt _ _ _ (by simpa [World.setCell] using hb.2), World.cell?_setCell_other _ _ _ _ (by intro h; injection h; omega), World.cell?_setCell_other _ _ _ _ (by intro h; injection h; omega)]
    · have hcb : (c != 0) = true := by rw [bne_iff_ne]; exact hc
      have HP := Lib.hid hp
      clear hp hblk1 hb2 hc
      go_wp2_with fail
      go_region
      go_wp2_with fail
      refine bodyPost_ret (v := .tuple #[.slice none 0 0, .agg #[.int .i64 c, .int .i64 a]]) (by simp [results, Try.results16, go_sem, c0, c1, hz]) rfl ?_
      exact ⟨.nil, c, a, none, 0, .inr ⟨hs, by simp [Fo.cnt], _, HP.out⟩, rfl, rfl, (((hbel.setCell (p := ⟨w.heap.size, 0, none⟩) (Nat.le_refl _) _).setCell (p := ⟨w.heap.size, 1, none⟩) (Nat.le_refl _) _).alloc (by simp; omega) _).drew⟩

set_option maxHeartbeats 1000000 in
theorem sexpParseSays_any (s : ByteArray) (w : World) (hmax : s.size ≤ maxLen) : Calls Try.prog 4 #[.string s] w fun e w' => e = .returned (.bool true) ∧ Below w.heap.size w w' := by
  go_enter Try.func4, Try.ntmps4
  go_wp2_with fail
  refine (parse_any s _ hmax).mono ?_
  rintro e w1 ⟨f, c, a, A, cap, hp, rfl, hl, hb1⟩
  go_wp2_with fail
  refine (sexpParse_any s _ hmax).mono ?_
  rintro e w2 ⟨f', c', a', A', cap', hp', rfl, hl', hb2⟩
  obtain ⟨rfl, rfl, rfl⟩ := hp.one hp'
  have hcnt := hp.cnt
  have hlen := Fo.len_le f
  have hz1 : w.heap.size ≤ w1.heap.size := hb1.size
  have hz2 : w1.heap.size + 1 ≤ w2.heap.size := by have := hb2.size; simpa using this
  have hlA : Lies (w2.alloc (.cells #[.int .i64 c, .int .i64 a] 24)) (fun _ => True) f A 0 f.len :=
    Lies.keep (fun _ _ => trivial) (fun b o hb => by rw [World.cell?_alloc_lt _ _ _ (by have := hb.2; simp; omega), hb2.cell (p := ⟨b, o, none⟩) (by have := hb.2; simp; omega), World.cell?_alloc_lt _ _ _ hb.2]) _ _ _ _ hl
  have hlB : Lies (w2.alloc (.cells #[.int .i64 c, .int .i64 a] 24)) (fun _ => True) f A' 0 f.len :=
    Lies.keep (fun _ _ => trivial) (fun b o hb => by rw [World.cell?_alloc_lt _ _ _ hb.2]) _ _ _ _ hl'
  have hbel : Below w.heap.size w (w2.alloc (.cells #[.int .i64 c, .int .i64 a] 24)) := ((hb1.alloc hz1 _).trans (hb2.mono (by simp; omega))).alloc (by omega) _
  have hblk := ((Blk.new w1 24 #[.int .i64 c, .int .i64 a]).below hb2 (by simp)).alloc (.cells #[.int .i64 c, .int .i64 a] 24)
  have x0 : (w2.alloc (.cells #[.int .i64 c, .int .i64 a] 24)).cell? ⟨w1.heap.size, 0, none⟩ = some (.int .i64 c) := hblk.cell 0
  have x1 : (w2.alloc (.cells #[.int .i64 c, .int .i64 a] 24)).cell? ⟨w1.heap.size, 1, none⟩ = some (.int .i64 a) := hblk.cell 1
  have hblk2 := Blk.new w2 24 #[.int .i64 c, .int .i64 a]
  have x2 : (w2.alloc (.cells #[.int .i64 c, .int .i64 a] 24)).cell? ⟨w2.heap.size, 0, none⟩ = some (.int .i64 c) := hblk2.cell 0
  have x3 : (w2.alloc (.cells #[.int .i64 c, .int .i64 a] 24)).cell? ⟨w2.heap.size, 1, none⟩ = some (.int .i64 a) := hblk2.cell 1
  have HX := Lib.hid (And.intro x0 (And.intro x1 (And.intro x2 (And.intro x3 (And.intro hlA (And.intro hlB hbel))))))
  clear hl hl' hb1 hb2 hp hp' hblk hblk2 hlA hlB hbel x0 x1 x2 x3
  go_wp2_with fail
  obtain ⟨x0, x1, x2, x3, hlA, hlB, hbel⟩ := HX.out
  refine (sameSexps_any (f.cnt + 1) f A A' f.len cap cap' (fun _ => True) _ (by omega) hlA hlB (by omega) (by omega)).mono ?_
  rintro e w3 ⟨rfl, m, rfl⟩
  generalize (w2.alloc (.cells #[.int .i64 c, .int .i64 a] 24)) = W at *
  clear hlA hlB HX
  go_wp2_with fail
  go_ret
  exact ⟨ret_bool (by simp), below_drewN hbel _⟩
end Go.Proofs.Ytllgindmcjemeaa
