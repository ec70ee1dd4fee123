/- Walks: raw numbers into a number of a range, and into expressions without a fault. -/
import Derived.Test.YtllgindmcjemeaaSexpR
import Derived.Deep.LoopGhost
namespace Go.Proofs.Ytllgindmcjemeaa
open Go.RowKit

set_option maxHeartbeats 400000 in
theorem picked_any (a n : Int) (w : World) (h0 : 0 < n) (h1 : n ≤ 1000000) :
    Calls Try.prog 27 #[.int .i64 a, .int .i64 n] w fun e w' => e = .returned (.int .i64 (a % n)) ∧ w = w' := by
  have h2 : (n == 0) = false := by rw [beq_eq_false_iff_ne]; omega
  have h3 := Int.tmod_lt_of_pos a h0
  have h4 : -n < a.tmod n := by
    have := Int.lt_tmod_of_pos a h0
    exact this
  go_enter Try.func27, Try.ntmps27
  go_wp2
  all_goals go_ret
  all_goals refine ⟨ret_int ?_, rfl⟩
  · rename_i h
    rw [Int.tmod_eq_emod] at h ⊢
    split at h
    · have := Int.emod_nonneg a (by omega : n ≠ 0); omega
    · rw [if_neg (by assumption)]; omega
  · rename_i h
    rw [Int.tmod_eq_emod] at h ⊢
    split at h
    · rw [if_pos (by assumption)]; omega
    · have := Int.emod_lt_of_pos a h0; omega

def IntsAt (w : World) (B : Nat) (A : Option Addr) (n : Nat) : Prop := ∀ i, i < n → ∃ (b off : Nat) (x : Int), A = some ⟨b, off, none⟩ ∧ b < B ∧ w.cell? ⟨b, off + i, none⟩ = some (.int .i64 x)
theorem IntsAt.keep {w w' : World} {B n : Nat} {A : Option Addr} (h : IntsAt w B A n) (hk : ∀ b o, b < B → w'.cell? ⟨b, o, none⟩ = w.cell? ⟨b, o, none⟩) : IntsAt w' B A n := fun i hi => by
  obtain ⟨b, off, x, h1, h2, h3⟩ := h i hi
  exact ⟨b, off, x, h1, h2, (hk b _ h2).trans h3⟩
theorem IntsAt.alloc {w : World} {B n : Nat} {A : Option Addr} (h : IntsAt w B A n) (hB : B ≤ w.heap.size) (o : Obj) : IntsAt (w.alloc o) B A n :=
  h.keep fun b _ hb => World.cell?_alloc_lt _ _ _ (by simp; omega)
theorem IntsAt.grown {w w' : World} {B n : Nat} {A : Option Addr} {row : Option Nat} (h : IntsAt w B A n) (hg : w.grownBy w' row) (hB : B ≤ w.heap.size) (hr : ∀ x, row = some x → B ≤ x) : IntsAt w' B A n :=
  h.keep fun b _ hb => only_cell hg (by omega) (fun e => by have := hr b e; omega)

theorem good_app : ∀ {f g : Fo} {d : Int}, Good f d → Good g d → Good (f.app g) d
  | .nil, _, _, _, h => h
  | .cons _ _ _ _, _, _, h, h' => by
    obtain ⟨g1, g2, g3, g4, g5⟩ := h.cons
    exact Good.mk g1 (good_app g2 h') g3 g4 g5

def ThPost (n : Nat) (d : Int) (B : Nat) (w : World) (e : Ending) (w' : World) : Prop :=
  ∃ (f : Fo) (V : Option Addr) (cap : Nat) (A' : Option Addr) (n' c' : Nat), e = .returned (.tuple #[.slice V f.len cap, .slice A' n' c']) ∧ (∀ δ : Int, 0 ≤ δ → δ + d ≤ 40 → Good f δ) ∧ f.cnt + n' ≤ n ∧
    IntsAt w' B A' n' ∧ n' ≤ c' ∧ c' ≤ 9223372036854775807 ∧ Lies w' (fun b => w.heap.size ≤ b ∧ b < w'.heap.size) f V 0 f.len ∧ Below w.heap.size w w'

set_option maxRecDepth 100000 in
set_option maxHeartbeats 4000000 in
theorem things_any (k : Nat) : ∀ (A : Option Addr) (n c : Nat) (d : Int) (B : Nat) (w : World), n < k → c ≤ 9223372036854775807 → IntsAt w B A n → n ≤ c → B ≤ w.heap.size → n ≤ 1048576 → 0 ≤ d → d ≤ 6 → True →
    Calls Try.prog 25 #[.slice A n c, .int .i64 d] w (ThPost n d B w) := by
  induction k with
  | zero => intro A n c d B w hk; omega
  | succ k ih =>
    intro A n c d B w hk hcm hin0 hnc hB hn hd0 hd1 _
    have IH := Lib.hid ih
    obtain ⟨i0, hi0, hz0, hz1, hz2⟩ := info_parts infoSexp
    have HI := Lib.hid (And.intro hi0 (And.intro hz0 (And.intro hz1 hz2)))
    clear ih hi0 hz0 hz1 hz2
    go_enter Try.func25, Try.ntmps25
    go_wp2_with fail
    go_loopg [0, 6] n (fun gk lv v wr => ∃ (A' : Option Addr) (m c' : Nat) (acc : Fo), lv = .slice A' m c' ∧ Hid (gk = m) ∧ m ≤ c' ∧ c' ≤ 9223372036854775807 ∧ acc.cnt + m ≤ n ∧ Hid (∀ δ : Int, 0 ≤ δ → δ + d ≤ 40 → Good acc δ) ∧ IntsAt wr B A' m ∧ Below w.heap.size w wr ∧ OwnFo wr w.heap.size v acc)
    case atStart => exact ⟨A, n, c, .nil, rfl, rfl, hnc, hcm, by simp [Fo.cnt], fun _ _ _ _ => rfl, hin0, Below.refl _ _, OwnFo.none _ _⟩
    case round =>
      obtain ⟨A', m, c', acc, rfl, HGK, hmc, hcm', hcnt, HG, hin, hbel, hown⟩ := hrel
      have hz : w.heap.size ≤ wr.heap.size := hbel.size
      have hBz : B ≤ wr.heap.size := by omega
      have hal := Fo.len_le acc
      clear hin0
      by_cases hm : 0 < m
      · obtain ⟨b, off, x, rfl, hb, hx⟩ := hin 0 hm
        rw [Nat.add_zero] at hx
        have hp0 : 0 ≤ x % 5 := by omega
        have hp1 : x % 5 < 5 := by omega
        have HPK := Lib.hid (fun W => picked_any x 5 W (by omega) (by omega))
        generalize x % 5 = p at HPK hp0 hp1
        by_cases hc1 : c' = 1
        · subst hc1
          have hints : ∀ W' : World, (∀ q o, q < B → W'.cell? ⟨q, o, none⟩ = wr.cell? ⟨q, o, none⟩) → IntsAt W' B (some ⟨b, off, none⟩) 0 := fun W hW i hi => by omega
          rcases (by omega : p = 0 ∨ p = 3 ∨ p = 4 ∨ (p = 1 ∧ d = 0) ∨ (p = 2 ∧ d = 0) ∨ (1 ≤ p ∧ p ≤ 2 ∧ ¬ d = 0)) with rfl | rfl | rfl | ⟨rfl, hdz⟩ | ⟨rfl, hdz⟩ | ⟨hpa, hpb, hdn⟩
          · obtain ⟨V, cap, rfl, hl⟩ := hown.lies
            go_wp2_with fail
            refine (HPK.out _).mono ?_
            rintro e w' ⟨rfl, rfl⟩
            go_wp2_with fail
            go_ret2
            exact ⟨acc, V, cap, _, _, _, rfl, HG.out, by omega, hints _ (fun _ _ _ => rfl), by omega, by omega, hl, hbel⟩
          · skip
            go_wp2_with fail
            refine (HPK.out _).mono ?_
            rintro e w' ⟨rfl, rfl⟩
            have hlt6 := hown.lt
            have hnews : ∀ (q : Nat) (u : Value), ([.string ⟨#[43]⟩, .bool false, .slice none 0 0] : List Value)[q]? = some u → ((wr.alloc (.cells #[.string ⟨#[97]⟩, .string ⟨#[45, 51, 47, 50]⟩, .string ⟨#[120, 95, 49]⟩, .string ⟨#[43]⟩, .string ⟨#[39, 34]⟩] 9)).alloc (.cells #[.string ⟨#[43]⟩, .bool false, .slice none 0 0] 86)).cell? ((⟨wr.heap.size + 1, 0, none⟩ : Addr).add q) = some u := by
              have := World.news_of_block (cs := #[.string ⟨#[43]⟩, .bool false, .slice none 0 0]) (t := 86) (fr := (0, 0)) (heap_alloc_new (wr.alloc (.cells #[.string ⟨#[97]⟩, .string ⟨#[45, 51, 47, 50]⟩, .string ⟨#[120, 95, 49]⟩, .string ⟨#[43]⟩, .string ⟨#[39, 34]⟩] 9)) (.cells #[.string ⟨#[43]⟩, .bool false, .slice none 0 0] 86))
              rw [World.size_alloc] at this
              exact this
            obtain ⟨cells, hrow, hels⟩ := (hown.alloc (.cells #[.string ⟨#[97]⟩, .string ⟨#[45, 51, 47, 50]⟩, .string ⟨#[120, 95, 49]⟩, .string ⟨#[43]⟩, .string ⟨#[39, 34]⟩] 9)).alloc (.cells #[.string ⟨#[43]⟩, .bool false, .slice none 0 0] 86)
            have hbel3 := (hbel.alloc hz (.cells #[.string ⟨#[97]⟩, .string ⟨#[45, 51, 47, 50]⟩, .string ⟨#[120, 95, 49]⟩, .string ⟨#[43]⟩, .string ⟨#[39, 34]⟩] 9)).alloc (by simp; omega) (.cells #[.string ⟨#[43]⟩, .bool false, .slice none 0 0] 86)
            have hbase5 : w.heap.size ≤ ((wr.alloc (.cells #[.string ⟨#[97]⟩, .string ⟨#[45, 51, 47, 50]⟩, .string ⟨#[120, 95, 49]⟩, .string ⟨#[43]⟩, .string ⟨#[39, 34]⟩] 9)).alloc (.cells #[.string ⟨#[43]⟩, .bool false, .slice none 0 0] 86)).heap.size := by simp; omega
            have hgood3 : Hid (∀ δ : Int, 0 ≤ δ → δ + d ≤ 40 → Good (acc.app (.cons ⟨#[43]⟩ false .nil .nil)) δ) := fun δ h1 h2 => good_app (HG.out δ h1 h2) (Good.mk (by omega) (fun _ => rfl) (fun _ => rfl) (fun h => by cases h) (fun _ => ⟨rfl, by decide⟩))
            have HH := Lib.hid (And.intro hrow (And.intro hels (And.intro hbel3 hlt6)))
            clear hrow hels hbel3 hlt6 hown hbel
            go_wp2_with (at_builtin; go_loud (refine wpList_append_lies _ rfl (.tmp 28) (.tmp 34) 22 rfl w.heap.size 86 i0 _ 3 48 Try.underlying22 HI.out.1 HI.out.2.1 HI.out.2.2.1 HI.out.2.2.2 rfl (by omega) u6 acc.len cells rfl HH.out.1 ⟨wr.heap.size + 1, 0, none⟩ 1 1 [.string ⟨#[43]⟩, .bool false, .slice none 0 0] rfl rfl hnews (by simp [Value.oneCell']) (by omega) (by unfold maxLen; omega) (by omega) hbase5 (wr.heap.size + 2) (by simp) ?_); intro gg cp w5 hown5 hgrow hat hlt3)
            obtain ⟨hrow, hels, hbel3, hlt6⟩ := HH.out
            have hpush := OwnFo.push (acc := acc) (ks := .nil) hels (by decide) rfl hown5 hgrow (by simpa using hat)
            have hbel5 := below_then hbel3 hgrow hbase5 (fun x hx => (hlt6 x hx).1)
            go_roundg 0
            case measure => have := HGK.out; omega
            case rel => exact ⟨_, _, _, _, rfl, rfl, by omega, by omega, by rw [Fo.cnt_app]; simp [Fo.cnt]; omega, hgood3, hints _ (fun q o hq => by rw [only_cell hgrow (by simp; omega) (fun e => by have := (hlt6 q e).1; omega), World.cell?_alloc_lt _ _ _ (by simp; omega), World.cell?_alloc_lt _ _ _ (by simp; omega)]), hbel5, hpush⟩
          · skip
            go_wp2_with fail
            refine (HPK.out _).mono ?_
            rintro e w' ⟨rfl, rfl⟩
            have hlt6 := hown.lt
            have hnews : ∀ (q : Nat) (u : Value), ([.string ⟨#[39, 34]⟩, .bool false, .slice none 0 0] : List Value)[q]? = some u → ((wr.alloc (.cells #[.string ⟨#[97]⟩, .string ⟨#[45, 51, 47, 50]⟩, .string ⟨#[120, 95, 49]⟩, .string ⟨#[43]⟩, .string ⟨#[39, 34]⟩] 9)).alloc (.cells #[.string ⟨#[39, 34]⟩, .bool false, .slice none 0 0] 86)).cell? ((⟨wr.heap.size + 1, 0, none⟩ : Addr).add q) = some u := by
              have := World.news_of_block (cs := #[.string ⟨#[39, 34]⟩, .bool false, .slice none 0 0]) (t := 86) (fr := (0, 0)) (heap_alloc_new (wr.alloc (.cells #[.string ⟨#[97]⟩, .string ⟨#[45, 51, 47, 50]⟩, .string ⟨#[120, 95, 49]⟩, .string ⟨#[43]⟩, .string ⟨#[39, 34]⟩] 9)) (.cells #[.string ⟨#[39, 34]⟩, .bool false, .slice none 0 0] 86))
              rw [World.size_alloc] at this
              exact this
            obtain ⟨cells, hrow, hels⟩ := (hown.alloc (.cells #[.string ⟨#[97]⟩, .string ⟨#[45, 51, 47, 50]⟩, .string ⟨#[120, 95, 49]⟩, .string ⟨#[43]⟩, .string ⟨#[39, 34]⟩] 9)).alloc (.cells #[.string ⟨#[39, 34]⟩, .bool false, .slice none 0 0] 86)
            have hbel3 := (hbel.alloc hz (.cells #[.string ⟨#[97]⟩, .string ⟨#[45, 51, 47, 50]⟩, .string ⟨#[120, 95, 49]⟩, .string ⟨#[43]⟩, .string ⟨#[39, 34]⟩] 9)).alloc (by simp; omega) (.cells #[.string ⟨#[39, 34]⟩, .bool false, .slice none 0 0] 86)
            have hbase5 : w.heap.size ≤ ((wr.alloc (.cells #[.string ⟨#[97]⟩, .string ⟨#[45, 51, 47, 50]⟩, .string ⟨#[120, 95, 49]⟩, .string ⟨#[43]⟩, .string ⟨#[39, 34]⟩] 9)).alloc (.cells #[.string ⟨#[39, 34]⟩, .bool false, .slice none 0 0] 86)).heap.size := by simp; omega
            have hgood3 : Hid (∀ δ : Int, 0 ≤ δ → δ + d ≤ 40 → Good (acc.app (.cons ⟨#[39, 34]⟩ false .nil .nil)) δ) := fun δ h1 h2 => good_app (HG.out δ h1 h2) (Good.mk (by omega) (fun _ => rfl) (fun _ => rfl) (fun h => by cases h) (fun _ => ⟨rfl, by decide⟩))
            have HH := Lib.hid (And.intro hrow (And.intro hels (And.intro hbel3 hlt6)))
            clear hrow hels hbel3 hlt6 hown hbel
            go_wp2_with (at_builtin; go_loud (refine wpList_append_lies _ rfl (.tmp 28) (.tmp 34) 22 rfl w.heap.size 86 i0 _ 3 48 Try.underlying22 HI.out.1 HI.out.2.1 HI.out.2.2.1 HI.out.2.2.2 rfl (by omega) u6 acc.len cells rfl HH.out.1 ⟨wr.heap.size + 1, 0, none⟩ 1 1 [.string ⟨#[39, 34]⟩, .bool false, .slice none 0 0] rfl rfl hnews (by simp [Value.oneCell']) (by omega) (by unfold maxLen; omega) (by omega) hbase5 (wr.heap.size + 2) (by simp) ?_); intro gg cp w5 hown5 hgrow hat hlt3)
            obtain ⟨hrow, hels, hbel3, hlt6⟩ := HH.out
            have hpush := OwnFo.push (acc := acc) (ks := .nil) hels (by decide) rfl hown5 hgrow (by simpa using hat)
            have hbel5 := below_then hbel3 hgrow hbase5 (fun x hx => (hlt6 x hx).1)
            go_roundg 0
            case measure => have := HGK.out; omega
            case rel => exact ⟨_, _, _, _, rfl, rfl, by omega, by omega, by rw [Fo.cnt_app]; simp [Fo.cnt]; omega, hgood3, hints _ (fun q o hq => by rw [only_cell hgrow (by simp; omega) (fun e => by have := (hlt6 q e).1; omega), World.cell?_alloc_lt _ _ _ (by simp; omega), World.cell?_alloc_lt _ _ _ (by simp; omega)]), hbel5, hpush⟩
          · have qd : (d == 0) = true := by rw [beq_iff_eq]; exact hdz
            have HDZ := Lib.hid hdz
            clear hdz
            go_wp2_with fail
            refine (HPK.out _).mono ?_
            rintro e w' ⟨rfl, rfl⟩
            have hlt6 := hown.lt
            have hnews : ∀ (q : Nat) (u : Value), ([.string ⟨#[45, 51, 47, 50]⟩, .bool false, .slice none 0 0] : List Value)[q]? = some u → ((wr.alloc (.cells #[.string ⟨#[97]⟩, .string ⟨#[45, 51, 47, 50]⟩, .string ⟨#[120, 95, 49]⟩, .string ⟨#[43]⟩, .string ⟨#[39, 34]⟩] 9)).alloc (.cells #[.string ⟨#[45, 51, 47, 50]⟩, .bool false, .slice none 0 0] 86)).cell? ((⟨wr.heap.size + 1, 0, none⟩ : Addr).add q) = some u := by
              have := World.news_of_block (cs := #[.string ⟨#[45, 51, 47, 50]⟩, .bool false, .slice none 0 0]) (t := 86) (fr := (0, 0)) (heap_alloc_new (wr.alloc (.cells #[.string ⟨#[97]⟩, .string ⟨#[45, 51, 47, 50]⟩, .string ⟨#[120, 95, 49]⟩, .string ⟨#[43]⟩, .string ⟨#[39, 34]⟩] 9)) (.cells #[.string ⟨#[45, 51, 47, 50]⟩, .bool false, .slice none 0 0] 86))
              rw [World.size_alloc] at this
              exact this
            obtain ⟨cells, hrow, hels⟩ := (hown.alloc (.cells #[.string ⟨#[97]⟩, .string ⟨#[45, 51, 47, 50]⟩, .string ⟨#[120, 95, 49]⟩, .string ⟨#[43]⟩, .string ⟨#[39, 34]⟩] 9)).alloc (.cells #[.string ⟨#[45, 51, 47, 50]⟩, .bool false, .slice none 0 0] 86)
            have hbel3 := (hbel.alloc hz (.cells #[.string ⟨#[97]⟩, .string ⟨#[45, 51, 47, 50]⟩, .string ⟨#[120, 95, 49]⟩, .string ⟨#[43]⟩, .string ⟨#[39, 34]⟩] 9)).alloc (by simp; omega) (.cells #[.string ⟨#[45, 51, 47, 50]⟩, .bool false, .slice none 0 0] 86)
            have hbase5 : w.heap.size ≤ ((wr.alloc (.cells #[.string ⟨#[97]⟩, .string ⟨#[45, 51, 47, 50]⟩, .string ⟨#[120, 95, 49]⟩, .string ⟨#[43]⟩, .string ⟨#[39, 34]⟩] 9)).alloc (.cells #[.string ⟨#[45, 51, 47, 50]⟩, .bool false, .slice none 0 0] 86)).heap.size := by simp; omega
            have hgood3 : Hid (∀ δ : Int, 0 ≤ δ → δ + d ≤ 40 → Good (acc.app (.cons ⟨#[45, 51, 47, 50]⟩ false .nil .nil)) δ) := fun δ h1 h2 => good_app (HG.out δ h1 h2) (Good.mk (by omega) (fun _ => rfl) (fun _ => rfl) (fun h => by cases h) (fun _ => ⟨rfl, by decide⟩))
            have HH := Lib.hid (And.intro hrow (And.intro hels (And.intro hbel3 hlt6)))
            clear hrow hels hbel3 hlt6 hown hbel
            go_wp2_with (at_builtin; go_loud (refine wpList_append_lies _ rfl (.tmp 28) (.tmp 34) 22 rfl w.heap.size 86 i0 _ 3 48 Try.underlying22 HI.out.1 HI.out.2.1 HI.out.2.2.1 HI.out.2.2.2 rfl (by omega) u6 acc.len cells rfl HH.out.1 ⟨wr.heap.size + 1, 0, none⟩ 1 1 [.string ⟨#[45, 51, 47, 50]⟩, .bool false, .slice none 0 0] rfl rfl hnews (by simp [Value.oneCell']) (by omega) (by unfold maxLen; omega) (by omega) hbase5 (wr.heap.size + 2) (by simp) ?_); intro gg cp w5 hown5 hgrow hat hlt3)
            obtain ⟨hrow, hels, hbel3, hlt6⟩ := HH.out
            have hpush := OwnFo.push (acc := acc) (ks := .nil) hels (by decide) rfl hown5 hgrow (by simpa using hat)
            have hbel5 := below_then hbel3 hgrow hbase5 (fun x hx => (hlt6 x hx).1)
            go_roundg 0
            case measure => have := HGK.out; omega
            case rel => exact ⟨_, _, _, _, rfl, rfl, by omega, by omega, by rw [Fo.cnt_app]; simp [Fo.cnt]; omega, hgood3, hints _ (fun q o hq => by rw [only_cell hgrow (by simp; omega) (fun e => by have := (hlt6 q e).1; omega), World.cell?_alloc_lt _ _ _ (by simp; omega), World.cell?_alloc_lt _ _ _ (by simp; omega)]), hbel5, hpush⟩
          · have qd : (d == 0) = true := by rw [beq_iff_eq]; exact hdz
            have HDZ := Lib.hid hdz
            clear hdz
            go_wp2_with fail
            refine (HPK.out _).mono ?_
            rintro e w' ⟨rfl, rfl⟩
            have hlt6 := hown.lt
            have hnews : ∀ (q : Nat) (u : Value), ([.string ⟨#[120, 95, 49]⟩, .bool false, .slice none 0 0] : List Value)[q]? = some u → ((wr.alloc (.cells #[.string ⟨#[97]⟩, .string ⟨#[45, 51, 47, 50]⟩, .string ⟨#[120, 95, 49]⟩, .string ⟨#[43]⟩, .string ⟨#[39, 34]⟩] 9)).alloc (.cells #[.string ⟨#[120, 95, 49]⟩, .bool false, .slice none 0 0] 86)).cell? ((⟨wr.heap.size + 1, 0, none⟩ : Addr).add q) = some u := by
              have := World.news_of_block (cs := #[.string ⟨#[120, 95, 49]⟩, .bool false, .slice none 0 0]) (t := 86) (fr := (0, 0)) (heap_alloc_new (wr.alloc (.cells #[.string ⟨#[97]⟩, .string ⟨#[45, 51, 47, 50]⟩, .string ⟨#[120, 95, 49]⟩, .string ⟨#[43]⟩, .string ⟨#[39, 34]⟩] 9)) (.cells #[.string ⟨#[120, 95, 49]⟩, .bool false, .slice none 0 0] 86))
              rw [World.size_alloc] at this
              exact this
            obtain ⟨cells, hrow, hels⟩ := (hown.alloc (.cells #[.string ⟨#[97]⟩, .string ⟨#[45, 51, 47, 50]⟩, .string ⟨#[120, 95, 49]⟩, .string ⟨#[43]⟩, .string ⟨#[39, 34]⟩] 9)).alloc (.cells #[.string ⟨#[120, 95, 49]⟩, .bool false, .slice none 0 0] 86)
            have hbel3 := (hbel.alloc hz (.cells #[.string ⟨#[97]⟩, .string ⟨#[45, 51, 47, 50]⟩, .string ⟨#[120, 95, 49]⟩, .string ⟨#[43]⟩, .string ⟨#[39, 34]⟩] 9)).alloc (by simp; omega) (.cells #[.string ⟨#[120, 95, 49]⟩, .bool false, .slice none 0 0] 86)
            have hbase5 : w.heap.size ≤ ((wr.alloc (.cells #[.string ⟨#[97]⟩, .string ⟨#[45, 51, 47, 50]⟩, .string ⟨#[120, 95, 49]⟩, .string ⟨#[43]⟩, .string ⟨#[39, 34]⟩] 9)).alloc (.cells #[.string ⟨#[120, 95, 49]⟩, .bool false, .slice none 0 0] 86)).heap.size := by simp; omega
            have hgood3 : Hid (∀ δ : Int, 0 ≤ δ → δ + d ≤ 40 → Good (acc.app (.cons ⟨#[120, 95, 49]⟩ false .nil .nil)) δ) := fun δ h1 h2 => good_app (HG.out δ h1 h2) (Good.mk (by omega) (fun _ => rfl) (fun _ => rfl) (fun h => by cases h) (fun _ => ⟨rfl, by decide⟩))
            have HH := Lib.hid (And.intro hrow (And.intro hels (And.intro hbel3 hlt6)))
            clear hrow hels hbel3 hlt6 hown hbel
            go_wp2_with (at_builtin; go_loud (refine wpList_append_lies _ rfl (.tmp 28) (.tmp 34) 22 rfl w.heap.size 86 i0 _ 3 48 Try.underlying22 HI.out.1 HI.out.2.1 HI.out.2.2.1 HI.out.2.2.2 rfl (by omega) u6 acc.len cells rfl HH.out.1 ⟨wr.heap.size + 1, 0, none⟩ 1 1 [.string ⟨#[120, 95, 49]⟩, .bool false, .slice none 0 0] rfl rfl hnews (by simp [Value.oneCell']) (by omega) (by unfold maxLen; omega) (by omega) hbase5 (wr.heap.size + 2) (by simp) ?_); intro gg cp w5 hown5 hgrow hat hlt3)
            obtain ⟨hrow, hels, hbel3, hlt6⟩ := HH.out
            have hpush := OwnFo.push (acc := acc) (ks := .nil) hels (by decide) rfl hown5 hgrow (by simpa using hat)
            have hbel5 := below_then hbel3 hgrow hbase5 (fun x hx => (hlt6 x hx).1)
            go_roundg 0
            case measure => have := HGK.out; omega
            case rel => exact ⟨_, _, _, _, rfl, rfl, by omega, by omega, by rw [Fo.cnt_app]; simp [Fo.cnt]; omega, hgood3, hints _ (fun q o hq => by rw [only_cell hgrow (by simp; omega) (fun e => by have := (hlt6 q e).1; omega), World.cell?_alloc_lt _ _ _ (by simp; omega), World.cell?_alloc_lt _ _ _ (by simp; omega)]), hbel5, hpush⟩
          · have q0 : (p == 0) = false := by rw [beq_eq_false_iff_ne]; omega
            have q1 : (d == 0) = false := by rw [beq_eq_false_iff_ne]; omega
            have q2 : decide (2 < p) = false := by simp; omega
            go_wp2_with fail
            refine (HPK.out _).mono ?_
            rintro e w' ⟨rfl, rfl⟩
            have hlt6 := hown.lt
            have HINTS := Lib.hid (And.intro hints (And.intro hown (And.intro hbel hlt6)))
            clear hints hown hbel hlt6
            go_wp2_with fail
            obtain ⟨hints, hown, hbel, hlt6⟩ := HINTS.out
            refine (IH.out (some ⟨b, off, none⟩) 0 0 (d - 1) B wr (by have := HGK.out; omega) (by omega) (hints _ (fun _ _ _ => rfl)) (by omega) hBz (by omega) (by omega) (by omega) trivial).mono ?_
            rintro e w2 ⟨f, V, cap, A2, n2, c2, rfl, hg2, hcnt2, hints2, hnc2, hcm2, hl2, hb2⟩
            have hsz2 : wr.heap.size ≤ w2.heap.size := hb2.size
            have hown2 := hown.kept (only_of_below hb2 none) (fun x hx => by cases hx)
            have hbel2 : Below w.heap.size w w2 := hbel.trans (hb2.mono (by omega))
            have hks := Lies.keep (S' := fun b => w.heap.size ≤ b ∧ b < (w2.alloc (.cells #[.string ByteArray.empty, .bool true, .slice V f.len cap] 86)).heap.size ∧ u6.ownBlock ≠ some b) (w' := w2.alloc (.cells #[.string ByteArray.empty, .bool true, .slice V f.len cap] 86)) (fun b hb => ⟨by have := hb.1; omega, by have := hb.2; simp; omega, fun e => by have h1 := hlt6 b e; have := hb.1; omega⟩) (fun b o hb => World.cell?_alloc_lt _ _ _ hb.2) f V 0 f.len hl2
            obtain ⟨cells, hrow, hels⟩ := hown2.alloc (.cells #[.string ByteArray.empty, .bool true, .slice V f.len cap] 86)
            have hbel3 := hbel2.alloc (by omega) (.cells #[.string ByteArray.empty, .bool true, .slice V f.len cap] 86)
            have hbase5 : w.heap.size ≤ (w2.alloc (.cells #[.string ByteArray.empty, .bool true, .slice V f.len cap] 86)).heap.size := by simp; omega
            have hgood3 : Hid (∀ δ : Int, 0 ≤ δ → δ + d ≤ 40 → Good (acc.app (.cons ByteArray.empty true f .nil)) δ) := fun δ h1 h2 => good_app (HG.out δ h1 h2) (Good.mk (by omega) (fun _ => rfl) (hg2 (δ + 1) (by omega) (by omega)) (fun _ => rfl) (fun h => by cases h))
            have hints5 : IntsAt (w2.alloc (.cells #[.string ByteArray.empty, .bool true, .slice V f.len cap] 86)) B A2 n2 := hints2.alloc (by omega) _
            have HH := Lib.hid (And.intro hrow (And.intro hels (And.intro hks (And.intro hbel3 (And.intro hlt6 hints5)))))
            clear hrow hels hks hbel3 hlt6 hints5 hints2 hl2 hb2 hown2 hbel2 hg2 hints hown hbel HINTS
            go_wp2_with (at_builtin; go_loud (refine wpList_append_lies _ rfl (.tmp 43) (.tmp 46) 22 rfl w.heap.size 86 i0 _ 3 48 Try.underlying22 HI.out.1 HI.out.2.1 HI.out.2.2.1 HI.out.2.2.2 rfl (by omega) u6 acc.len cells rfl HH.out.1 ⟨w2.heap.size, 0, none⟩ 1 1 [.string ByteArray.empty, .bool true, .slice V f.len cap] rfl rfl (World.news_of_block (cs := #[.string ByteArray.empty, .bool true, .slice V f.len cap]) (t := 86) (fr := (0, 0)) (heap_alloc_new w2 _)) (by simp [Value.oneCell']) (by omega) (by unfold maxLen; omega) (by omega) hbase5 (w2.heap.size + 1) (by simp) ?_); intro gg cp w5 hown5 hgrow hat hlt3)
            obtain ⟨hrow, hels, hks, hbel3, hlt6, hints5⟩ := HH.out
            have hpush := OwnFo.push (acc := acc) hels (by decide) hks hown5 hgrow (by simpa using hat)
            have hbel5 := below_then hbel3 hgrow hbase5 (fun x hx => (hlt6 x hx).1)
            have hints6 : IntsAt w5 B A2 n2 := hints5.grown hgrow (by simp; omega) (fun x hx => by have := (hlt6 x hx).1; omega)
            go_roundg n2
            case measure => have := HGK.out; omega
            case rel => exact ⟨_, _, _, _, rfl, rfl, by omega, by omega, by rw [Fo.cnt_app]; simp [Fo.cnt]; omega, hgood3, hints6, hbel5, hpush⟩
        · have hcb : ¬ c' = 1 := hc1
          clear hc1
          have hints : ∀ W' : World, (∀ q o, q < B → W'.cell? ⟨q, o, none⟩ = wr.cell? ⟨q, o, none⟩) → IntsAt W' B (some ⟨b, off + 1, none⟩) (m - 1) := fun W hW i hi => by
            obtain ⟨b', off', x', e1, e2, e3⟩ := hin (i + 1) (by omega)
            injection e1 with e1
            injection e1 with e4 e5
            subst e4 e5
            exact ⟨b, off + 1, x', rfl, e2, by rw [hW _ _ e2, ← e3, show off + 1 + i = off + (i + 1) from by omega]⟩
          rcases (by omega : p = 0 ∨ p = 3 ∨ p = 4 ∨ (p = 1 ∧ d = 0) ∨ (p = 2 ∧ d = 0) ∨ (1 ≤ p ∧ p ≤ 2 ∧ ¬ d = 0)) with rfl | rfl | rfl | ⟨rfl, hdz⟩ | ⟨rfl, hdz⟩ | ⟨hpa, hpb, hdn⟩
          · obtain ⟨V, cap, rfl, hl⟩ := hown.lies
            go_wp2_with fail
            refine (HPK.out _).mono ?_
            rintro e w' ⟨rfl, rfl⟩
            go_wp2_with fail
            go_ret2
            exact ⟨acc, V, cap, _, _, _, rfl, HG.out, by omega, hints _ (fun _ _ _ => rfl), by omega, by omega, hl, hbel⟩
          · skip
            go_wp2_with fail
            refine (HPK.out _).mono ?_
            rintro e w' ⟨rfl, rfl⟩
            have hlt6 := hown.lt
            have hnews : ∀ (q : Nat) (u : Value), ([.string ⟨#[43]⟩, .bool false, .slice none 0 0] : List Value)[q]? = some u → ((wr.alloc (.cells #[.string ⟨#[97]⟩, .string ⟨#[45, 51, 47, 50]⟩, .string ⟨#[120, 95, 49]⟩, .string ⟨#[43]⟩, .string ⟨#[39, 34]⟩] 9)).alloc (.cells #[.string ⟨#[43]⟩, .bool false, .slice none 0 0] 86)).cell? ((⟨wr.heap.size + 1, 0, none⟩ : Addr).add q) = some u := by
              have := World.news_of_block (cs := #[.string ⟨#[43]⟩, .bool false, .slice none 0 0]) (t := 86) (fr := (0, 0)) (heap_alloc_new (wr.alloc (.cells #[.string ⟨#[97]⟩, .string ⟨#[45, 51, 47, 50]⟩, .string ⟨#[120, 95, 49]⟩, .string ⟨#[43]⟩, .string ⟨#[39, 34]⟩] 9)) (.cells #[.string ⟨#[43]⟩, .bool false, .slice none 0 0] 86))
              rw [World.size_alloc] at this
              exact this
            obtain ⟨cells, hrow, hels⟩ := (hown.alloc (.cells #[.string ⟨#[97]⟩, .string ⟨#[45, 51, 47, 50]⟩, .string ⟨#[120, 95, 49]⟩, .string ⟨#[43]⟩, .string ⟨#[39, 34]⟩] 9)).alloc (.cells #[.string ⟨#[43]⟩, .bool false, .slice none 0 0] 86)
            have hbel3 := (hbel.alloc hz (.cells #[.string ⟨#[97]⟩, .string ⟨#[45, 51, 47, 50]⟩, .string ⟨#[120, 95, 49]⟩, .string ⟨#[43]⟩, .string ⟨#[39, 34]⟩] 9)).alloc (by simp; omega) (.cells #[.string ⟨#[43]⟩, .bool false, .slice none 0 0] 86)
            have hbase5 : w.heap.size ≤ ((wr.alloc (.cells #[.string ⟨#[97]⟩, .string ⟨#[45, 51, 47, 50]⟩, .string ⟨#[120, 95, 49]⟩, .string ⟨#[43]⟩, .string ⟨#[39, 34]⟩] 9)).alloc (.cells #[.string ⟨#[43]⟩, .bool false, .slice none 0 0] 86)).heap.size := by simp; omega
            have hgood3 : Hid (∀ δ : Int, 0 ≤ δ → δ + d ≤ 40 → Good (acc.app (.cons ⟨#[43]⟩ false .nil .nil)) δ) := fun δ h1 h2 => good_app (HG.out δ h1 h2) (Good.mk (by omega) (fun _ => rfl) (fun _ => rfl) (fun h => by cases h) (fun _ => ⟨rfl, by decide⟩))
            have HH := Lib.hid (And.intro hrow (And.intro hels (And.intro hbel3 hlt6)))
            clear hrow hels hbel3 hlt6 hown hbel
            go_wp2_with (at_builtin; go_loud (refine wpList_append_lies _ rfl (.tmp 28) (.tmp 34) 22 rfl w.heap.size 86 i0 _ 3 48 Try.underlying22 HI.out.1 HI.out.2.1 HI.out.2.2.1 HI.out.2.2.2 rfl (by omega) u6 acc.len cells rfl HH.out.1 ⟨wr.heap.size + 1, 0, none⟩ 1 1 [.string ⟨#[43]⟩, .bool false, .slice none 0 0] rfl rfl hnews (by simp [Value.oneCell']) (by omega) (by unfold maxLen; omega) (by omega) hbase5 (wr.heap.size + 2) (by simp) ?_); intro gg cp w5 hown5 hgrow hat hlt3)
            obtain ⟨hrow, hels, hbel3, hlt6⟩ := HH.out
            have hpush := OwnFo.push (acc := acc) (ks := .nil) hels (by decide) rfl hown5 hgrow (by simpa using hat)
            have hbel5 := below_then hbel3 hgrow hbase5 (fun x hx => (hlt6 x hx).1)
            go_roundg (m - 1)
            case measure => have := HGK.out; omega
            case rel => exact ⟨_, _, _, _, rfl, rfl, by omega, by omega, by rw [Fo.cnt_app]; simp [Fo.cnt]; omega, hgood3, hints _ (fun q o hq => by rw [only_cell hgrow (by simp; omega) (fun e => by have := (hlt6 q e).1; omega), World.cell?_alloc_lt _ _ _ (by simp; omega), World.cell?_alloc_lt _ _ _ (by simp; omega)]), hbel5, hpush⟩
          · skip
            go_wp2_with fail
            refine (HPK.out _).mono ?_
            rintro e w' ⟨rfl, rfl⟩
            have hlt6 := hown.lt
            have hnews : ∀ (q : Nat) (u : Value), ([.string ⟨#[39, 34]⟩, .bool false, .slice none 0 0] : List Value)[q]? = some u → ((wr.alloc (.cells #[.string ⟨#[97]⟩, .string ⟨#[45, 51, 47, 50]⟩, .string ⟨#[120, 95, 49]⟩, .string ⟨#[43]⟩, .string ⟨#[39, 34]⟩] 9)).alloc (.cells #[.string ⟨#[39, 34]⟩, .bool false, .slice none 0 0] 86)).cell? ((⟨wr.heap.size + 1, 0, none⟩ : Addr).add q) = some u := by
              have := World.news_of_block (cs := #[.string ⟨#[39, 34]⟩, .bool false, .slice none 0 0]) (t := 86) (fr := (0, 0)) (heap_alloc_new (wr.alloc (.cells #[.string ⟨#[97]⟩, .string ⟨#[45, 51, 47, 50]⟩, .string ⟨#[120, 95, 49]⟩, .string ⟨#[43]⟩, .string ⟨#[39, 34]⟩] 9)) (.cells #[.string ⟨#[39, 34]⟩, .bool false, .slice none 0 0] 86))
              rw [World.size_alloc] at this
              exact this
            obtain ⟨cells, hrow, hels⟩ := (hown.alloc (.cells #[.string ⟨#[97]⟩, .string ⟨#[45, 51, 47, 50]⟩, .string ⟨#[120, 95, 49]⟩, .string ⟨#[43]⟩, .string ⟨#[39, 34]⟩] 9)).alloc (.cells #[.string ⟨#[39, 34]⟩, .bool false, .slice none 0 0] 86)
            have hbel3 := (hbel.alloc hz (.cells #[.string ⟨#[97]⟩, .string ⟨#[45, 51, 47, 50]⟩, .string ⟨#[120, 95, 49]⟩, .string ⟨#[43]⟩, .string ⟨#[39, 34]⟩] 9)).alloc (by simp; omega) (.cells #[.string ⟨#[39, 34]⟩, .bool false, .slice none 0 0] 86)
            have hbase5 : w.heap.size ≤ ((wr.alloc (.cells #[.string ⟨#[97]⟩, .string ⟨#[45, 51, 47, 50]⟩, .string ⟨#[120, 95, 49]⟩, .string ⟨#[43]⟩, .string ⟨#[39, 34]⟩] 9)).alloc (.cells #[.string ⟨#[39, 34]⟩, .bool false, .slice none 0 0] 86)).heap.size := by simp; omega
            have hgood3 : Hid (∀ δ : Int, 0 ≤ δ → δ + d ≤ 40 → Good (acc.app (.cons ⟨#[39, 34]⟩ false .nil .nil)) δ) := fun δ h1 h2 => good_app (HG.out δ h1 h2) (Good.mk (by omega) (fun _ => rfl) (fun _ => rfl) (fun h => by cases h) (fun _ => ⟨rfl, by decide⟩))
            have HH := Lib.hid (And.intro hrow (And.intro hels (And.intro hbel3 hlt6)))
            clear hrow hels hbel3 hlt6 hown hbel
            go_wp2_with (at_builtin; go_loud (refine wpList_append_lies _ rfl (.tmp 28) (.tmp 34) 22 rfl w.heap.size 86 i0 _ 3 48 Try.underlying22 HI.out.1 HI.out.2.1 HI.out.2.2.1 HI.out.2.2.2 rfl (by omega) u6 acc.len cells rfl HH.out.1 ⟨wr.heap.size + 1, 0, none⟩ 1 1 [.string ⟨#[39, 34]⟩, .bool false, .slice none 0 0] rfl rfl hnews (by simp [Value.oneCell']) (by omega) (by unfold maxLen; omega) (by omega) hbase5 (wr.heap.size + 2) (by simp) ?_); intro gg cp w5 hown5 hgrow hat hlt3)
            obtain ⟨hrow, hels, hbel3, hlt6⟩ := HH.out
            have hpush := OwnFo.push (acc := acc) (ks := .nil) hels (by decide) rfl hown5 hgrow (by simpa using hat)
            have hbel5 := below_then hbel3 hgrow hbase5 (fun x hx => (hlt6 x hx).1)
            go_roundg (m - 1)
            case measure => have := HGK.out; omega
            case rel => exact ⟨_, _, _, _, rfl, rfl, by omega, by omega, by rw [Fo.cnt_app]; simp [Fo.cnt]; omega, hgood3, hints _ (fun q o hq => by rw [only_cell hgrow (by simp; omega) (fun e => by have := (hlt6 q e).1; omega), World.cell?_alloc_lt _ _ _ (by simp; omega), World.cell?_alloc_lt _ _ _ (by simp; omega)]), hbel5, hpush⟩
          · have qd : (d == 0) = true := by rw [beq_iff_eq]; exact hdz
            have HDZ := Lib.hid hdz
            clear hdz
            go_wp2_with fail
            refine (HPK.out _).mono ?_
            rintro e w' ⟨rfl, rfl⟩
            have hlt6 := hown.lt
            have hnews : ∀ (q : Nat) (u : Value), ([.string ⟨#[45, 51, 47, 50]⟩, .bool false, .slice none 0 0] : List Value)[q]? = some u → ((wr.alloc (.cells #[.string ⟨#[97]⟩, .string ⟨#[45, 51, 47, 50]⟩, .string ⟨#[120, 95, 49]⟩, .string ⟨#[43]⟩, .string ⟨#[39, 34]⟩] 9)).alloc (.cells #[.string ⟨#[45, 51, 47, 50]⟩, .bool false, .slice none 0 0] 86)).cell? ((⟨wr.heap.size + 1, 0, none⟩ : Addr).add q) = some u := by
              have := World.news_of_block (cs := #[.string ⟨#[45, 51, 47, 50]⟩, .bool false, .slice none 0 0]) (t := 86) (fr := (0, 0)) (heap_alloc_new (wr.alloc (.cells #[.string ⟨#[97]⟩, .string ⟨#[45, 51, 47, 50]⟩, .string ⟨#[120, 95, 49]⟩, .string ⟨#[43]⟩, .string ⟨#[39, 34]⟩] 9)) (.cells #[.string ⟨#[45, 51, 47, 50]⟩, .bool false, .slice none 0 0] 86))
              rw [World.size_alloc] at this
              exact this
            obtain ⟨cells, hrow, hels⟩ := (hown.alloc (.cells #[.string ⟨#[97]⟩, .string ⟨#[45, 51, 47, 50]⟩, .string ⟨#[120, 95, 49]⟩, .string ⟨#[43]⟩, .string ⟨#[39, 34]⟩] 9)).alloc (.cells #[.string ⟨#[45, 51, 47, 50]⟩, .bool false, .slice none 0 0] 86)
            have hbel3 := (hbel.alloc hz (.cells #[.string ⟨#[97]⟩, .string ⟨#[45, 51, 47, 50]⟩, .string ⟨#[120, 95, 49]⟩, .string ⟨#[43]⟩, .string ⟨#[39, 34]⟩] 9)).alloc (by simp; omega) (.cells #[.string ⟨#[45, 51, 47, 50]⟩, .bool false, .slice none 0 0] 86)
            have hbase5 : w.heap.size ≤ ((wr.alloc (.cells #[.string ⟨#[97]⟩, .string ⟨#[45, 51, 47, 50]⟩, .string ⟨#[120, 95, 49]⟩, .string ⟨#[43]⟩, .string ⟨#[39, 34]⟩] 9)).alloc (.cells #[.string ⟨#[45, 51, 47, 50]⟩, .bool false, .slice none 0 0] 86)).heap.size := by simp; omega
            have hgood3 : Hid (∀ δ : Int, 0 ≤ δ → δ + d ≤ 40 → Good (acc.app (.cons ⟨#[45, 51, 47, 50]⟩ false .nil .nil)) δ) := fun δ h1 h2 => good_app (HG.out δ h1 h2) (Good.mk (by omega) (fun _ => rfl) (fun _ => rfl) (fun h => by cases h) (fun _ => ⟨rfl, by decide⟩))
            have HH := Lib.hid (And.intro hrow (And.intro hels (And.intro hbel3 hlt6)))
            clear hrow hels hbel3 hlt6 hown hbel
            go_wp2_with (at_builtin; go_loud (refine wpList_append_lies _ rfl (.tmp 28) (.tmp 34) 22 rfl w.heap.size 86 i0 _ 3 48 Try.underlying22 HI.out.1 HI.out.2.1 HI.out.2.2.1 HI.out.2.2.2 rfl (by omega) u6 acc.len cells rfl HH.out.1 ⟨wr.heap.size + 1, 0, none⟩ 1 1 [.string ⟨#[45, 51, 47, 50]⟩, .bool false, .slice none 0 0] rfl rfl hnews (by simp [Value.oneCell']) (by omega) (by unfold maxLen; omega) (by omega) hbase5 (wr.heap.size + 2) (by simp) ?_); intro gg cp w5 hown5 hgrow hat hlt3)
            obtain ⟨hrow, hels, hbel3, hlt6⟩ := HH.out
            have hpush := OwnFo.push (acc := acc) (ks := .nil) hels (by decide) rfl hown5 hgrow (by simpa using hat)
            have hbel5 := below_then hbel3 hgrow hbase5 (fun x hx => (hlt6 x hx).1)
            go_roundg (m - 1)
            case measure => have := HGK.out; omega
            case rel => exact ⟨_, _, _, _, rfl, rfl, by omega, by omega, by rw [Fo.cnt_app]; simp [Fo.cnt]; omega, hgood3, hints _ (fun q o hq => by rw [only_cell hgrow (by simp; omega) (fun e => by have := (hlt6 q e).1; omega), World.cell?_alloc_lt _ _ _ (by simp; omega), World.cell?_alloc_lt _ _ _ (by simp; omega)]), hbel5, hpush⟩
          · have qd : (d == 0) = true := by rw [beq_iff_eq]; exact hdz
            have HDZ := Lib.hid hdz
            clear hdz
            go_wp2_with fail
            refine (HPK.out _).mono ?_
            rintro e w' ⟨rfl, rfl⟩
            have hlt6 := hown.lt
            have hnews : ∀ (q : Nat) (u : Value), ([.string ⟨#[120, 95, 49]⟩, .bool false, .slice none 0 0] : List Value)[q]? = some u → ((wr.alloc (.cells #[.string ⟨#[97]⟩, .string ⟨#[45, 51, 47, 50]⟩, .string ⟨#[120, 95, 49]⟩, .string ⟨#[43]⟩, .string ⟨#[39, 34]⟩] 9)).alloc (.cells #[.string ⟨#[120, 95, 49]⟩, .bool false, .slice none 0 0] 86)).cell? ((⟨wr.heap.size + 1, 0, none⟩ : Addr).add q) = some u := by
              have := World.news_of_block (cs := #[.string ⟨#[120, 95, 49]⟩, .bool false, .slice none 0 0]) (t := 86) (fr := (0, 0)) (heap_alloc_new (wr.alloc (.cells #[.string ⟨#[97]⟩, .string ⟨#[45, 51, 47, 50]⟩, .string ⟨#[120, 95, 49]⟩, .string ⟨#[43]⟩, .string ⟨#[39, 34]⟩] 9)) (.cells #[.string ⟨#[120, 95, 49]⟩, .bool false, .slice none 0 0] 86))
              rw [World.size_alloc] at this
              exact this
            obtain ⟨cells, hrow, hels⟩ := (hown.alloc (.cells #[.string ⟨#[97]⟩, .string ⟨#[45, 51, 47, 50]⟩, .string ⟨#[120, 95, 49]⟩, .string ⟨#[43]⟩, .string ⟨#[39, 34]⟩] 9)).alloc (.cells #[.string ⟨#[120, 95, 49]⟩, .bool false, .slice none 0 0] 86)
            have hbel3 := (hbel.alloc hz (.cells #[.string ⟨#[97]⟩, .string ⟨#[45, 51, 47, 50]⟩, .string ⟨#[120, 95, 49]⟩, .string ⟨#[43]⟩, .string ⟨#[39, 34]⟩] 9)).alloc (by simp; omega) (.cells #[.string ⟨#[120, 95, 49]⟩, .bool false, .slice none 0 0] 86)
            have hbase5 : w.heap.size ≤ ((wr.alloc (.cells #[.string ⟨#[97]⟩, .string ⟨#[45, 51, 47, 50]⟩, .string ⟨#[120, 95, 49]⟩, .string ⟨#[43]⟩, .string ⟨#[39, 34]⟩] 9)).alloc (.cells #[.string ⟨#[120, 95, 49]⟩, .bool false, .slice none 0 0] 86)).heap.size := by simp; omega
            have hgood3 : Hid (∀ δ : Int, 0 ≤ δ → δ + d ≤ 40 → Good (acc.app (.cons ⟨#[120, 95, 49]⟩ false .nil .nil)) δ) := fun δ h1 h2 => good_app (HG.out δ h1 h2) (Good.mk (by omega) (fun _ => rfl) (fun _ => rfl) (fun h => by cases h) (fun _ => ⟨rfl, by decide⟩))
            have HH := Lib.hid (And.intro hrow (And.intro hels (And.intro hbel3 hlt6)))
            clear hrow hels hbel3 hlt6 hown hbel
            go_wp2_with (at_builtin; go_loud (refine wpList_append_lies _ rfl (.tmp 28) (.tmp 34) 22 rfl w.heap.size 86 i0 _ 3 48 Try.underlying22 HI.out.1 HI.out.2.1 HI.out.2.2.1 HI.out.2.2.2 rfl (by omega) u6 acc.len cells rfl HH.out.1 ⟨wr.heap.size + 1, 0, none⟩ 1 1 [.string ⟨#[120, 95, 49]⟩, .bool false, .slice none 0 0] rfl rfl hnews (by simp [Value.oneCell']) (by omega) (by unfold maxLen; omega) (by omega) hbase5 (wr.heap.size + 2) (by simp) ?_); intro gg cp w5 hown5 hgrow hat hlt3)
            obtain ⟨hrow, hels, hbel3, hlt6⟩ := HH.out
            have hpush := OwnFo.push (acc := acc) (ks := .nil) hels (by decide) rfl hown5 hgrow (by simpa using hat)
            have hbel5 := below_then hbel3 hgrow hbase5 (fun x hx => (hlt6 x hx).1)
            go_roundg (m - 1)
            case measure => have := HGK.out; omega
            case rel => exact ⟨_, _, _, _, rfl, rfl, by omega, by omega, by rw [Fo.cnt_app]; simp [Fo.cnt]; omega, hgood3, hints _ (fun q o hq => by rw [only_cell hgrow (by simp; omega) (fun e => by have := (hlt6 q e).1; omega), World.cell?_alloc_lt _ _ _ (by simp; omega), World.cell?_alloc_lt _ _ _ (by simp; omega)]), hbel5, hpush⟩
          · have q0 : (p == 0) = false := by rw [beq_eq_false_iff_ne]; omega
            have q1 : (d == 0) = false := by rw [beq_eq_false_iff_ne]; omega
            have q2 : decide (2 < p) = false := by simp; omega
            go_wp2_with fail
            refine (HPK.out _).mono ?_
            rintro e w' ⟨rfl, rfl⟩
            have hlt6 := hown.lt
            have HINTS := Lib.hid (And.intro hints (And.intro hown (And.intro hbel hlt6)))
            clear hints hown hbel hlt6
            go_wp2_with fail
            obtain ⟨hints, hown, hbel, hlt6⟩ := HINTS.out
            refine (IH.out (some ⟨b, off + 1, none⟩) (m - 1) (c' - 1) (d - 1) B wr (by have := HGK.out; omega) (by omega) (hints _ (fun _ _ _ => rfl)) (by omega) hBz (by omega) (by omega) (by omega) trivial).mono ?_
            rintro e w2 ⟨f, V, cap, A2, n2, c2, rfl, hg2, hcnt2, hints2, hnc2, hcm2, hl2, hb2⟩
            have hsz2 : wr.heap.size ≤ w2.heap.size := hb2.size
            have hown2 := hown.kept (only_of_below hb2 none) (fun x hx => by cases hx)
            have hbel2 : Below w.heap.size w w2 := hbel.trans (hb2.mono (by omega))
            have hks := Lies.keep (S' := fun b => w.heap.size ≤ b ∧ b < (w2.alloc (.cells #[.string ByteArray.empty, .bool true, .slice V f.len cap] 86)).heap.size ∧ u6.ownBlock ≠ some b) (w' := w2.alloc (.cells #[.string ByteArray.empty, .bool true, .slice V f.len cap] 86)) (fun b hb => ⟨by have := hb.1; omega, by have := hb.2; simp; omega, fun e => by have h1 := hlt6 b e; have := hb.1; omega⟩) (fun b o hb => World.cell?_alloc_lt _ _ _ hb.2) f V 0 f.len hl2
            obtain ⟨cells, hrow, hels⟩ := hown2.alloc (.cells #[.string ByteArray.empty, .bool true, .slice V f.len cap] 86)
            have hbel3 := hbel2.alloc (by omega) (.cells #[.string ByteArray.empty, .bool true, .slice V f.len cap] 86)
            have hbase5 : w.heap.size ≤ (w2.alloc (.cells #[.string ByteArray.empty, .bool true, .slice V f.len cap] 86)).heap.size := by simp; omega
            have hgood3 : Hid (∀ δ : Int, 0 ≤ δ → δ + d ≤ 40 → Good (acc.app (.cons ByteArray.empty true f .nil)) δ) := fun δ h1 h2 => good_app (HG.out δ h1 h2) (Good.mk (by omega) (fun _ => rfl) (hg2 (δ + 1) (by omega) (by omega)) (fun _ => rfl) (fun h => by cases h))
            have hints5 : IntsAt (w2.alloc (.cells #[.string ByteArray.empty, .bool true, .slice V f.len cap] 86)) B A2 n2 := hints2.alloc (by omega) _
            have HH := Lib.hid (And.intro hrow (And.intro hels (And.intro hks (And.intro hbel3 (And.intro hlt6 hints5)))))
            clear hrow hels hks hbel3 hlt6 hints5 hints2 hl2 hb2 hown2 hbel2 hg2 hints hown hbel HINTS
            go_wp2_with (at_builtin; go_loud (refine wpList_append_lies _ rfl (.tmp 43) (.tmp 46) 22 rfl w.heap.size 86 i0 _ 3 48 Try.underlying22 HI.out.1 HI.out.2.1 HI.out.2.2.1 HI.out.2.2.2 rfl (by omega) u6 acc.len cells rfl HH.out.1 ⟨w2.heap.size, 0, none⟩ 1 1 [.string ByteArray.empty, .bool true, .slice V f.len cap] rfl rfl (World.news_of_block (cs := #[.string ByteArray.empty, .bool true, .slice V f.len cap]) (t := 86) (fr := (0, 0)) (heap_alloc_new w2 _)) (by simp [Value.oneCell']) (by omega) (by unfold maxLen; omega) (by omega) hbase5 (w2.heap.size + 1) (by simp) ?_); intro gg cp w5 hown5 hgrow hat hlt3)
            obtain ⟨hrow, hels, hks, hbel3, hlt6, hints5⟩ := HH.out
            have hpush := OwnFo.push (acc := acc) hels (by decide) hks hown5 hgrow (by simpa using hat)
            have hbel5 := below_then hbel3 hgrow hbase5 (fun x hx => (hlt6 x hx).1)
            have hints6 : IntsAt w5 B A2 n2 := hints5.grown hgrow (by simp; omega) (fun x hx => by have := (hlt6 x hx).1; omega)
            go_roundg n2
            case measure => have := HGK.out; omega
            case rel => exact ⟨_, _, _, _, rfl, rfl, by omega, by omega, by rw [Fo.cnt_app]; simp [Fo.cnt]; omega, hgood3, hints6, hbel5, hpush⟩
      · obtain rfl : m = 0 := by omega
        obtain ⟨V, cap, rfl, hl⟩ := hown.lies
        go_wp2_with fail
        go_ret2
        exact ⟨acc, V, cap, _, _, _, rfl, HG.out, by omega, hin, by omega, by omega, hl, hbel⟩
end Go.Proofs.Ytllgindmcjemeaa
