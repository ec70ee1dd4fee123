/- Walk: the sort of a node, by its kids' sorts, whatever the operator. -/
import Derived.Test.YtggkfepifnfdoaaAskP5
namespace Go.Proofs.Ytggkfepifnfdoaa
open Go.RowKit

theorem sort_any (op : Int) (n d : Int) (nm : ByteArray) (K : Option Addr) (kn kc : Nat) (A : Option Addr) (na c : Nat) (ks : List Int) (dn : ByteArray) (A3 : Option Addr) (n3 c3 : Nat) (ds : Int) (ar : List Int) (w : World) (h1 : 1 ≤ op) (h2 : op ≤ 25) (hks : IntsB w w.heap.size A na ks) (hna : na ≤ 8) (hc : op ≠ 9 → CountOk op ks) (h15 : op = 15 → 1 ≤ d ∧ d ≤ 8) (har : op = 9 → IntsB w w.heap.size A3 n3 ar) (hn3 : n3 ≤ 9223372036854775807) :
    Calls Try.prog 62 #[.agg #[.int .i64 op, .slice K kn kc, .int .i64 n, .int .i64 d, .string nm], .slice A na c, .agg #[.string dn, .slice A3 n3 c3, .int .i64 ds]] w fun e w' => e = .returned (.int .i64 (sortF op d ks ar ds)) ∧ Below w.heap.size w w' := by
  have hl := hks.len
  have h : op = 1 ∨ op = 2 ∨ op = 3 ∨ op = 4 ∨ op = 5 ∨ op = 6 ∨ op = 7 ∨ op = 8 ∨ op = 9 ∨ op = 10 ∨ op = 11 ∨ op = 12 ∨ op = 13 ∨ op = 14 ∨ op = 15 ∨ op = 16 ∨ op = 17 ∨ op = 18 ∨ op = 19 ∨ op = 20 ∨ op = 21 ∨ op = 22 ∨ op = 23 ∨ op = 24 ∨ op = 25 := by omega
  clear h1 h2
  rcases h with rfl | rfl | rfl | rfl | rfl | rfl | rfl | rfl | rfl | rfl | rfl | rfl | rfl | rfl | rfl | rfl | rfl | rfl | rfl | rfl | rfl | rfl | rfl | rfl | rfl
  · have hcc : (ks.length : Int) = 0 := by have := hc (by decide); simpa [CountOk, kidsF] using this
    obtain rfl := len0 hcc
    obtain rfl : 0 = na := hl
    exact sort_1 n d nm K kn kc A c dn A3 n3 c3 ds ar w
  · have hcc : (ks.length : Int) = 0 := by have := hc (by decide); simpa [CountOk, kidsF] using this
    obtain rfl := len0 hcc
    obtain rfl : 0 = na := hl
    exact sort_2 n d nm K kn kc A c dn A3 n3 c3 ds ar w
  · exact sort_3 n d nm K kn kc A na c ks dn A3 n3 c3 ds ar w hks hna
  · exact sort_4 n d nm K kn kc A na c ks dn A3 n3 c3 ds ar w hks hna
  · exact sort_5 n d nm K kn kc A na c ks dn A3 n3 c3 ds ar w hks hna
  · exact sort_6 n d nm K kn kc A na c ks dn A3 n3 c3 ds ar w hks hna
  · have hcc : (ks.length : Int) = 3 := by have := hc (by decide); simpa [CountOk, kidsF] using this
    obtain ⟨a, a2, a3, rfl⟩ := len3 hcc
    obtain rfl : 3 = na := hl
    exact sort_7 a a2 a3 n d nm K kn kc A c dn A3 n3 c3 ds ar w hks
  · have hcc : (ks.length : Int) = 2 := by have := hc (by decide); simpa [CountOk, kidsF] using this
    obtain ⟨a, a2, rfl⟩ := len2 hcc
    obtain rfl : 2 = na := hl
    exact sort_8 a a2 n d nm K kn kc A c dn A3 n3 c3 ds ar w hks
  · exact sort_9 n d nm K kn kc A na c ks dn A3 n3 c3 ds ar w hks hna (har rfl) hn3
  · have hcc : (ks.length : Int) = 0 := by have := hc (by decide); simpa [CountOk, kidsF] using this
    obtain rfl := len0 hcc
    obtain rfl : 0 = na := hl
    exact sort_10 n d nm K kn kc A c dn A3 n3 c3 ds ar w
  · exact sort_11 n d nm K kn kc A na c ks dn A3 n3 c3 ds ar w hks hna
  · have hcc : (ks.length : Int) = 1 := by have := hc (by decide); simpa [CountOk, kidsF] using this
    obtain ⟨a, rfl⟩ := len1 hcc
    obtain rfl : 1 = na := hl
    exact sort_12 a n d nm K kn kc A c dn A3 n3 c3 ds ar w hks
  · exact sort_13 n d nm K kn kc A na c ks dn A3 n3 c3 ds ar w hks hna
  · exact sort_14 n d nm K kn kc A na c ks dn A3 n3 c3 ds ar w hks hna
  · have hcc : (ks.length : Int) = 0 := by have := hc (by decide); simpa [CountOk, kidsF] using this
    obtain rfl := len0 hcc
    obtain rfl : 0 = na := hl
    exact sort_15 n d nm K kn kc A c dn A3 n3 c3 ds ar w (h15 rfl).1 (h15 rfl).2
  · have hcc : (ks.length : Int) = 1 := by have := hc (by decide); simpa [CountOk, kidsF] using this
    obtain ⟨a, rfl⟩ := len1 hcc
    obtain rfl : 1 = na := hl
    exact sort_16 a n d nm K kn kc A c dn A3 n3 c3 ds ar w hks
  · have hcc : (ks.length : Int) = 2 := by have := hc (by decide); simpa [CountOk, kidsF] using this
    obtain ⟨a, a2, rfl⟩ := len2 hcc
    obtain rfl : 2 = na := hl
    exact sort_17 a a2 n d nm K kn kc A c dn A3 n3 c3 ds ar w hks
  · have hcc : (ks.length : Int) = 2 := by have := hc (by decide); simpa [CountOk, kidsF] using this
    obtain ⟨a, a2, rfl⟩ := len2 hcc
    obtain rfl : 2 = na := hl
    exact sort_18 a a2 n d nm K kn kc A c dn A3 n3 c3 ds ar w hks
  · have hcc : (ks.length : Int) = 2 := by have := hc (by decide); simpa [CountOk, kidsF] using this
    obtain ⟨a, a2, rfl⟩ := len2 hcc
    obtain rfl : 2 = na := hl
    exact sort_19 a a2 n d nm K kn kc A c dn A3 n3 c3 ds ar w hks
  · have hcc : (ks.length : Int) = 2 := by have := hc (by decide); simpa [CountOk, kidsF] using this
    obtain ⟨a, a2, rfl⟩ := len2 hcc
    obtain rfl : 2 = na := hl
    exact sort_20 a a2 n d nm K kn kc A c dn A3 n3 c3 ds ar w hks
  · have hcc : (ks.length : Int) = 2 := by have := hc (by decide); simpa [CountOk, kidsF] using this
    obtain ⟨a, a2, rfl⟩ := len2 hcc
    obtain rfl : 2 = na := hl
    exact sort_21 a a2 n d nm K kn kc A c dn A3 n3 c3 ds ar w hks
  · have hcc : (ks.length : Int) = 2 := by have := hc (by decide); simpa [CountOk, kidsF] using this
    obtain ⟨a, a2, rfl⟩ := len2 hcc
    obtain rfl : 2 = na := hl
    exact sort_22 a a2 n d nm K kn kc A c dn A3 n3 c3 ds ar w hks
  · have hcc : (ks.length : Int) = 1 := by have := hc (by decide); simpa [CountOk, kidsF] using this
    obtain ⟨a, rfl⟩ := len1 hcc
    obtain rfl : 1 = na := hl
    exact sort_23 a n d nm K kn kc A c dn A3 n3 c3 ds ar w hks
  · have hcc : (ks.length : Int) = 2 := by have := hc (by decide); simpa [CountOk, kidsF] using this
    obtain ⟨a, a2, rfl⟩ := len2 hcc
    obtain rfl : 2 = na := hl
    exact sort_24 a a2 n d nm K kn kc A c dn A3 n3 c3 ds ar w hks
  · have hcc : (ks.length : Int) = 3 := by have := hc (by decide); simpa [CountOk, kidsF] using this
    obtain ⟨a, a2, a3, rfl⟩ := len3 hcc
    obtain rfl : 3 = na := hl
    exact sort_25 a a2 a3 n d nm K kn kc A c dn A3 n3 c3 ds ar w hks
theorem sort_is (op : Int) (n d : Int) (nm : ByteArray) (K : Option Addr) (kn kc : Nat) (A : Option Addr) (na c : Nat) (ks : List Int) (dn : ByteArray) (A3 : Option Addr) (n3 c3 : Nat) (ds : Int) (ar : List Int) (w : World) (R : Int) (hR : sortF op d ks ar ds = R) (h1 : 1 ≤ op) (h2 : op ≤ 25) (hks : IntsB w w.heap.size A na ks) (hna : na ≤ 8) (hc : op ≠ 9 → CountOk op ks) (h15 : op = 15 → 1 ≤ d ∧ d ≤ 8) (har : op = 9 → IntsB w w.heap.size A3 n3 ar) (hn3 : n3 ≤ 9223372036854775807) :
    Calls Try.prog 62 #[.agg #[.int .i64 op, .slice K kn kc, .int .i64 n, .int .i64 d, .string nm], .slice A na c, .agg #[.string dn, .slice A3 n3 c3, .int .i64 ds]] w fun e w' => e = .returned (.int .i64 R) ∧ Below w.heap.size w w' := by
  subst hR; exact sort_any op n d nm K kn kc A na c ks dn A3 n3 c3 ds ar w h1 h2 hks hna hc h15 har hn3
end Go.Proofs.Ytggkfepifnfdoaa
