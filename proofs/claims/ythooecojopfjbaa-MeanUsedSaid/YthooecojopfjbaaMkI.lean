/- Walks: the maker's method grow, whatever the kind. -/
import Derived.Test.YthooecojopfjbaaMkG
import Derived.Test.YthooecojopfjbaaMkH
namespace Go.Proofs.Ythooecojopfjbaa
open Go.RowKit

theorem grow_any (a b c : Int) (q : Nat) (vn vs : Value) (ns : List NodeD) (ss : List Int) (w : World) (hI : MkIn w q vn vs (fun b => (Value.slice none 0 0).ownBlock = some b) ns ss) (hM : Mk ns ss) (hn : ns.length ≤ 800) (ha : I64 a) (hb : I64 b) (hc : I64 c) :
    Calls Try.prog 31 #[.pointer (some ⟨q, 0, none⟩), .int .i64 a, .int .i64 b, .int .i64 c, .int .i64 0] w (GrowP w q vn vs ns ss) := by
  have h : a % 22 = 0 ∨ a % 22 = 1 ∨ a % 22 = 2 ∨ a % 22 = 3 ∨ a % 22 = 4 ∨ a % 22 = 5 ∨ a % 22 = 6 ∨ a % 22 = 7 ∨ a % 22 = 8 ∨ a % 22 = 9 ∨ a % 22 = 10 ∨ a % 22 = 11 ∨ a % 22 = 12 ∨ a % 22 = 13 ∨ a % 22 = 14 ∨ a % 22 = 15 ∨ a % 22 = 16 ∨ a % 22 = 17 ∨ a % 22 = 18 ∨ a % 22 = 19 ∨ a % 22 = 20 ∨ a % 22 = 21 := by omega
  rcases h with h | h | h | h | h | h | h | h | h | h | h | h | h | h | h | h | h | h | h | h | h | h
  · exact grow0_any a b c q vn vs ns ss w hI hM hn ha hb hc h
  · exact grow1_any a b c q vn vs ns ss w hI hM hn ha hb hc h
  · exact grow2_any a b c q vn vs ns ss w hI hM hn ha hb hc h
  · exact grow3_any a b c q vn vs ns ss w hI hM hn ha hb hc h
  · exact grow4_any a b c q vn vs ns ss w hI hM hn ha hb hc h
  · exact grow5_any a b c q vn vs ns ss w hI hM hn ha hb hc h
  · exact grow6_any a b c q vn vs ns ss w hI hM hn ha hb hc h
  · exact grow7_any a b c q vn vs ns ss w hI hM hn ha hb hc h
  · exact grow8_any a b c q vn vs ns ss w hI hM hn ha hb hc h
  · exact grow9_any a b c q vn vs ns ss w hI hM hn ha hb hc h
  · exact grow10_any a b c q vn vs ns ss w hI hM hn ha hb hc h
  · exact grow11_any a b c q vn vs ns ss w hI hM hn ha hb hc h
  · exact grow12_any a b c q vn vs ns ss w hI hM hn ha hb hc h
  · exact grow13_any a b c q vn vs ns ss w hI hM hn ha hb hc h
  · exact grow14_any a b c q vn vs ns ss w hI hM hn ha hb hc h
  · exact grow15_any a b c q vn vs ns ss w hI hM hn ha hb hc h
  · exact grow16_any a b c q vn vs ns ss w hI hM hn ha hb hc h
  · exact grow17_any a b c q vn vs ns ss w hI hM hn ha hb hc h
  · exact grow18_any a b c q vn vs ns ss w hI hM hn ha hb hc h
  · exact grow19_any a b c q vn vs ns ss w hI hM hn ha hb hc h
  · exact grow20_any a b c q vn vs ns ss w hI hM hn ha hb hc h
  · exact grow21_any a b c q vn vs ns ss w hI hM hn ha hb hc h
end Go.Proofs.Ythooecojopfjbaa
