/- Walk: the reference's joining of lists of clauses; further laws for appends as steps. -/
import Derived.Test.YtpceiifacendfaaConcat
import Derived.Test.YtpceiifacendfaaCore
import Derived.Test.YtpceiifacendfaaOwnS
namespace Go.Proofs.Ytpceiifacendfaa
open Go.RowKit

set_option maxHeartbeats 2000000 in
set_option maxRecDepth 100000 in
theorem joined_any (A : Option Addr) (n c : Nat) (xs : List (List (List Int))) (S : Nat → Prop) (w : World) (hSl : ∀ b, S b → b < w.heap.size) (hxs : Arr (AtArr (AtArr AtInt 1) 1) 1 w S A n xs) (hn : n ≤ 1000) (hT : sumLen xs ≤ 100000) :
    Calls Try.prog 44 #[.slice A n c] w (ConcatP S w xs.flatten) := by
  have HXS := Lib.hid hxs
  have HSL := Lib.hid hSl
  have HT := Lib.hid hT
  have hl := hxs.len
  have HL := Lib.hid hl
  clear hxs hT hl hSl
  go_enter Try.func44, Try.ntmps44
  go_wp2_with fail
  go_loopw [3, 4] (fun v s wr => ∃ j : Nat, j ≤ n ∧ s = .int .i64 j ∧ OwnRows wr w.heap.size S v (xs.take j).flatten ∧ Below w.heap.size w wr) (fun _ s _ => n - (intOf s).toNat)
  case atStart => exact ⟨0, Nat.zero_le _, rfl, by simpa using OwnV.none_ _ _ _ _ _ _, Below.refl _ _⟩
  case round =>
    obtain ⟨j, hj, rfl, hown, hbel⟩ := hrel
    have hzz : w.heap.size ≤ wr.heap.size := hbel.size
    by_cases hlt2 : j < n
    · obtain ⟨b, off, hx, A', n', c', rfl, hb, hcell, hnc, hcm, har⟩ := rowss_get (HXS.out.keep (stays_arr (stays_arr stays_int)) (fun _ h => h) (fun b o hb => hbel.cell (p := ⟨b, o, none⟩) (HSL.out b hb))) hlt2
      have hsum : (xs.take j).flatten.length + n' ≤ 100000 := by
        have h1 : (xs.take (j + 1)).flatten.length ≤ sumLen xs := by
          rw [sumLen_flat]
          conv => rhs; rw [← List.take_append_drop (j + 1) xs, List.flatten_append]
          simp
        rw [take_snoc_l hx, List.flatten_append, List.length_append] at h1
        simp only [List.flatten_cons, List.flatten_nil, List.append_nil] at h1
        rw [har.len] at h1
        have := HT.out
        omega
      have hlt3 := hown.lt
      obtain ⟨y, hy⟩ : ∃ y, xs[j] = y := ⟨_, rfl⟩
      have HX : Hid (xs.take (j + 1) = xs.take j ++ [y]) := by show _ = _; rw [take_snoc_l hx, hy]
      rw [hy] at har
      have HO := Lib.hid hown
      have HAR := Lib.hid har
      have HLT := Lib.hid hlt3
      have HSUM := Lib.hid hsum
      have HB := Lib.hid hbel
      clear hown har hlt3 hy hx hsum hbel
      go_wp2_with (at_builtin; refine wpList_append_many rfl _ _ _ rfl rowRows tells_row' (base := w.heap.size) (S := S) rfl HO.out (E := AtArr AtInt 1) (fun _ _ _ _ _ h => atV_arr.2 h) (A := A') (m := n') (c := c') rfl HAR.out (fun b hb => ⟨by have := HSL.out b hb; omega, fun e => by have := HLT.out b e; have := HSL.out b hb; omega⟩) (by have := HSUM.out; unfold maxLen; omega) (by have := HSUM.out; omega) hzz ?_; intro v' w1 hown' hgrow hat)
      go_roundw
      case rel =>
        refine ⟨j + 1, by omega, by go_num, ?_, below_then HB.out hgrow hzz (fun x hx => by have := HLT.out x hx; omega)⟩
        rw [HX.out, List.flatten_append]
        simpa using hown'
      case measure => simp [intOf]; omega
    · obtain rfl : j = n := by omega
      have H1 := Lib.hid (show OwnRows wr w.heap.size S u3 xs.flatten by rwa [List.take_of_length_le (by have := HL.out; omega)] at hown)
      clear hown
      go_wp2_with fail
      go_ret
      exact ⟨_, rfl, H1.out, hbel⟩

section
variable {α : Type} {V : Val α} {sz : Nat} {w : World} {S : Nat → Prop} {e base : Nat} {v : Value} {xs : List α}
theorem step_append_many {P : Program} {ops : Array Oper} {o : Oper} {a : Act} {K : Act → World → Prop} {Q : Exit → Act → World → Prop} {E0 : Prop} (hgd : o.guard = none) (s x : Operand) (t : TypeId)
    (ho : o.op = .call { callee := .builtin .append, args := #[s, x], argTypes := #[t, t] }) {bytes : Nat} (T : RowT P t e sz bytes) (hV : Tells V sz)
    (hs : a.eval s = v) (hown : OwnV V e sz w base S v xs) {E : Ent α} (hE : ∀ w S b o x, E w S b o x → AtV V w S b o x) {A : Option Addr} {m c : Nat} {ys : List α} (hx : a.eval x = .slice A m c) (hys : Arr E sz w S A m ys)
    (hS : ∀ b, S b → b < w.heap.size ∧ v.ownBlock ≠ some b) (h63 : xs.length + m ≤ maxLen) (hbytes : (xs.length + m) * bytes ≤ 140737488355328) (hbase : base ≤ w.heap.size)
    (h : ∀ v' w', OwnV V e sz w' base S v' (xs ++ ys) → w.grownBy w' v.ownBlock → (v'.ownBlock = v.ownBlock ∨ v'.ownBlock = some w.heap.size) → K (a.put o.dst v') w') :
    if Region.wanted o (yielded ops a.tmps) = true then Oper.wp P o a w K Q else E0 := by
  have hw : Region.wanted o (yielded ops a.tmps) = true := by simp [Region.wanted, hgd]
  rw [if_pos hw]
  obtain ⟨v', w', hr, h2, h3, h5⟩ := run_append_many (P := P) (ty := o.type) (c := c) T hV hown hE hys hS h63 hbytes hbase
  unfold Oper.wp execOp
  simp only [ho, resolve, invoke, builtin, Sem.run_bind, Sem.run_pure, Result.andThen_ok, List.map_toArray, List.map_cons, List.map_nil, hs, hx, hr]
  exact h v' w' h2 h3 h5

end
end Go.Proofs.Ytpceiifacendfaa
