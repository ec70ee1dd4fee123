/- Walks: may a kid of a sort stand for a letter; the reference's fault of a node's kids. · Walk: the reference's fault of a node's kids. -/
import Derived.Test.YthooecojopfjbaaAskLM
namespace Go.Proofs.Ythooecojopfjbaa
open Go.RowKit

theorem isNumber_is (n : Int) (b : Bool) (h : numS n = b) (w : World) : Calls Try.prog 71 #[.int .i64 n] w fun e w' => e = .returned (.bool b) ∧ w = w' := by subst h; exact isNumber_any n w
set_option maxHeartbeats 1000000 in
theorem fits_any (c s : Int) (w : World) : Calls Try.prog 70 #[.int .u8 c, .int .i64 s] w fun e w' => e = .returned (.bool (fitsF c s)) ∧ w = w' := by
  have hc : c = 98 ∨ c = 110 ∨ c = 116 ∨ c = 97 ∨ c = 119 ∨ ((c == 98) = false ∧ (c == 110) = false ∧ (c == 116) = false ∧ (c == 97) = false ∧ (c == 119) = false) := by
    simp only [beq_eq_false_iff_ne]; omega
  rcases hc with rfl | rfl | rfl | rfl | rfl | ⟨q1, q2, q3, q4, q5⟩
  · go_enter Try.func70, Try.ntmps70
    go_wp2_with fail
    go_ret
    exact ⟨rfl, rfl⟩
  · go_enter Try.func70, Try.ntmps70
    go_wp2_with (go_at_call 71; refine (isNumber_any _ _).mono ?_; rintro e w' ⟨rfl, rfl⟩)
    go_ret
    exact ⟨rfl, rfl⟩
  · go_enter Try.func70, Try.ntmps70
    go_wp2_with fail
    go_ret
    exact ⟨rfl, rfl⟩
  · go_enter Try.func70, Try.ntmps70
    go_wp2_with fail
    go_ret
    exact ⟨rfl, rfl⟩
  · have hw : ∀ b, wordB s = b → ∃ v : Int, wbits s = v ∧ decide (0 < v) = b := fun b hb => by
      subst hb
      refine ⟨_, rfl, ?_⟩
      unfold wbits
      cases h : wordB s
      · simp
      · simp only [wordB, decide_eq_true_eq] at h
        simp only [if_true, decide_eq_true_eq]; omega
    cases h : wordB s
    all_goals
      obtain ⟨v, hv, hv2⟩ := hw _ h
      have HV := Lib.hid hv
      have HF : Hid (fitsF 119 s = wordB s) := by show _ = _; rfl
      have HH := Lib.hid h
      clear hw hv h
      go_enter Try.func70, Try.ntmps70
      go_wp2_with (go_at_call 27; refine (wordBits_is _ _ HV.out _).mono ?_; rintro e w' ⟨rfl, rfl⟩)
      go_ret
      exact ⟨ret_bool (by rw [HF.out, HH.out]), rfl⟩
  · have HF : Hid (fitsF c s = true) := by
      show _ = _
      simp only [beq_eq_false_iff_ne] at q1 q2 q3 q4 q5
      simp [fitsF, q1, q2, q3, q4, q5]
    go_enter Try.func70, Try.ntmps70
    go_wp2_with fail
    go_ret
    exact ⟨ret_bool (by rw [HF.out]), rfl⟩
theorem fits_is (c s : Int) (b : Bool) (h : fitsF c s = b) (w : World) : Calls Try.prog 70 #[.int .u8 c, .int .i64 s] w fun e w' => e = .returned (.bool b) ∧ w = w' := by subst h; exact fits_any c s w
theorem wants_is (op : Int) (W : ByteArray) (h : wantsF op = W) (w : World) (h0 : 1 ≤ op) (h1 : op ≤ 25) : Calls Try.prog 68 #[.int .i64 op] w fun e w' => e = .returned (.string W) ∧ Below w.heap.size w w' := by subst h; exact wants_any op w h0 h1
theorem declOf_is (A : Option Addr) (n c : Nat) (s : ByteArray) (xs : List DeclD) (R : Int) (w : World) (S : Nat → Prop) (hxs : Arr AtDecl 3 w S A n xs) (hn : n ≤ 9223372036854775807) (hR : idx (nameIs s) xs 0 = R) :
    Calls Try.prog 36 #[.slice A n c, .string s] w fun e w' => e = .returned (.int .i64 R) ∧ ∃ n, w' = w.drewN n :=
  (declOf_any A n c s xs R w S hxs hn hR).mono fun _ _ ⟨he, hw⟩ => ⟨he, 0, hw.symm⟩
end Go.Proofs.Ythooecojopfjbaa
namespace Go.Proofs.Ythooecojopfjbaa
open Go.RowKit

def kidsCode (ds : List DeclD) (x : NodeD) (i : Int) : Int := if badCount ds x = true then 9 else if x.kids.any (outside i) = true then 3 else 0
theorem nodes_get {w : World} {B : Nat} {A : Option Addr} {n : Nat} {xs : List NodeD} (h : ArrB AtNode 5 w B A n xs) {i : Nat} (hi : i < n) :
    ∃ (b off : Nat) (hx : i < xs.length) (A' : Option Addr) (n' c' : Nat), A = some ⟨b, off, none⟩ ∧ b < B ∧ w.cell? ⟨b, off + i * 5, none⟩ = some (.int .i64 xs[i].op) ∧ w.cell? ⟨b, off + i * 5 + 1, none⟩ = some (.slice A' n' c') ∧ w.cell? ⟨b, off + i * 5 + 2, none⟩ = some (.int .i64 xs[i].n) ∧
      w.cell? ⟨b, off + i * 5 + 3, none⟩ = some (.int .i64 xs[i].d) ∧ w.cell? ⟨b, off + i * 5 + 4, none⟩ = some (.string xs[i].name) ∧
      n' ≤ c' ∧ c' ≤ maxLen ∧ IntsB w B A' n' xs[i].kids ∧ I64 xs[i].op ∧ I64 xs[i].n ∧ I64 xs[i].d ∧ xs[i].name.size ≤ maxLen := by
  obtain ⟨b, off, hx, e, hb, h0, ⟨A', n', c', hc, h3, h4, h5⟩, h6, h7, h8⟩ := Arr.get h hi
  exact ⟨b, off, hx, A', n', c', e, hb, h0.1, hc, h6.1, h7.1, h8.1, h3, h4, h5, h0.2, h6.2, h7.2, h8.2⟩

theorem byteAt_get {W : ByteArray} {k : Nat} (h : k < W.size) : byteAt W k = (W[k].toNat : Int) := by
  have h2 : k < W.data.toList.length := by simpa using h
  rw [byteAt, List.getD_eq_getElem?_getD, List.getElem?_eq_getElem h2]
  rfl
/-- what an operator wants, by the letters' number: none, so many, or any number -/
theorem wants_kinds (op : Int) (h0 : 1 ≤ op) (h1 : op ≤ 25) : ((wantsF op).size = 0 ∧ kidsF op = 0) ∨ op = 9 ∨
    ((wantsF op).size = 1 ∧ byteAt (wantsF op) 0 ≠ 42 ∧ kidsF op = 1) ∨ ((wantsF op).size = 2 ∧ byteAt (wantsF op) 1 ≠ 42 ∧ kidsF op = 2) ∨ ((wantsF op).size = 3 ∧ byteAt (wantsF op) 2 ≠ 42 ∧ kidsF op = 3) ∨ ((wantsF op).size = 2 ∧ byteAt (wantsF op) 1 = 42 ∧ kidsF op = -1) := by
  have h : op = 1 ∨ op = 2 ∨ op = 3 ∨ op = 4 ∨ op = 5 ∨ op = 6 ∨ op = 7 ∨ op = 8 ∨ op = 9 ∨ op = 10 ∨ op = 11 ∨ op = 12 ∨ op = 13 ∨ op = 14 ∨ op = 15 ∨ op = 16 ∨ op = 17 ∨ op = 18 ∨ op = 19 ∨ op = 20 ∨ op = 21 ∨ op = 22 ∨ op = 23 ∨ op = 24 ∨ op = 25 := by omega
  rcases h with rfl | rfl | rfl | rfl | rfl | rfl | rfl | rfl | rfl | rfl | rfl | rfl | rfl | rfl | rfl | rfl | rfl | rfl | rfl | rfl | rfl | rfl | rfl | rfl | rfl
  all_goals first
    | exact .inl ⟨by decide, by decide⟩
    | exact .inr (.inl rfl)
    | exact .inr (.inr (.inl ⟨by decide, by decide, by decide⟩))
    | exact .inr (.inr (.inr (.inl ⟨by decide, by decide, by decide⟩)))
    | exact .inr (.inr (.inr (.inr (.inl ⟨by decide, by decide, by decide⟩))))
    | exact .inr (.inr (.inr (.inr (.inr ⟨by decide, by decide, by decide⟩))))

set_option maxRecDepth 100000 in
set_option maxHeartbeats 8000000 in
theorem kidsFault_any (A1 A2 A3 : Option Addr) (n1 c1 n2 c2 n3 c3 : Nat) (ds : List DeclD) (nodes : List NodeD) (i : Nat) (hi : i < n2) (R : Int) (w : World) (hd : ArrB AtDecl 3 w w.heap.size A1 n1 ds) (hnd : ArrB AtNode 5 w w.heap.size A2 n2 nodes)
    (hm1 : n1 ≤ 9223372036854775807) (hm2 : n2 ≤ 9223372036854775807) (hR : ∀ x, nodes[i]? = some x → 1 ≤ x.op ∧ x.op ≤ 25 ∧ (x.op = 9 → 0 ≤ idx (nameIs x.name) ds 0) ∧ kidsCode ds x i = R) :
    Calls Try.prog 37 #[.agg #[.slice A1 n1 c1, .slice A2 n2 c2, .slice A3 n3 c3], .int .i64 i] w fun e w' => e = .returned (.int .i64 R) ∧ Below w.heap.size w w' := by
  obtain ⟨b, off, hx, K, kn, kc, rfl, hb, h0, h1, h2, h3, h4, hnc, hcm, har, -, -, -, hnm⟩ := nodes_get hnd hi
  obtain ⟨ho1, ho2, ho9, hR1⟩ := hR _ (List.getElem?_eq_getElem hx)
  generalize nodes[i] = x at ho1 ho2 ho9 hR1 h0 h2 h3 h4 har hnm
  obtain ⟨op, ks, nn, dd, nm⟩ := x
  simp only at ho1 ho2 ho9 h0 h2 h3 h4 har hnm
  have hal := har.len
  unfold maxLen at hnm hcm
  have hiI : (i : Int) < (n2 : Int) := by omega
  have hkI : (kn : Int) ≤ 9223372036854775807 := by omega
  have hcode : (if badCount ds ⟨op, ks, nn, dd, nm⟩ = true then (9 : Int) else if ks.any (outside i) = true then 3 else 0) = R := hR1
  clear hR hR1 hx
  by_cases h8 : 8 < kn
  · have HR : Hid ((9 : Int) = R) := by show _ = _; rw [← hcode, if_pos (by simp only [badCount, decide_eq_true_eq]; right; show 8 < ks.length; omega)]
    have h8I : (kn : Int) > 8 := by omega
    have HB : Hid (Below w.heap.size w ((w.alloc (.cells #[.slice A1 n1 c1, .slice (some ⟨b, off, none⟩) n2 c2, .slice A3 n3 c3] 26)).alloc (.cells #[.int .i64 op, .slice K kn kc, .int .i64 nn, .int .i64 dd, .string nm] 59))) := ((Below.refl _ _).alloc (Nat.le_refl _) _).alloc (by simp) _
    clear hcode hd hnd har hal ho9
    go_enter Try.func37, Try.ntmps37
    go_wp2_with fail
    go_ret
    exact ⟨ret_int HR.out, HB.out⟩
  have h8I : ¬ ((kn : Int) > 8) := by omega
  have hrest : ∀ want : Int, wantI ds ⟨op, ks, nn, dd, nm⟩ = want → (0 ≤ want → ((kn : Int) = want ∨ (9 : Int) = R)) ∧ ((want < 0 ∨ (kn : Int) = want) → (ks.any (outside i) = true → (3 : Int) = R) ∧ (ks.any (outside i) = false → (0 : Int) = R)) := fun want hw => by
    have hbc : badCount ds ⟨op, ks, nn, dd, nm⟩ = decide (0 ≤ want ∧ ¬ (kn : Int) = want) := by
      simp only [badCount, hw]
      congr 1
      rw [hal]
      apply propext
      constructor
      · rintro (h | h)
        · exact h
        · omega
      · exact fun h => .inl h
    refine ⟨fun h => ?_, fun h => ⟨fun ha => ?_, fun ha => ?_⟩⟩
    · by_cases e : (kn : Int) = want
      · exact .inl e
      · refine .inr ?_
        rw [← hcode, if_pos (by rw [hbc]; simp only [decide_eq_true_eq]; exact ⟨h, e⟩)]
    · rw [← hcode, if_neg (by rw [hbc]; simp only [decide_eq_true_eq]; omega), if_pos ha]
    · rw [← hcode, if_neg (by rw [hbc]; simp only [decide_eq_true_eq]; omega), if_neg (by rw [ha]; simp)]
  clear hcode
  by_cases h9 : op = 9
  · subst h9
    obtain ⟨k, hk, hget, -⟩ := declAt_mem (ho9 rfl)
    have hw : wantI ds ⟨9, ks, nn, dd, nm⟩ = (declAt ds nm).args.length := by rw [wantI, if_pos rfl]
    have hr := hrest _ hw
    have hkl : k < n1 := by
      have := hd.len
      have := (List.getElem?_eq_some_iff.1 hget).1
      omega
    obtain ⟨bd, od, hxd, AR, an, ac, rfl, hbd, -, e1, -, hanc, hacm, hargs, -, -⟩ := decls_get hd hkl
    have hge : ds[k] = declAt ds nm := by rw [List.getElem?_eq_getElem hxd] at hget; simpa using hget
    rw [hge] at hargs
    have hal2 := hargs.len
    rw [hal2] at hr
    have hb0 : Below w.heap.size w ((w.alloc (.cells #[.slice (some ⟨bd, od, none⟩) n1 c1, .slice (some ⟨b, off, none⟩) n2 c2, .slice A3 n3 c3] 26)).alloc (.cells #[.int .i64 9, .slice K kn kc, .int .i64 nn, .int .i64 dd, .string nm] 59)) := ((Below.refl _ _).alloc (Nat.le_refl _) _).alloc (by simp) _
    have HB0 := Lib.hid hb0
    have HD := Lib.hid (fun (W : World) (hbw : Below w.heap.size w W) => declOf_is (some ⟨bd, od, none⟩) n1 c1 nm ds k W _ (hd.below stays_decl hbw hbw.size) hm1 hk)
    have HAR0 := Lib.hid har
    have hkI2 : (k : Int) < (n1 : Int) := by omega
    have hanI : (an : Int) ≤ 9223372036854775807 := by unfold maxLen at hacm; omega
    clear hb0 hk hget hw hge hargs hal2 hrest hd hnd har hal ho9 hxd hacm
    by_cases heq : (kn : Int) = an
    · have hq : ((kn : Int) != (an : Int)) = false := by simp [heq]
      have HR3 := Lib.hid (hr.2 (.inr heq)).1
      have HR0 := Lib.hid (hr.2 (.inr heq)).2
      clear hr heq
      go_enter Try.func37, Try.ntmps37
      go_wp2_with fail
      go_quiet ((go_at_call 36; exact Calls.quiet_of (HD.out _ (by first | exact HB0.out | exact below_drewN HB0.out _))))
      go_wp2_with fail
      have HB : Hid (Below w.heap.size w (((w.alloc (.cells #[.slice (some ⟨bd, od, none⟩) n1 c1, .slice (some ⟨b, off, none⟩) n2 c2, .slice A3 n3 c3] 26)).alloc (.cells #[.int .i64 9, .slice K kn kc, .int .i64 nn, .int .i64 dd, .string nm] 59)).drewN nq)) := below_drewN HB0.out nq
      have HAR := Lib.hid (HAR0.out.below stays_int HB.out (Nat.le_refl _))
      have m1 : (((w.alloc (.cells #[.slice (some ⟨bd, od, none⟩) n1 c1, .slice (some ⟨b, off, none⟩) n2 c2, .slice A3 n3 c3] 26)).alloc (.cells #[.int .i64 9, .slice K kn kc, .int .i64 nn, .int .i64 dd, .string nm] 59)).drewN nq).cell? ⟨w.heap.size + 1, 1, none⟩ = some (.slice K kn kc) := by
        have := Blk.new (w.alloc (.cells #[.slice (some ⟨bd, od, none⟩) n1 c1, .slice (some ⟨b, off, none⟩) n2 c2, .slice A3 n3 c3] 26)) 59 #[.int .i64 9, .slice K kn kc, .int .i64 nn, .int .i64 dd, .string nm]
        rw [World.size_alloc] at this
        exact (this.drewN nq).cell 1
      have hz : w.heap.size + 1 < (((w.alloc (.cells #[.slice (some ⟨bd, od, none⟩) n1 c1, .slice (some ⟨b, off, none⟩) n2 c2, .slice A3 n3 c3] 26)).alloc (.cells #[.int .i64 9, .slice K kn kc, .int .i64 nn, .int .i64 dd, .string nm] 59)).drewN nq).heap.size := by simp
      clear HD HB0 HAR0 e1 h0 h1 h2 h3 h4
      generalize ((w.alloc (.cells #[.slice (some ⟨bd, od, none⟩) n1 c1, .slice (some ⟨b, off, none⟩) n2 c2, .slice A3 n3 c3] 26)).alloc (.cells #[.int .i64 9, .slice K kn kc, .int .i64 nn, .int .i64 dd, .string nm] 59)).drewN nq = X at HB HAR m1 hz ⊢
      go_loop [9] (fun s => ∃ j : Nat, j ≤ kn ∧ s = .int .i64 j ∧ Hid ((ks.drop j).any (outside i) = ks.any (outside i))) (fun s => kn - (intOf s).toNat)
      case atStart => exact ⟨0, Nat.zero_le _, rfl, rfl⟩
      case round =>
        obtain ⟨j, hj, rfl, HK⟩ := hrel
        by_cases hjn : j < kn
        · obtain ⟨b3, off3, hx3, rfl, hb3, hc3, -, -⟩ := ints_get HAR.out hjn
          have e1 := HK.out
          rw [drop_cons hx3, List.any_cons] at e1
          generalize ks[j] = y at e1 hc3
          have hjI : (j : Int) < (kn : Int) := by omega
          have hy : (y < 0 ∧ outside i y = true) ∨ ((0 ≤ y ∧ (i : Int) ≤ y) ∧ outside i y = true) ∨ ((0 ≤ y ∧ y < (i : Int)) ∧ outside i y = false) := by
            simp only [outside, decide_eq_true_eq, decide_eq_false_iff_not]; omega
          rcases hy with ⟨hy0, hy⟩ | ⟨⟨hy0, hy1⟩, hy⟩ | ⟨⟨hy0, hy1⟩, hy⟩
          · rw [hy, Bool.true_or] at e1
            have HR := Lib.hid (HR3.out e1.symm)
            clear e1 hy HK hx3 hb3
            go_wp2_with fail
            go_ret
            exact ⟨ret_int HR.out, HB.out⟩
          · rw [hy, Bool.true_or] at e1
            have HR := Lib.hid (HR3.out e1.symm)
            clear e1 hy HK hx3 hb3
            go_wp2_with fail
            go_ret
            exact ⟨ret_int HR.out, HB.out⟩
          · rw [hy, Bool.false_or] at e1
            have H1 := Lib.hid e1
            clear e1 hy HK hx3 hb3
            go_wp2_with fail
            go_round
            case rel => exact ⟨j + 1, by omega, by go_num, H1⟩
            case measure => simp [intOf]; omega
        · obtain rfl : kn = j := by omega
          have e1 := HK.out
          rw [List.drop_of_length_le (by have := HAR.out.len; omega), List.any_nil] at e1
          have HR := Lib.hid (HR0.out e1.symm)
          clear e1 HK
          go_wp2_with fail
          go_ret
          exact ⟨ret_int HR.out, HB.out⟩
    · have hq : ((kn : Int) != (an : Int)) = true := by rw [bne_iff_ne]; exact heq
      have HR := Lib.hid ((hr.1 (by omega)).resolve_left heq)
      clear hr heq
      go_enter Try.func37, Try.ntmps37
      go_wp2_with fail
      go_quiet ((go_at_call 36; exact Calls.quiet_of (HD.out _ (by first | exact HB0.out | exact below_drewN HB0.out _))))
      go_wp2_with fail
      go_ret
      exact ⟨ret_int HR.out, below_drewN HB0.out _⟩
  · have q9 : (op == 9) = false := by rw [beq_eq_false_iff_ne]; exact h9
    have hr := hrest (kidsF op) (by rw [wantI, if_neg h9])
    have hb0 : Below w.heap.size w ((w.alloc (.cells #[.slice A1 n1 c1, .slice (some ⟨b, off, none⟩) n2 c2, .slice A3 n3 c3] 26)).alloc (.cells #[.int .i64 op, .slice K kn kc, .int .i64 nn, .int .i64 dd, .string nm] 59)) := ((Below.refl _ _).alloc (Nat.le_refl _) _).alloc (by simp) _
    have hbn := Blk.new (w.alloc (.cells #[.slice A1 n1 c1, .slice (some ⟨b, off, none⟩) n2 c2, .slice A3 n3 c3] 26)) 59 #[.int .i64 op, .slice K kn kc, .int .i64 nn, .int .i64 dd, .string nm]
    rw [World.size_alloc] at hbn
    have hs0 : ((w.alloc (.cells #[.slice A1 n1 c1, .slice (some ⟨b, off, none⟩) n2 c2, .slice A3 n3 c3] 26)).alloc (.cells #[.int .i64 op, .slice K kn kc, .int .i64 nn, .int .i64 dd, .string nm] 59)).heap.size = w.heap.size + 2 := by simp
    have HB0 := Lib.hid (And.intro hb0 (And.intro hbn hs0))
    have HAR0 := Lib.hid har
    have hkd : (∃ W, wantsF op = W ∧ W.size = 0 ∧ kidsF op = 0) ∨ (∃ W, wantsF op = W ∧ W.size = 1 ∧ byteAt W 0 ≠ 42 ∧ kidsF op = 1) ∨ (∃ W, wantsF op = W ∧ W.size = 2 ∧ byteAt W 1 ≠ 42 ∧ kidsF op = 2) ∨ (∃ W, wantsF op = W ∧ W.size = 3 ∧ byteAt W 2 ≠ 42 ∧ kidsF op = 3) ∨ (∃ W, wantsF op = W ∧ W.size = 2 ∧ byteAt W 1 = 42 ∧ kidsF op = -1) := by
      rcases wants_kinds op ho1 ho2 with h | h | h | h | h | h
      · exact .inl ⟨_, rfl, h⟩
      · exact absurd h h9
      · exact .inr (.inl ⟨_, rfl, h⟩)
      · exact .inr (.inr (.inl ⟨_, rfl, h⟩))
      · exact .inr (.inr (.inr (.inl ⟨_, rfl, h⟩)))
      · exact .inr (.inr (.inr (.inr ⟨_, rfl, h⟩)))
    clear hb0 hbn hs0 hrest hd hnd har hal ho9 h9
    rcases hkd with ⟨W, hW, hWs, hkf⟩ | ⟨W, hW, hWs, hWb, hkf⟩ | ⟨W, hW, hWs, hWb, hkf⟩ | ⟨W, hW, hWs, hWb, hkf⟩ | ⟨W, hW, hWs, hWb, hkf⟩
    · have hr2 := hr
      rw [hkf] at hr2
      have HW := Lib.hid hW
      clear hW hr hkf
      by_cases heq : (kn : Int) = 0
      · have hq : ((kn : Int) != 0) = false := by rw [heq]; rfl
        have HR3 := Lib.hid (hr2.2 (.inr heq)).1
        have HR0 := Lib.hid (hr2.2 (.inr heq)).2
        clear hr2 heq
        go_enter Try.func37, Try.ntmps37
        go_wp2_with fail
        refine (wants_is _ W HW.out _ ho1 ho2).mono ?_
        rintro e w1 ⟨rfl, hb1⟩
        rw [HB0.out.2.2] at hb1
        have hbw1 : Below w.heap.size w w1 := HB0.out.1.trans (hb1.mono (by omega))
        have hbn1 := HB0.out.2.1.below hb1 (by omega)
        have m1 : w1.cell? ⟨w.heap.size + 1, 1, none⟩ = some (.slice K kn kc) := hbn1.cell 1
        have hz : w.heap.size + 1 < w1.heap.size := hbn1.lt
        have HB := Lib.hid hbw1
        have HAR := Lib.hid (HAR0.out.below stays_int hbw1 (Nat.le_refl _))
        clear hbw1 hbn1 hb1 h0 h1 h2 h3 h4
        go_wp2_with fail
        go_loop [9] (fun s => ∃ j : Nat, j ≤ kn ∧ s = .int .i64 j ∧ Hid ((ks.drop j).any (outside i) = ks.any (outside i))) (fun s => kn - (intOf s).toNat)
        case atStart => exact ⟨0, Nat.zero_le _, rfl, rfl⟩
        case round =>
          obtain ⟨j, hj, rfl, HK⟩ := hrel
          by_cases hjn : j < kn
          · obtain ⟨b3, off3, hx3, rfl, hb3, hc3, -, -⟩ := ints_get HAR.out hjn
            have e1 := HK.out
            rw [drop_cons hx3, List.any_cons] at e1
            generalize ks[j] = y at e1 hc3
            have hjI : (j : Int) < (kn : Int) := by omega
            have hy : (y < 0 ∧ outside i y = true) ∨ ((0 ≤ y ∧ (i : Int) ≤ y) ∧ outside i y = true) ∨ ((0 ≤ y ∧ y < (i : Int)) ∧ outside i y = false) := by
              simp only [outside, decide_eq_true_eq, decide_eq_false_iff_not]; omega
            rcases hy with ⟨hy0, hy⟩ | ⟨⟨hy0, hy1⟩, hy⟩ | ⟨⟨hy0, hy1⟩, hy⟩
            · rw [hy, Bool.true_or] at e1
              have HR := Lib.hid (HR3.out e1.symm)
              clear e1 hy HK hx3 hb3
              go_wp2_with fail
              go_ret
              exact ⟨ret_int HR.out, HB.out⟩
            · rw [hy, Bool.true_or] at e1
              have HR := Lib.hid (HR3.out e1.symm)
              clear e1 hy HK hx3 hb3
              go_wp2_with fail
              go_ret
              exact ⟨ret_int HR.out, HB.out⟩
            · rw [hy, Bool.false_or] at e1
              have H1 := Lib.hid e1
              clear e1 hy HK hx3 hb3
              go_wp2_with fail
              go_round
              case rel => exact ⟨j + 1, by omega, by go_num, H1⟩
              case measure => simp [intOf]; omega
          · obtain rfl : kn = j := by omega
            have e1 := HK.out
            rw [List.drop_of_length_le (by have := HAR.out.len; omega), List.any_nil] at e1
            have HR := Lib.hid (HR0.out e1.symm)
            clear e1 HK
            go_wp2_with fail
            go_ret
            exact ⟨ret_int HR.out, HB.out⟩
      · have hq : ((kn : Int) != 0) = true := by rw [bne_iff_ne]; exact heq
        have HR := Lib.hid ((hr2.1 (by omega)).resolve_left heq)
        clear hr2 heq
        go_enter Try.func37, Try.ntmps37
        go_wp2_with fail
        refine (wants_is _ W HW.out _ ho1 ho2).mono ?_
        rintro e w1 ⟨rfl, hb1⟩
        rw [HB0.out.2.2] at hb1
        have hbw1 : Below w.heap.size w w1 := HB0.out.1.trans (hb1.mono (by omega))
        have hbn1 := HB0.out.2.1.below hb1 (by omega)
        have m1 : w1.cell? ⟨w.heap.size + 1, 1, none⟩ = some (.slice K kn kc) := hbn1.cell 1
        have hz : w.heap.size + 1 < w1.heap.size := hbn1.lt
        have HB := Lib.hid hbw1
        have HAR := Lib.hid (HAR0.out.below stays_int hbw1 (Nat.le_refl _))
        clear hbw1 hbn1 hb1 h0 h1 h2 h3 h4
        go_wp2_with fail
        go_ret
        exact ⟨ret_int HR.out, HB.out⟩
    · have hWb2 : (((W[0]'(by omega)).toNat : Int) == 42) = false := by rw [← byteAt_get, beq_eq_false_iff_ne]; exact hWb
      clear hWb
      have hr2 := hr
      rw [hkf] at hr2
      have HW := Lib.hid hW
      clear hW hr hkf
      by_cases heq : (kn : Int) = 1
      · have hq : ((kn : Int) != 1) = false := by rw [heq]; rfl
        have HR3 := Lib.hid (hr2.2 (.inr heq)).1
        have HR0 := Lib.hid (hr2.2 (.inr heq)).2
        clear hr2 heq
        go_enter Try.func37, Try.ntmps37
        go_wp2_with fail
        refine (wants_is _ W HW.out _ ho1 ho2).mono ?_
        rintro e w1 ⟨rfl, hb1⟩
        rw [HB0.out.2.2] at hb1
        have hbw1 : Below w.heap.size w w1 := HB0.out.1.trans (hb1.mono (by omega))
        have hbn1 := HB0.out.2.1.below hb1 (by omega)
        have m1 : w1.cell? ⟨w.heap.size + 1, 1, none⟩ = some (.slice K kn kc) := hbn1.cell 1
        have hz : w.heap.size + 1 < w1.heap.size := hbn1.lt
        have HB := Lib.hid hbw1
        have HAR := Lib.hid (HAR0.out.below stays_int hbw1 (Nat.le_refl _))
        clear hbw1 hbn1 hb1 h0 h1 h2 h3 h4
        go_wp2_with fail
        go_loop [9] (fun s => ∃ j : Nat, j ≤ kn ∧ s = .int .i64 j ∧ Hid ((ks.drop j).any (outside i) = ks.any (outside i))) (fun s => kn - (intOf s).toNat)
        case atStart => exact ⟨0, Nat.zero_le _, rfl, rfl⟩
        case round =>
          obtain ⟨j, hj, rfl, HK⟩ := hrel
          by_cases hjn : j < kn
          · obtain ⟨b3, off3, hx3, rfl, hb3, hc3, -, -⟩ := ints_get HAR.out hjn
            have e1 := HK.out
            rw [drop_cons hx3, List.any_cons] at e1
            generalize ks[j] = y at e1 hc3
            have hjI : (j : Int) < (kn : Int) := by omega
            have hy : (y < 0 ∧ outside i y = true) ∨ ((0 ≤ y ∧ (i : Int) ≤ y) ∧ outside i y = true) ∨ ((0 ≤ y ∧ y < (i : Int)) ∧ outside i y = false) := by
              simp only [outside, decide_eq_true_eq, decide_eq_false_iff_not]; omega
            rcases hy with ⟨hy0, hy⟩ | ⟨⟨hy0, hy1⟩, hy⟩ | ⟨⟨hy0, hy1⟩, hy⟩
            · rw [hy, Bool.true_or] at e1
              have HR := Lib.hid (HR3.out e1.symm)
              clear e1 hy HK hx3 hb3
              go_wp2_with fail
              go_ret
              exact ⟨ret_int HR.out, HB.out⟩
            · rw [hy, Bool.true_or] at e1
              have HR := Lib.hid (HR3.out e1.symm)
              clear e1 hy HK hx3 hb3
              go_wp2_with fail
              go_ret
              exact ⟨ret_int HR.out, HB.out⟩
            · rw [hy, Bool.false_or] at e1
              have H1 := Lib.hid e1
              clear e1 hy HK hx3 hb3
              go_wp2_with fail
              go_round
              case rel => exact ⟨j + 1, by omega, by go_num, H1⟩
              case measure => simp [intOf]; omega
          · obtain rfl : kn = j := by omega
            have e1 := HK.out
            rw [List.drop_of_length_le (by have := HAR.out.len; omega), List.any_nil] at e1
            have HR := Lib.hid (HR0.out e1.symm)
            clear e1 HK
            go_wp2_with fail
            go_ret
            exact ⟨ret_int HR.out, HB.out⟩
      · have hq : ((kn : Int) != 1) = true := by rw [bne_iff_ne]; exact heq
        have HR := Lib.hid ((hr2.1 (by omega)).resolve_left heq)
        clear hr2 heq
        go_enter Try.func37, Try.ntmps37
        go_wp2_with fail
        refine (wants_is _ W HW.out _ ho1 ho2).mono ?_
        rintro e w1 ⟨rfl, hb1⟩
        rw [HB0.out.2.2] at hb1
        have hbw1 : Below w.heap.size w w1 := HB0.out.1.trans (hb1.mono (by omega))
        have hbn1 := HB0.out.2.1.below hb1 (by omega)
        have m1 : w1.cell? ⟨w.heap.size + 1, 1, none⟩ = some (.slice K kn kc) := hbn1.cell 1
        have hz : w.heap.size + 1 < w1.heap.size := hbn1.lt
        have HB := Lib.hid hbw1
        have HAR := Lib.hid (HAR0.out.below stays_int hbw1 (Nat.le_refl _))
        clear hbw1 hbn1 hb1 h0 h1 h2 h3 h4
        go_wp2_with fail
        go_ret
        exact ⟨ret_int HR.out, HB.out⟩
    · have hWb2 : (((W[1]'(by omega)).toNat : Int) == 42) = false := by rw [← byteAt_get, beq_eq_false_iff_ne]; exact hWb
      clear hWb
      have hr2 := hr
      rw [hkf] at hr2
      have HW := Lib.hid hW
      clear hW hr hkf
      by_cases heq : (kn : Int) = 2
      · have hq : ((kn : Int) != 2) = false := by rw [heq]; rfl
        have HR3 := Lib.hid (hr2.2 (.inr heq)).1
        have HR0 := Lib.hid (hr2.2 (.inr heq)).2
        clear hr2 heq
        go_enter Try.func37, Try.ntmps37
        go_wp2_with fail
        refine (wants_is _ W HW.out _ ho1 ho2).mono ?_
        rintro e w1 ⟨rfl, hb1⟩
        rw [HB0.out.2.2] at hb1
        have hbw1 : Below w.heap.size w w1 := HB0.out.1.trans (hb1.mono (by omega))
        have hbn1 := HB0.out.2.1.below hb1 (by omega)
        have m1 : w1.cell? ⟨w.heap.size + 1, 1, none⟩ = some (.slice K kn kc) := hbn1.cell 1
        have hz : w.heap.size + 1 < w1.heap.size := hbn1.lt
        have HB := Lib.hid hbw1
        have HAR := Lib.hid (HAR0.out.below stays_int hbw1 (Nat.le_refl _))
        clear hbw1 hbn1 hb1 h0 h1 h2 h3 h4
        go_wp2_with fail
        go_loop [9] (fun s => ∃ j : Nat, j ≤ kn ∧ s = .int .i64 j ∧ Hid ((ks.drop j).any (outside i) = ks.any (outside i))) (fun s => kn - (intOf s).toNat)
        case atStart => exact ⟨0, Nat.zero_le _, rfl, rfl⟩
        case round =>
          obtain ⟨j, hj, rfl, HK⟩ := hrel
          by_cases hjn : j < kn
          · obtain ⟨b3, off3, hx3, rfl, hb3, hc3, -, -⟩ := ints_get HAR.out hjn
            have e1 := HK.out
            rw [drop_cons hx3, List.any_cons] at e1
            generalize ks[j] = y at e1 hc3
            have hjI : (j : Int) < (kn : Int) := by omega
            have hy : (y < 0 ∧ outside i y = true) ∨ ((0 ≤ y ∧ (i : Int) ≤ y) ∧ outside i y = true) ∨ ((0 ≤ y ∧ y < (i : Int)) ∧ outside i y = false) := by
              simp only [outside, decide_eq_true_eq, decide_eq_false_iff_not]; omega
            rcases hy with ⟨hy0, hy⟩ | ⟨⟨hy0, hy1⟩, hy⟩ | ⟨⟨hy0, hy1⟩, hy⟩
            · rw [hy, Bool.true_or] at e1
              have HR := Lib.hid (HR3.out e1.symm)
              clear e1 hy HK hx3 hb3
              go_wp2_with fail
              go_ret
              exact ⟨ret_int HR.out, HB.out⟩
            · rw [hy, Bool.true_or] at e1
              have HR := Lib.hid (HR3.out e1.symm)
              clear e1 hy HK hx3 hb3
              go_wp2_with fail
              go_ret
              exact ⟨ret_int HR.out, HB.out⟩
            · rw [hy, Bool.false_or] at e1
              have H1 := Lib.hid e1
              clear e1 hy HK hx3 hb3
              go_wp2_with fail
              go_round
              case rel => exact ⟨j + 1, by omega, by go_num, H1⟩
              case measure => simp [intOf]; omega
          · obtain rfl : kn = j := by omega
            have e1 := HK.out
            rw [List.drop_of_length_le (by have := HAR.out.len; omega), List.any_nil] at e1
            have HR := Lib.hid (HR0.out e1.symm)
            clear e1 HK
            go_wp2_with fail
            go_ret
            exact ⟨ret_int HR.out, HB.out⟩
      · have hq : ((kn : Int) != 2) = true := by rw [bne_iff_ne]; exact heq
        have HR := Lib.hid ((hr2.1 (by omega)).resolve_left heq)
        clear hr2 heq
        go_enter Try.func37, Try.ntmps37
        go_wp2_with fail
        refine (wants_is _ W HW.out _ ho1 ho2).mono ?_
        rintro e w1 ⟨rfl, hb1⟩
        rw [HB0.out.2.2] at hb1
        have hbw1 : Below w.heap.size w w1 := HB0.out.1.trans (hb1.mono (by omega))
        have hbn1 := HB0.out.2.1.below hb1 (by omega)
        have m1 : w1.cell? ⟨w.heap.size + 1, 1, none⟩ = some (.slice K kn kc) := hbn1.cell 1
        have hz : w.heap.size + 1 < w1.heap.size := hbn1.lt
        have HB := Lib.hid hbw1
        have HAR := Lib.hid (HAR0.out.below stays_int hbw1 (Nat.le_refl _))
        clear hbw1 hbn1 hb1 h0 h1 h2 h3 h4
        go_wp2_with fail
        go_ret
        exact ⟨ret_int HR.out, HB.out⟩
    · have hWb2 : (((W[2]'(by omega)).toNat : Int) == 42) = false := by rw [← byteAt_get, beq_eq_false_iff_ne]; exact hWb
      clear hWb
      have hr2 := hr
      rw [hkf] at hr2
      have HW := Lib.hid hW
      clear hW hr hkf
      by_cases heq : (kn : Int) = 3
      · have hq : ((kn : Int) != 3) = false := by rw [heq]; rfl
        have HR3 := Lib.hid (hr2.2 (.inr heq)).1
        have HR0 := Lib.hid (hr2.2 (.inr heq)).2
        clear hr2 heq
        go_enter Try.func37, Try.ntmps37
        go_wp2_with fail
        refine (wants_is _ W HW.out _ ho1 ho2).mono ?_
        rintro e w1 ⟨rfl, hb1⟩
        rw [HB0.out.2.2] at hb1
        have hbw1 : Below w.heap.size w w1 := HB0.out.1.trans (hb1.mono (by omega))
        have hbn1 := HB0.out.2.1.below hb1 (by omega)
        have m1 : w1.cell? ⟨w.heap.size + 1, 1, none⟩ = some (.slice K kn kc) := hbn1.cell 1
        have hz : w.heap.size + 1 < w1.heap.size := hbn1.lt
        have HB := Lib.hid hbw1
        have HAR := Lib.hid (HAR0.out.below stays_int hbw1 (Nat.le_refl _))
        clear hbw1 hbn1 hb1 h0 h1 h2 h3 h4
        go_wp2_with fail
        go_loop [9] (fun s => ∃ j : Nat, j ≤ kn ∧ s = .int .i64 j ∧ Hid ((ks.drop j).any (outside i) = ks.any (outside i))) (fun s => kn - (intOf s).toNat)
        case atStart => exact ⟨0, Nat.zero_le _, rfl, rfl⟩
        case round =>
          obtain ⟨j, hj, rfl, HK⟩ := hrel
          by_cases hjn : j < kn
          · obtain ⟨b3, off3, hx3, rfl, hb3, hc3, -, -⟩ := ints_get HAR.out hjn
            have e1 := HK.out
            rw [drop_cons hx3, List.any_cons] at e1
            generalize ks[j] = y at e1 hc3
            have hjI : (j : Int) < (kn : Int) := by omega
            have hy : (y < 0 ∧ outside i y = true) ∨ ((0 ≤ y ∧ (i : Int) ≤ y) ∧ outside i y = true) ∨ ((0 ≤ y ∧ y < (i : Int)) ∧ outside i y = false) := by
              simp only [outside, decide_eq_true_eq, decide_eq_false_iff_not]; omega
            rcases hy with ⟨hy0, hy⟩ | ⟨⟨hy0, hy1⟩, hy⟩ | ⟨⟨hy0, hy1⟩, hy⟩
            · rw [hy, Bool.true_or] at e1
              have HR := Lib.hid (HR3.out e1.symm)
              clear e1 hy HK hx3 hb3
              go_wp2_with fail
              go_ret
              exact ⟨ret_int HR.out, HB.out⟩
            · rw [hy, Bool.true_or] at e1
              have HR := Lib.hid (HR3.out e1.symm)
              clear e1 hy HK hx3 hb3
              go_wp2_with fail
              go_ret
              exact ⟨ret_int HR.out, HB.out⟩
            · rw [hy, Bool.false_or] at e1
              have H1 := Lib.hid e1
              clear e1 hy HK hx3 hb3
              go_wp2_with fail
              go_round
              case rel => exact ⟨j + 1, by omega, by go_num, H1⟩
              case measure => simp [intOf]; omega
          · obtain rfl : kn = j := by omega
            have e1 := HK.out
            rw [List.drop_of_length_le (by have := HAR.out.len; omega), List.any_nil] at e1
            have HR := Lib.hid (HR0.out e1.symm)
            clear e1 HK
            go_wp2_with fail
            go_ret
            exact ⟨ret_int HR.out, HB.out⟩
      · have hq : ((kn : Int) != 3) = true := by rw [bne_iff_ne]; exact heq
        have HR := Lib.hid ((hr2.1 (by omega)).resolve_left heq)
        clear hr2 heq
        go_enter Try.func37, Try.ntmps37
        go_wp2_with fail
        refine (wants_is _ W HW.out _ ho1 ho2).mono ?_
        rintro e w1 ⟨rfl, hb1⟩
        rw [HB0.out.2.2] at hb1
        have hbw1 : Below w.heap.size w w1 := HB0.out.1.trans (hb1.mono (by omega))
        have hbn1 := HB0.out.2.1.below hb1 (by omega)
        have m1 : w1.cell? ⟨w.heap.size + 1, 1, none⟩ = some (.slice K kn kc) := hbn1.cell 1
        have hz : w.heap.size + 1 < w1.heap.size := hbn1.lt
        have HB := Lib.hid hbw1
        have HAR := Lib.hid (HAR0.out.below stays_int hbw1 (Nat.le_refl _))
        clear hbw1 hbn1 hb1 h0 h1 h2 h3 h4
        go_wp2_with fail
        go_ret
        exact ⟨ret_int HR.out, HB.out⟩
    · have hWb2 : (((W[1]'(by omega)).toNat : Int) == 42) = true := by rw [← byteAt_get, beq_iff_eq]; exact hWb
      clear hWb
      have hr2 := hr
      rw [hkf] at hr2
      have HW := Lib.hid hW
      clear hW hr hkf
      have HR3 := Lib.hid (hr2.2 (.inl (by omega))).1
      have HR0 := Lib.hid (hr2.2 (.inl (by omega))).2
      clear hr2
      go_enter Try.func37, Try.ntmps37
      go_wp2_with fail
      refine (wants_is _ W HW.out _ ho1 ho2).mono ?_
      rintro e w1 ⟨rfl, hb1⟩
      rw [HB0.out.2.2] at hb1
      have hbw1 : Below w.heap.size w w1 := HB0.out.1.trans (hb1.mono (by omega))
      have hbn1 := HB0.out.2.1.below hb1 (by omega)
      have m1 : w1.cell? ⟨w.heap.size + 1, 1, none⟩ = some (.slice K kn kc) := hbn1.cell 1
      have hz : w.heap.size + 1 < w1.heap.size := hbn1.lt
      have HB := Lib.hid hbw1
      have HAR := Lib.hid (HAR0.out.below stays_int hbw1 (Nat.le_refl _))
      clear hbw1 hbn1 hb1 h0 h1 h2 h3 h4
      go_wp2_with fail
      go_loop [9] (fun s => ∃ j : Nat, j ≤ kn ∧ s = .int .i64 j ∧ Hid ((ks.drop j).any (outside i) = ks.any (outside i))) (fun s => kn - (intOf s).toNat)
      case atStart => exact ⟨0, Nat.zero_le _, rfl, rfl⟩
      case round =>
        obtain ⟨j, hj, rfl, HK⟩ := hrel
        by_cases hjn : j < kn
        · obtain ⟨b3, off3, hx3, rfl, hb3, hc3, -, -⟩ := ints_get HAR.out hjn
          have e1 := HK.out
          rw [drop_cons hx3, List.any_cons] at e1
          generalize ks[j] = y at e1 hc3
          have hjI : (j : Int) < (kn : Int) := by omega
          have hy : (y < 0 ∧ outside i y = true) ∨ ((0 ≤ y ∧ (i : Int) ≤ y) ∧ outside i y = true) ∨ ((0 ≤ y ∧ y < (i : Int)) ∧ outside i y = false) := by
            simp only [outside, decide_eq_true_eq, decide_eq_false_iff_not]; omega
          rcases hy with ⟨hy0, hy⟩ | ⟨⟨hy0, hy1⟩, hy⟩ | ⟨⟨hy0, hy1⟩, hy⟩
          · rw [hy, Bool.true_or] at e1
            have HR := Lib.hid (HR3.out e1.symm)
            clear e1 hy HK hx3 hb3
            go_wp2_with fail
            go_ret
            exact ⟨ret_int HR.out, HB.out⟩
          · rw [hy, Bool.true_or] at e1
            have HR := Lib.hid (HR3.out e1.symm)
            clear e1 hy HK hx3 hb3
            go_wp2_with fail
            go_ret
            exact ⟨ret_int HR.out, HB.out⟩
          · rw [hy, Bool.false_or] at e1
            have H1 := Lib.hid e1
            clear e1 hy HK hx3 hb3
            go_wp2_with fail
            go_round
            case rel => exact ⟨j + 1, by omega, by go_num, H1⟩
            case measure => simp [intOf]; omega
        · obtain rfl : kn = j := by omega
          have e1 := HK.out
          rw [List.drop_of_length_le (by have := HAR.out.len; omega), List.any_nil] at e1
          have HR := Lib.hid (HR0.out e1.symm)
          clear e1 HK
          go_wp2_with fail
          go_ret
          exact ⟨ret_int HR.out, HB.out⟩
end Go.Proofs.Ythooecojopfjbaa
