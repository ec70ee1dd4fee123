/- Walk: the sort of a node of an ask, or its fault. -/
import Derived.Test.YthooecojopfjbaaAskPb
import Derived.Test.YthooecojopfjbaaAskQR
import Derived.Test.YthooecojopfjbaaCore
import Derived.Deep.LoopGhost
import Derived.Deep.Cut
import Derived.Deep.CutRange
import Derived.Deep.DeepCutAuto
namespace Go.Proofs.Ythooecojopfjbaa
open Go.RowKit

theorem infoInt : (Try.prog.info? 3).map (fun i => (i.zero, i.size, i.bytes)) = some (some (.int .i64 0), 1, 8) := by kernel_rfl
theorem rowInts : RowT Try.prog 22 3 1 8 := rowT_of Try.underlying22 infoInt rfl (by omega)

theorem kids_is (op R : Int) (h : kidsF op = R) (w : World) (h0 : 1 ≤ op) (h1 : op ≤ 25) : Calls Try.prog 62 #[.int .i64 op] w fun e w' => e = .returned (.int .i64 R) ∧ w = w' := by subst h; exact kids_any op w h0 h1
theorem formed_is (op n d : Int) (A : Option Addr) (m c : Nat) (nm : ByteArray) (b : Bool) (h : formedB op n d nm = b) (w : World) :
    Calls Try.prog 64 #[.agg #[.int .i64 op, .slice A m c, .int .i64 n, .int .i64 d, .string nm]] w fun e w' => e = .returned (.bool b) ∧ Below w.heap.size w w' := by subst h; exact formed_any op n d A m c nm w
theorem numbers_is (op n d : Int) (A : Option Addr) (m c : Nat) (nm : ByteArray) (b : Bool) (h : numbersB op n d = b) (w : World) :
    Calls Try.prog 65 #[.agg #[.int .i64 op, .slice A m c, .int .i64 n, .int .i64 d, .string nm]] w fun e w' => e = .returned (.bool b) ∧ Below w.heap.size w w' := by subst h; exact numbers_any op n d A m c nm w
theorem sortF_free {op d : Int} {ks ar : List Int} {ds : Int} (h : op ≠ 9) (ar' : List Int) (ds' : Int) : sortF op d ks ar ds = sortF op d ks ar' ds' := by
  unfold sortF
  simp only [h, if_false]

/-- where the node, the declaration (of a name) and their number of kids stand -/
def NodeCut (ds : List DeclD) (op : Int) (nm : ByteArray) (K : Option Addr) (kn kc : Nat) (nn dd : Int) (want : Int) (w : World) (s10 : Value) (wx : World) : Prop :=
  ∃ (dn : ByteArray) (A3 : Option Addr) (n3 c3 : Nat) (so : Int) (ar : List Int), s10 = .int .i64 want ∧ Below w.heap.size w wx ∧ Blk wx (w.heap.size + 1) 59 #[.int .i64 op, .slice K kn kc, .int .i64 nn, .int .i64 dd, .string nm] ∧
    Blk wx (w.heap.size + 2) 61 #[.string dn, .slice A3 n3 c3, .int .i64 so] ∧ IntsB wx w.heap.size A3 n3 ar ∧ n3 ≤ 9223372036854775807 ∧ (op = 9 → ar = (declAt ds nm).args ∧ so = (declAt ds nm).sort)

set_option maxRecDepth 100000 in
set_option maxHeartbeats 8000000 in
theorem node_bad (A1 A2 A3 : Option Addr) (n1 c1 n2 c2 n3 c3 : Nat) (nodes : List NodeD) (i : Nat) (hi : i < n2) (As : Option Addr) (ns cs : Nat) (w : World) (hnd : ArrB AtNode 5 w w.heap.size A2 n2 nodes)
    (hR : ∀ x, nodes[i]? = some x → x.op < 1 ∨ 25 < x.op) :
    Calls Try.prog 34 #[.agg #[.slice A1 n1 c1, .slice A2 n2 c2, .slice A3 n3 c3], .int .i64 i, .slice As ns cs] w fun e w' => e = .returned (.tuple #[.int .i64 0, .int .i64 4]) ∧ Below w.heap.size w w' := by
  obtain ⟨b, off, hx, K, kn, kc, rfl, hb, h0, h1, h2, h3, h4, -⟩ := nodes_get hnd hi
  have hR1 := hR _ (List.getElem?_eq_getElem hx)
  generalize nodes[i] = x at hR1 h0 h2 h3 h4
  obtain ⟨op, ks, nn, dd, nm⟩ := x
  simp only at hR1 h0 h2 h3 h4
  have hiI : (i : Int) < (n2 : Int) := by omega
  have HB : Hid (Below w.heap.size w ((w.alloc (.cells #[.slice A1 n1 c1, .slice (some ⟨b, off, none⟩) n2 c2, .slice A3 n3 c3] 26)).alloc (.cells #[.int .i64 op, .slice K kn kc, .int .i64 nn, .int .i64 dd, .string nm] 59))) := ((Below.refl _ _).alloc (Nat.le_refl _) _).alloc (by simp) _
  clear hR hx hnd
  have hc : op < 1 ∨ (1 ≤ op ∧ 25 < op) := by omega
  clear hR1
  rcases hc with hc | ⟨hc, hc2⟩
  all_goals
    go_enter Try.func34, Try.ntmps34
    go_wp2_with fail
    go_ret2
    exact ⟨rfl, HB.out⟩

/-- what the count's rule leaves -/
theorem count_ok {ds : List DeclD} {ss : List Int} {x : NodeD} (hc : badCount ds x = false) (h9 : x.op ≠ 9) : CountOk x.op (kidSorts ss x) := by
  have hw : wantI ds x = kidsF x.op := by rw [wantI, if_neg h9]
  simp only [badCount, decide_eq_false_iff_not, not_or, not_and, Classical.not_not] at hc
  rw [hw] at hc
  have hlen : (kidSorts ss x).length = x.kids.length := by simp [kidSorts]
  by_cases hk : kidsF x.op = -1
  · exact .inl hk
  · refine .inr ?_
    rw [hlen]
    refine hc.1 ?_
    unfold kidsF at hk ⊢
    repeat' split at hk
    all_goals first | omega | (simp_all; try omega)
theorem three_boxes3 (w : World) (c1 c2 c3 : Array Value) : Below w.heap.size w (((w.alloc (.cells c1 26)).alloc (.cells c2 59)).alloc (.cells c3 61)) ∧
    Blk (((w.alloc (.cells c1 26)).alloc (.cells c2 59)).alloc (.cells c3 61)) w.heap.size 26 c1 ∧
    Blk (((w.alloc (.cells c1 26)).alloc (.cells c2 59)).alloc (.cells c3 61)) (w.heap.size + 1) 59 c2 ∧
    Blk (((w.alloc (.cells c1 26)).alloc (.cells c2 59)).alloc (.cells c3 61)) (w.heap.size + 2) 61 c3 ∧
    (((w.alloc (.cells c1 26)).alloc (.cells c2 59)).alloc (.cells c3 61)).heap.size = w.heap.size + 3 :=
  ⟨(((Below.refl _ _).alloc (Nat.le_refl _) _).alloc (by simp) _).alloc (by simp; omega) _, ((Blk.new _ _ _).alloc _).alloc _,
    by have := (Blk.new (w.alloc (.cells c1 26)) 59 c2).alloc (.cells c3 61); rwa [World.size_alloc] at this,
    by have := Blk.new ((w.alloc (.cells c1 26)).alloc (.cells c2 59)) 61 c3; rwa [World.size_alloc, World.size_alloc] at this, by simp⟩
theorem three_blk {w : World} {g : Nat} {t : TypeId} {a0 b0 c0 : Value} (h : Blk w g t #[a0, b0, c0]) (a b c : Value) : Blk (((w.setCell ⟨g, 0, none⟩ a).setCell ⟨g, 1, none⟩ b).setCell ⟨g, 2, none⟩ c) g t #[a, b, c] := by
  have h1 : Blk (w.setCell ⟨g, 0, none⟩ a) g t #[a, b0, c0] := h.set_ 0 a
  have h2 : Blk ((w.setCell ⟨g, 0, none⟩ a).setCell ⟨g, 1, none⟩ b) g t #[a, b, c0] := h1.set_ 1 b
  exact h2.set_ 2 c
theorem three_below {w0 w : World} {B g : Nat} (h : Below B w0 w) (hg : B ≤ g) (a b c : Value) : Below B w0 (((w.setCell ⟨g, 0, none⟩ a).setCell ⟨g, 1, none⟩ b).setCell ⟨g, 2, none⟩ c) :=
  ((h.setCell (p := ⟨g, 0, none⟩) hg a).setCell (p := ⟨g, 1, none⟩) hg b).setCell (p := ⟨g, 2, none⟩) hg c

set_option maxRecDepth 100000 in
set_option maxHeartbeats 16000000 in
theorem node_any (A1 A2 A3 : Option Addr) (n1 c1 n2 c2 n3 c3 : Nat) (ds : List DeclD) (nodes : List NodeD) (i : Nat) (hi : i < n2) (As : Option Addr) (cs : Nat) (ss : List Int) (s code : Int) (w : World) (hd : ArrB AtDecl 3 w w.heap.size A1 n1 ds)
    (hnd : ArrB AtNode 5 w w.heap.size A2 n2 nodes) (hss : IntsB w w.heap.size As i ss) (hm1 : n1 ≤ 9223372036854775807) (hm2 : n2 ≤ 9223372036854775807) (hR : ∀ x, nodes[i]? = some x → 1 ≤ x.op ∧ x.op ≤ 25 ∧ nodeF ds i ss x = (s, code)) :
    Calls Try.prog 34 #[.agg #[.slice A1 n1 c1, .slice A2 n2 c2, .slice A3 n3 c3], .int .i64 i, .slice As i cs] w fun e w' => e = .returned (.tuple #[.int .i64 s, .int .i64 code]) ∧ Below w.heap.size w w' := by
  obtain ⟨b, off, hx, K, kn, kc, rfl, hb, h0, h1, h2, h3, h4, hnc, hcm, har, -, -, -, hnm⟩ := nodes_get hnd hi
  obtain ⟨ho1, ho2, hR1⟩ := hR _ (List.getElem?_eq_getElem hx)
  generalize nodes[i] = x at ho1 ho2 hR1 h0 h2 h3 h4 har hnm
  obtain ⟨op, ks, nn, dd, nm⟩ := x
  simp only at ho1 ho2 h0 h2 h3 h4 har hnm
  have hal := har.len
  unfold maxLen at hnm hcm
  have hiI : (i : Int) < (n2 : Int) := by omega
  have hkI : (kn : Int) ≤ 9223372036854775807 := by omega
  rw [nodeF, if_neg (by show ¬ (op < 1 ∨ 25 < op); omega)] at hR1
  have HRR := Lib.hid hR1
  clear hR hR1 hx
  have hw := Lib.hid (show ∃ W : Int, wantI ds ⟨op, ks, nn, dd, nm⟩ = W from ⟨_, rfl⟩)
  obtain ⟨want, hwant⟩ := hw.out
  have HWT := Lib.hid hwant
  clear hw hwant
  have hkf : ∃ R : Int, kidsF op = R := ⟨_, rfl⟩
  obtain ⟨kf, hkf⟩ := hkf
  have HKF := Lib.hid hkf
  clear hkf
  have HDS := Lib.hid (And.intro hd (And.intro hss har))
  clear hd hss har hnd
  go_enter Try.func34, Try.ntmps34
  go_upto_if 34 with (go_at_call 62; refine (kids_is _ _ HKF.out _ ho1 ho2).mono ?_; rintro e w' ⟨rfl, rfl⟩)
  go_cut [10] (fun s10 wx => NodeCut ds op nm K kn kc nn dd want w s10 wx ∧ (op = 9 → 0 ≤ idx (nameIs nm) ds 0))
  case first =>
    by_cases h9 : op = 9
    · subst h9
      have hboxes := three_boxes3 w #[.slice A1 n1 c1, .slice (some ⟨b, off, none⟩) n2 c2, .slice A3 n3 c3] #[.int .i64 9, .slice K kn kc, .int .i64 nn, .int .i64 dd, .string nm] #[.string ⟨#[]⟩, .slice none 0 0, .int .i64 0]
      obtain ⟨hb0, hk0, hn0, hd0, hs0⟩ := hboxes
      have hfind := fun R (hR : idx (nameIs nm) ds 0 = R) => find_any A1 (some ⟨b, off, none⟩) A3 n1 c1 n2 c2 n3 c3 nm ds R (((w.alloc (.cells #[.slice A1 n1 c1, .slice (some ⟨b, off, none⟩) n2 c2, .slice A3 n3 c3] 26)).alloc (.cells #[.int .i64 9, .slice K kn kc, .int .i64 nn, .int .i64 dd, .string nm] 59)).alloc (.cells #[.string ⟨#[]⟩, .slice none 0 0, .int .i64 0] 61)) (HDS.out.1.below stays_decl hb0 hb0.size) hm1 hR
      by_cases hneg : idx (nameIs nm) ds 0 < 0
      · have e1 := HRR.out
        rw [if_pos ⟨rfl, hneg⟩] at e1
        simp only [Prod.mk.injEq] at e1
        obtain ⟨rfl, rfl⟩ := e1
        rw [idx_neg (by omega) hneg] at hfind
        have HF := Lib.hid (hfind _ rfl)
        have HB := Lib.hid hb0
        clear hfind hneg hb0 hk0 hn0 hd0 hs0 h0 h1 h2 h3 h4
        go_wp2_with fail
        refine HF.out.mono ?_
        rintro e w5 ⟨rfl, hb5⟩
        go_wp2_with fail
        go_ret2
        exact ⟨rfl, HB.out.trans (hb5.mono HB.out.size)⟩
      · have hge : 0 ≤ idx (nameIs nm) ds 0 := by omega
        obtain ⟨k, hk, hget, -⟩ := declAt_mem hge
        have hkl : k < n1 := by
          have := HDS.out.1.len
          have := (List.getElem?_eq_some_iff.1 hget).1
          omega
        obtain ⟨bd, od, hxd, AR, an, ac, rfl, hbd, e0, e1, e2, hanc, hacm, hargs, -, -⟩ := decls_get HDS.out.1 hkl
        have hgk : ds[k] = declAt ds nm := by rw [List.getElem?_eq_getElem hxd] at hget; simpa using hget
        rw [hgk] at e0 e2 hargs
        have hwt : wantI ds ⟨9, ks, nn, dd, nm⟩ = ((declAt ds nm).args.length : Int) := by rw [wantI, if_pos rfl]
        rw [HWT.out, hargs.len] at hwt
        rw [hk] at hge
        have HF := Lib.hid (hfind _ hk)
        have HB := Lib.hid (And.intro hb0 (And.intro hk0 (And.intro hn0 (And.intro hd0 hs0))))
        have HG := Lib.hid hge
        have HIX := Lib.hid hk
        have HAG := Lib.hid (show ∀ (W : World), Below w.heap.size w W → IntsB W w.heap.size AR an (declAt ds nm).args from fun W hW => hargs.below stays_int hW (Nat.le_refl _))
        have HWX := Lib.hid hwt
        unfold maxLen at hacm
        have hkI2 : (k : Int) < (n1 : Int) := by omega
        have hanI : (an : Int) ≤ 9223372036854775807 := by omega
        clear hfind hneg hb0 hk0 hn0 hd0 hs0 h0 h1 h2 h3 h4 hge hk hget hgk hargs hwt hxd
        generalize (declAt ds nm).name = dn at e0
        have hso : ∃ so : Int, (declAt ds nm).sort = so := ⟨_, rfl⟩
        obtain ⟨so, hso⟩ := hso
        rw [hso] at e2
        have HSO := Lib.hid hso
        clear hso
        go_wp2_with fail
        refine HF.out.mono ?_
        rintro e w5 ⟨rfl, hb5⟩
        obtain ⟨hb0, hk0, hn0, hd0, hs0⟩ := HB.out
        have hbw : Below w.heap.size w w5 := hb0.trans (hb5.mono (by omega))
        have hn5 := hn0.below hb5 (by omega)
        have hd5 := hd0.below hb5 (by omega)
        have e0' : w5.cell? ⟨bd, od + k * 3, none⟩ = some (.string dn) := (hbw.cell (p := ⟨bd, od + k * 3, none⟩) hbd).trans e0
        have e1' : w5.cell? ⟨bd, od + k * 3 + 1, none⟩ = some (.slice AR an ac) := (hbw.cell (p := ⟨bd, od + k * 3 + 1, none⟩) hbd).trans e1
        have e2' : w5.cell? ⟨bd, od + k * 3 + 2, none⟩ = some (.int .i64 so) := (hbw.cell (p := ⟨bd, od + k * 3 + 2, none⟩) hbd).trans e2
        have b0' : w5.cell? ⟨w.heap.size, 0, none⟩ = some (.slice (some ⟨bd, od, none⟩) n1 c1) := (hk0.below hb5 (by omega)).cell 0
        have d0 : w5.cell? ⟨w.heap.size + 2, 0, none⟩ = some (.string ⟨#[]⟩) := hd5.cell 0
        have d1 : w5.cell? ⟨w.heap.size + 2, 1, none⟩ = some (.slice none 0 0) := hd5.cell 1
        have d2 : w5.cell? ⟨w.heap.size + 2, 2, none⟩ = some (.int .i64 0) := hd5.cell 2
        have y0 : w5.frozen? ⟨w.heap.size + 2, 0, none⟩ = false := hd5.frozen 0
        have y1 : w5.frozen? ⟨w.heap.size + 2, 1, none⟩ = false := hd5.frozen 1
        have y2 : w5.frozen? ⟨w.heap.size + 2, 2, none⟩ = false := hd5.frozen 2
        have hz5 : w.heap.size + 2 < w5.heap.size := hd5.lt
        have H5 := Lib.hid (And.intro hbw (And.intro hn5 hd5))
        clear hb0 hk0 hn0 hd0 hs0 hbw hn5 hd5 hb5 e0 e1 e2
        go_wp2_with fail
        go_meet
        obtain ⟨hbw, hn5, hd5⟩ := H5.out
        have hbz := three_below hbw (g := w.heap.size + 2) (by omega) (.string dn) (.slice AR an ac) (.int .i64 so)
        refine ⟨⟨dn, AR, an, ac, so, (declAt ds nm).args, by rw [HWX.out], hbz, ?_, three_blk hd5 _ _ _, HAG.out _ hbz, by omega, fun _ => ⟨rfl, HSO.out.symm⟩⟩, fun _ => by rw [HIX.out]; exact HG.out⟩
        exact ((hn5.far (p := ⟨w.heap.size + 2, 0, none⟩) (by show _ ≠ w.heap.size + 2; omega) _).far (p := ⟨w.heap.size + 2, 1, none⟩) (by show _ ≠ w.heap.size + 2; omega) _).far (p := ⟨w.heap.size + 2, 2, none⟩) (by show _ ≠ w.heap.size + 2; omega) _
    · have q9 : (op == 9) = false := by rw [beq_eq_false_iff_ne]; exact h9
      have hwt : wantI ds ⟨op, ks, nn, dd, nm⟩ = kidsF op := by rw [wantI, if_neg h9]
      rw [HWT.out, HKF.out] at hwt
      have HWX := Lib.hid hwt
      have H9 := Lib.hid h9
      clear hwt h9
      go_wp2_with fail
      go_meet
      obtain ⟨hb0, hk0, hn0, hd0, hs0⟩ := three_boxes3 w #[.slice A1 n1 c1, .slice (some ⟨b, off, none⟩) n2 c2, .slice A3 n3 c3] #[.int .i64 op, .slice K kn kc, .int .i64 nn, .int .i64 dd, .string nm] #[.string ⟨#[]⟩, .slice none 0 0, .int .i64 0]
      exact ⟨⟨⟨#[]⟩, none, 0, 0, 0, [], by rw [HWX.out], hb0, hn0, hd0, Arr.nil_, by omega, fun e => absurd e H9.out⟩, fun e => absurd e H9.out⟩
  case rest =>
    obtain ⟨⟨dn, A3', n3', c3', so, ar, rfl, hbw, hn, hd, hiar, hn3', h9r⟩, h9i⟩ := hcut
    clear h0 h1 h2 h3 h4
    generalize wc = X at hbw hn hd hiar ⊢
    have m0 : X.cell? ⟨w.heap.size + 1, 0, none⟩ = some (.int .i64 op) := hn.cell 0
    have m1 : X.cell? ⟨w.heap.size + 1, 1, none⟩ = some (.slice K kn kc) := hn.cell 1
    have m2 : X.cell? ⟨w.heap.size + 1, 2, none⟩ = some (.int .i64 nn) := hn.cell 2
    have m3 : X.cell? ⟨w.heap.size + 1, 3, none⟩ = some (.int .i64 dd) := hn.cell 3
    have m4 : X.cell? ⟨w.heap.size + 1, 4, none⟩ = some (.string nm) := hn.cell 4
    have hz : w.heap.size + 2 < X.heap.size := hd.lt
    have HX := Lib.hid (And.intro hbw (And.intro hn (And.intro hd (And.intro hiar (And.intro hn3' (And.intro h9r h9i))))))
    have hbc : badCount ds ⟨op, ks, nn, dd, nm⟩ = decide ((0 ≤ want ∧ ¬ (kn : Int) = want) ∨ 8 < (kn : Int)) := by
      rw [badCount, HWT.out]
      congr 1
      show ((0 ≤ want ∧ ¬ ((ks.length : Nat) : Int) = want) ∨ 8 < ks.length) = _
      rw [hal]
      apply propext
      omega
    have hbe : ∃ bad : Bool, badCount ds ⟨op, ks, nn, dd, nm⟩ = bad := ⟨_, rfl⟩
    obtain ⟨bad, hbe⟩ := hbe
    have HBE := Lib.hid hbe
    have HBC := Lib.hid (hbe.symm.trans hbc)
    clear hbw hn hd hiar hn3' h9r h9i hbc hbe
    go_upto_region 12 with fail
    go_cut [63] (fun s63 wx => s63 = .bool bad ∧ wx = X)
    case first =>
      have hc : (decide (0 ≤ want) = false ∧ decide (8 < (kn : Int)) = bad) ∨ ((decide (0 ≤ want) = true ∧ ((kn : Int) != want) = true) ∧ true = bad) ∨ ((decide (0 ≤ want) = true ∧ ((kn : Int) != want) = false) ∧ decide (8 < (kn : Int)) = bad) := by
        rw [HBC.out]
        by_cases c1 : 0 ≤ want <;> by_cases c2 : (kn : Int) = want <;> by_cases c3 : 8 < (kn : Int) <;> simp [c1, c2, c3] <;> omega
      rcases hc with ⟨c1, c2⟩ | ⟨⟨c1, c2⟩, c3⟩ | ⟨⟨c1, c2⟩, c3⟩
      all_goals
        first
          | have HC := Lib.hid c3
          | have HC := Lib.hid c2
        first
          | clear c3
          | clear c2
        go_wp2_with fail
        go_meet
        exact ⟨by rw [← HC.out], rfl⟩
    case rest =>
      obtain ⟨rfl, hwx⟩ := hcut
      obtain rfl : X = wc := hwx.symm
      have hrest := HRR.out
      rw [if_neg (by rintro ⟨h, h'⟩; have := HX.out.2.2.2.2.2.2 h; omega)] at hrest
      rw [HBE.out] at hrest
      clear HRR
      cases bad with
      | true =>
        simp only [if_true, Prod.mk.injEq] at hrest
        obtain ⟨rfl, rfl⟩ := hrest
        go_wp2_with fail
        go_ret2
        exact ⟨rfl, HX.out.1⟩
      | false =>
        simp only [Bool.false_eq_true, if_false] at hrest
        have HRR := Lib.hid hrest
        have hk8 : kn ≤ 8 := by
          have := HBC.out
          simp only [Bool.false_eq, decide_eq_false_iff_not] at this
          omega
        have hco := fun h9 => count_ok (ss := ss) (x := ⟨op, ks, nn, dd, nm⟩) HBE.out h9
        have HCO := Lib.hid hco
        have HAL := Lib.hid hal
        clear hrest hco hal
        have hMK : ∀ W : World, Below X.heap.size X W → (Below w.heap.size w W ∧ Blk W (w.heap.size + 1) 59 #[.int .i64 op, .slice K kn kc, .int .i64 nn, .int .i64 dd, .string nm] ∧ Blk W (w.heap.size + 2) 61 #[.string dn, .slice A3' n3' c3', .int .i64 so] ∧ IntsB W w.heap.size A3' n3' ar) := fun W hW =>
          ⟨HX.out.1.trans (hW.mono (by omega)), HX.out.2.1.below hW (by omega), HX.out.2.2.1.below hW (by omega), HX.out.2.2.2.1.below stays_int (hW.mono (by omega)) (Nat.le_refl _)⟩
        have MK := Lib.hid hMK
        clear hMK
        have hkl : (kidSorts ss ⟨op, ks, nn, dd, nm⟩).length = kn := by simp [kidSorts, HAL.out]
        have HKL := Lib.hid hkl
        clear hkl
        go_wp2_with fail
        go_loopw [12, 67] (fun v1 s67 wr => ∃ k : Nat, k ≤ kn ∧ s67 = .int .i64 k ∧ OwnV VInt 3 1 wr X.heap.size (fun _ => False) v1 ((kidSorts ss ⟨op, ks, nn, dd, nm⟩).take k) ∧ Below X.heap.size X wr ∧ Hid ((ks.drop k).any (outside i) = ks.any (outside i))) (fun _ s67 _ => kn - (intOf s67).toNat)
        case atStart => exact ⟨0, Nat.zero_le _, rfl, OwnV.none_ _ _ _ _ _ _, Below.refl _ _, rfl⟩
        case round =>
          obtain ⟨k, hk, rfl, hown, hbel, HK⟩ := hrel
          have hbw := (MK.out wr hbel).1
          by_cases hlt : k < kn
          · obtain ⟨b3, off3, hx3, rfl, hb3, hc3, -, -⟩ := ints_get (HDS.out.2.2.below stays_int hbw (Nat.le_refl _)) hlt
            have e1 := HK.out
            rw [drop_cons hx3, List.any_cons] at e1
            have htake : ks[k] = ks[k] := rfl
            have hmap : (kidSorts ss ⟨op, ks, nn, dd, nm⟩).take (k + 1) = (kidSorts ss ⟨op, ks, nn, dd, nm⟩).take k ++ [ss.getD (ks[k]).toNat 0] := by
              rw [take_snoc_l (by rw [HKL.out]; exact hlt)]
              simp [kidSorts]
            have HMAP := Lib.hid hmap
            clear htake hmap
            generalize ks[k] = y at e1 hc3 HMAP
            have hy : (y < 0 ∧ outside i y = true) ∨ ((0 ≤ y ∧ (i : Int) ≤ y) ∧ outside i y = true) ∨ ((0 ≤ y ∧ y < (i : Int)) ∧ outside i y = false) := by
              simp only [outside, decide_eq_true_eq, decide_eq_false_iff_not]; omega
            have hkI2 : (k : Int) < (kn : Int) := by omega
            rcases hy with ⟨hy0, hy⟩ | ⟨⟨hy0, hy1⟩, hy⟩ | ⟨⟨hy0, hy1⟩, hy⟩
            · rw [hy, Bool.true_or] at e1
              have e2 := HRR.out
              rw [← e1] at e2
              simp only [if_true, Prod.mk.injEq] at e2
              obtain ⟨rfl, rfl⟩ := e2
              have HB := Lib.hid hbw
              clear e1 hy HK hx3 hb3 hown hbel hbw
              go_wp2_with fail
              go_ret2
              exact ⟨rfl, HB.out⟩
            · rw [hy, Bool.true_or] at e1
              have e2 := HRR.out
              rw [← e1] at e2
              simp only [if_true, Prod.mk.injEq] at e2
              obtain ⟨rfl, rfl⟩ := e2
              have HB := Lib.hid hbw
              clear e1 hy HK hx3 hb3 hown hbel hbw
              go_wp2_with fail
              go_ret2
              exact ⟨rfl, HB.out⟩
            · rw [hy, Bool.false_or] at e1
              have H1 := Lib.hid e1
              have hyn : y.toNat < i := by omega
              obtain ⟨b4, off4, hx4, rfl, hb4, hc4, hv0, hu12⟩ := ints_get (HDS.out.2.1.below stays_int hbw (Nat.le_refl _)) hyn
              have hgd : ss.getD y.toNat 0 = ss[y.toNat] := by rw [List.getD_eq_getElem?_getD, List.getElem?_eq_getElem hx4]; rfl
              rw [hgd] at HMAP
              generalize ss[y.toNat] = v at hc4 HMAP hv0 hu12
              have hbn := Blk.new wr 3 #[.int .i64 v]
              have hown2 : OwnV VInt 3 1 (wr.alloc (.cells #[.int .i64 v] 3)) X.heap.size (fun _ => False) u12 ((kidSorts ss ⟨op, ks, nn, dd, nm⟩).take k) := hown.kept tells_int (grown_of wr none _) (by cases h : u12.ownBlock with | none => exact .inl rfl | some g => exact .inr (by simp)) (S' := fun _ => False) (fun _ hb => False.elim hb)
              have hlen : ((kidSorts ss ⟨op, ks, nn, dd, nm⟩).take k).length = k := by rw [List.length_take, HKL.out]; omega
              have HO := Lib.hid (And.intro hown (And.intro hown2 (And.intro hbn (And.intro hlen (And.intro hbel (show I64 v from ⟨hv0, hu12⟩))))))
              have hbs : X.heap.size ≤ wr.heap.size := hbel.size
              clear e1 hy HK hx3 hb3 hx4 hb4 hown hown2 hbn hlen hbel hbw hgd hyn
              go_wp2_with (at_builtin; refine wpList_append_item rfl _ _ _ rfl rowInts tells_int (v := u12) (xs := (kidSorts ss ⟨op, ks, nn, dd, nm⟩).take k) (base := X.heap.size) (S := fun _ => False) rfl HO.out.2.1 (g := wr.heap.size) (cs := #[.int .i64 v]) rfl HO.out.2.2.1 (y := v) ⟨rfl, HO.out.2.2.2.2.2⟩ (fun b h => h.elim) (by rw [HO.out.2.2.2.1]; unfold maxLen; omega) (by rw [HO.out.2.2.2.1]; omega) (by simp; omega) ?_; intro v' w6 hown6 hgrow6 hat6; have HB6 := Lib.hid (And.intro hown6 hgrow6); clear hown6 hgrow6 hat6)
              go_roundw
              case rel =>
                refine ⟨k + 1, by omega, by go_num, by rw [HMAP.out]; exact HB6.out.1, ?_, H1⟩
                exact below_then (HO.out.2.2.2.2.1.alloc hbs _) HB6.out.2 (by simp; omega) (fun x hx => (HO.out.1.lt x hx).1)
              case measure => simp [intOf]; omega
          · obtain rfl : kn = k := by omega
            have e1 := HK.out
            rw [List.drop_of_length_le (by rw [HAL.out]; omega), List.any_nil] at e1
            have hrest := HRR.out
            rw [← e1] at hrest
            simp only [Bool.false_eq_true, if_false] at hrest
            have HRE := Lib.hid hrest
            have hall : (kidSorts ss ⟨op, ks, nn, dd, nm⟩).take kn = kidSorts ss ⟨op, ks, nn, dd, nm⟩ := List.take_of_length_le (by rw [HKL.out]; omega)
            rw [hall] at hown
            obtain ⟨A5, c5, rfl, hc5, hc5m, hread⟩ := hown.reads (E := AtInt) tells_int (fun _ _ _ _ _ h => atV_int.1 h) (S' := fun b => b < wr.heap.size) (fun b hb => False.elim hb) (fun g hg => (hown.lt g hg).2)
            rw [HKL.out] at hread hc5
            rw [HKL.out]
            have HRD := Lib.hid hread
            have HBL := Lib.hid hbel
            clear e1 hrest hall hown hread HK HRR
            obtain ⟨-, hna, hda, -⟩ := MK.out wr hbel
            have p0 : wr.cell? ⟨w.heap.size + 1, 0, none⟩ = some (.int .i64 op) := hna.cell 0
            have p1 : wr.cell? ⟨w.heap.size + 1, 1, none⟩ = some (.slice K kn kc) := hna.cell 1
            have p2 : wr.cell? ⟨w.heap.size + 1, 2, none⟩ = some (.int .i64 nn) := hna.cell 2
            have p3 : wr.cell? ⟨w.heap.size + 1, 3, none⟩ = some (.int .i64 dd) := hna.cell 3
            have p4 : wr.cell? ⟨w.heap.size + 1, 4, none⟩ = some (.string nm) := hna.cell 4
            have q0 : wr.cell? ⟨w.heap.size + 2, 0, none⟩ = some (.string dn) := hda.cell 0
            have q1 : wr.cell? ⟨w.heap.size + 2, 1, none⟩ = some (.slice A3' n3' c3') := hda.cell 1
            have q2 : wr.cell? ⟨w.heap.size + 2, 2, none⟩ = some (.int .i64 so) := hda.cell 2
            clear hna hda hbel hbw
            have hf1 : ∃ b : Bool, formedB op nn dd nm = b := ⟨_, rfl⟩
            obtain ⟨fb, hf1⟩ := hf1
            have hf2 : ∃ b : Bool, numbersB op nn dd = b := ⟨_, rfl⟩
            obtain ⟨nb, hf2⟩ := hf2
            have HFB := Lib.hid hf1
            have HNB := Lib.hid hf2
            clear hf1 hf2
            cases fb with
            | false =>
              have e2 := HRE.out
              have e3 : fieldsF op nn dd nm = 5 := by rw [fieldsF, if_pos HFB.out]
              rw [e3, if_pos (by omega)] at e2
              simp only [Prod.mk.injEq] at e2
              obtain ⟨rfl, rfl⟩ := e2
              clear e3
              go_wp2_with fail
              refine (formed_is _ _ _ _ _ _ _ _ HFB.out _).mono ?_
              rintro e w5 ⟨rfl, hb5⟩
              go_wp2_with fail
              go_ret2
              exact ⟨rfl, (MK.out w5 (HBL.out.trans (hb5.mono HBL.out.size))).1⟩
            | true =>
              go_wp2_with fail
              refine (formed_is _ _ _ _ _ _ _ _ HFB.out _).mono ?_
              rintro e w5 ⟨rfl, hb5⟩
              have hbX5 := HBL.out.trans (hb5.mono HBL.out.size)
              have HB5 := Lib.hid (And.intro hbX5 hb5)
              clear p0 p1 p2 p3 p4 q0 q1 q2
              obtain ⟨-, hnb, hdb, -⟩ := MK.out w5 hbX5
              have p0 : w5.cell? ⟨w.heap.size + 1, 0, none⟩ = some (.int .i64 op) := hnb.cell 0
              have p1 : w5.cell? ⟨w.heap.size + 1, 1, none⟩ = some (.slice K kn kc) := hnb.cell 1
              have p2 : w5.cell? ⟨w.heap.size + 1, 2, none⟩ = some (.int .i64 nn) := hnb.cell 2
              have p3 : w5.cell? ⟨w.heap.size + 1, 3, none⟩ = some (.int .i64 dd) := hnb.cell 3
              have p4 : w5.cell? ⟨w.heap.size + 1, 4, none⟩ = some (.string nm) := hnb.cell 4
              have q0 : w5.cell? ⟨w.heap.size + 2, 0, none⟩ = some (.string dn) := hdb.cell 0
              have q1 : w5.cell? ⟨w.heap.size + 2, 1, none⟩ = some (.slice A3' n3' c3') := hdb.cell 1
              have q2 : w5.cell? ⟨w.heap.size + 2, 2, none⟩ = some (.int .i64 so) := hdb.cell 2
              clear hnb hdb hbX5 hb5
              cases nb with
              | false =>
                have e2 := HRE.out
                have e3 : fieldsF op nn dd nm = 3 := by rw [fieldsF, if_neg (by rw [HFB.out]; simp), if_pos HNB.out]
                rw [e3, if_pos (by omega)] at e2
                simp only [Prod.mk.injEq] at e2
                obtain ⟨rfl, rfl⟩ := e2
                clear e3
                go_wp2_with fail
                refine (numbers_is _ _ _ _ _ _ _ _ HNB.out _).mono ?_
                rintro e w6 ⟨rfl, hb6⟩
                go_wp2_with fail
                go_ret2
                exact ⟨rfl, (MK.out w6 (HB5.out.1.trans (hb6.mono HB5.out.1.size))).1⟩
              | true =>
                have e2 := HRE.out
                have e3 : fieldsF op nn dd nm = 0 := by rw [fieldsF, if_neg (by rw [HFB.out]; simp), if_neg (by rw [HNB.out]; simp)]
                rw [if_neg (by rw [e3]; simp)] at e2
                have hs : ∃ R : Int, sortN ds ss ⟨op, ks, nn, dd, nm⟩ = R := ⟨_, rfl⟩
                obtain ⟨R, hs⟩ := hs
                rw [hs] at e2
                have hs2 : sortF op dd (kidSorts ss ⟨op, ks, nn, dd, nm⟩) ar so = R := by
                  rw [← hs]
                  by_cases h9 : op = 9
                  · obtain ⟨ha, hb⟩ := HX.out.2.2.2.2.2.1 h9
                    rw [ha, hb]; rfl
                  · exact sortF_free h9 _ _
                have HS2 := Lib.hid hs2
                have HE2 := Lib.hid e2
                clear e2 e3 hs hs2
                go_wp2_with fail
                refine (numbers_is _ _ _ _ _ _ _ _ HNB.out _).mono ?_
                rintro e w6 ⟨rfl, hb6⟩
                have hbX6 := HB5.out.1.trans (hb6.mono HB5.out.1.size)
                have hbr6 : Below wr.heap.size wr w6 := HB5.out.2.trans (hb6.mono HB5.out.2.size)
                have HB6 := Lib.hid (And.intro hbX6 hbr6)
                clear p0 p1 p2 p3 p4 q0 q1 q2
                obtain ⟨-, hnc, hdc, hic⟩ := MK.out w6 hbX6
                have p0 : w6.cell? ⟨w.heap.size + 1, 0, none⟩ = some (.int .i64 op) := hnc.cell 0
                have p1 : w6.cell? ⟨w.heap.size + 1, 1, none⟩ = some (.slice K kn kc) := hnc.cell 1
                have p2 : w6.cell? ⟨w.heap.size + 1, 2, none⟩ = some (.int .i64 nn) := hnc.cell 2
                have p3 : w6.cell? ⟨w.heap.size + 1, 3, none⟩ = some (.int .i64 dd) := hnc.cell 3
                have p4 : w6.cell? ⟨w.heap.size + 1, 4, none⟩ = some (.string nm) := hnc.cell 4
                have q0 : w6.cell? ⟨w.heap.size + 2, 0, none⟩ = some (.string dn) := hdc.cell 0
                have q1 : w6.cell? ⟨w.heap.size + 2, 1, none⟩ = some (.slice A3' n3' c3') := hdc.cell 1
                have q2 : w6.cell? ⟨w.heap.size + 2, 2, none⟩ = some (.int .i64 so) := hdc.cell 2
                have HI6 := Lib.hid (And.intro hic ((HRD.out.keep stays_int (S' := fun b => b < w6.heap.size) (fun b hb => Nat.lt_of_lt_of_le hb hbr6.size) (fun b o hb => hbr6.cell (p := ⟨b, o, none⟩) hb))))
                clear hnc hdc hbX6 hbr6 hb6 hic
                go_wp2_with fail
                refine (sort_is op nn dd nm K kn kc A5 kn c5 (kidSorts ss ⟨op, ks, nn, dd, nm⟩) dn A3' n3' c3' so ar w6 R HS2.out ho1 ho2 HI6.out.2 hk8 HCO.out (fun h15 => ?_) (fun _ => HI6.out.1.keep stays_int (fun b hb => by have := (MK.out w6 HB6.out.1).1.size; omega) (fun _ _ _ => rfl)) HX.out.2.2.2.2.1).mono ?_
                · have := HNB.out
                  subst h15
                  rw [numbersB, if_neg (by omega), if_pos rfl] at this
                  simp only [decide_eq_true_eq] at this
                  exact ⟨this.1, this.2.1⟩
                rintro e w7 ⟨rfl, hb7⟩
                have HB7 : Hid (Below w.heap.size w w7) := (MK.out w7 (HB6.out.1.trans (hb7.mono HB6.out.1.size))).1
                clear hb7
                cases hz0 : (R == 0) with
                | true =>
                  have e2 := HE2.out
                  rw [if_pos (by simpa using hz0)] at e2
                  simp only [Prod.mk.injEq] at e2
                  obtain ⟨rfl, rfl⟩ := e2
                  go_wp2_with fail
                  go_ret2
                  exact ⟨rfl, HB7.out⟩
                | false =>
                  have e2 := HE2.out
                  rw [if_neg (by simpa using hz0)] at e2
                  simp only [Prod.mk.injEq] at e2
                  obtain ⟨rfl, rfl⟩ := e2
                  go_wp2_with fail
                  go_ret2
                  exact ⟨rfl, HB7.out⟩
end Go.Proofs.Ythooecojopfjbaa
