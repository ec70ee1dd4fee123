/- Plain: the sort of a node by its kids' sorts, as the program and as the reference reckon it. No program is named here. · Plain: the sorts of an ask's nodes, its first fault. No program is named here. · Plain: values, meanings, worlds: what a good one is; how they lie in memory. No program is named here. · Plain: which nodes are used: one pass downwards comes to what as many passes upwards as there are nodes come to. No program is named here. · Plain: what an ask without a fault is; marks as cells. No program is named here. -/
import Derived.Test.YthooecojopfjbaaAskGI
import Derived.Test.YthooecojopfjbaaAskJK
import Derived.Test.YthooecojopfjbaaAskEF
import Derived.Laws.MakeOwn
namespace Go.Proofs.Ythooecojopfjbaa
open Go.RowKit

def isBoolS (s : Int) : Bool := s == 1
def isIntS (s : Int) : Bool := s == 2
def allB (p : Int → Bool) (l : List Int) : Bool := !(l.any fun s => !(p s))
theorem allB_nil (p : Int → Bool) : allB p [] = true := rfl
theorem allB_cons (p : Int → Bool) (x : Int) (r : List Int) : allB p (x :: r) = (p x && allB p r) := by simp [allB]

def pickF : List Int → Int
  | [a, b, c] => if a = 1 ∧ b = c ∧ b ≠ 5 then b else 0
  | _ => 0
def sameF : List Int → Int
  | [a, b] => if (numS a && numS b) || (a == b && (a == 4 || wordB a)) then 1 else 0
  | _ => 0
def timesF (d : Int) : List Int → Int
  | [a] => if numS a then (if a = 2 ∧ d = 1 then 2 else 3) else 0
  | _ => 0
def word1F : List Int → Int
  | [a] => if wordB a then a else 0
  | _ => 0
def word2F : List Int → Int
  | [a, b] => if a = b ∧ wordB a = true then a else 0
  | _ => 0
def wlessF : List Int → Int
  | [a, b] => if a = b ∧ wordB a = true then 1 else 0
  | _ => 0
def sortF (op d : Int) (ks args : List Int) (ds : Int) : Int :=
  if op = 1 ∨ op = 2 then 1
  else if op = 3 ∨ op = 4 ∨ op = 5 ∨ op = 6 then (if allB isBoolS ks then 1 else 0)
  else if op = 7 then pickF ks else if op = 8 then sameF ks else if op = 9 then (if ks = args then ds else 0)
  else if op = 10 then (if d = 1 then 2 else 3)
  else if op = 11 then (if allB numS ks then (if allB isIntS ks then 2 else 3) else 0)
  else if op = 12 then timesF d ks
  else if op = 13 ∨ op = 14 then (if allB numS ks then 1 else 0)
  else if op = 15 then 10 + d
  else if op = 16 ∨ op = 23 then word1F ks
  else if op = 22 then wlessF ks
  else if op = 24 then (if ks = [5, 4] then 4 else 0)
  else if op = 25 then (if ks = [5, 4, 4] then 5 else 0)
  else word2F ks

/-- may a kid of sort s stand for the letter c -/
def fitsF (c : Int) (s : Int) : Bool :=
  if c = 98 then s == 1 else if c = 110 then numS s else if c = 116 then s == 4 else if c = 97 then s == 5 else if c = 119 then wordB s else true
def byteAt (W : ByteArray) (k : Nat) : Int := ((W.data.toList.getD k 0).toNat : Int)
def letterF (W : ByteArray) (k : Nat) : Int := if k < W.data.toList.length ∧ byteAt W k ≠ 42 then byteAt W k else byteAt W 0
def okOne (W : ByteArray) (h : Int) (k : Nat) (s : Int) : Bool := fitsF (letterF W k) s && !(letterF W k == 119 && s != h)
def okL (W : ByteArray) (h : Int) : Nat → List Int → Bool
  | _, [] => true
  | k, s :: r => okOne W h k s && okL W h (k + 1) r
/-- the reference's last switch -/
def endF (op d : Int) (ks : List Int) : Int :=
  if op = 7 then (match ks with
    | [_, b, c] => if b ≠ c ∨ b = 5 then 0 else b
    | _ => 0)
  else if op = 8 then (match ks with
    | [a, b] => if !(numS a && numS b) && (a != b || (a != 4 && !(wordB a))) then 0 else 1
    | _ => 0)
  else if op = 10 ∨ op = 11 ∨ op = 12 then (if allB isIntS ks = true ∧ d ≤ 1 then 2 else 3)
  else if op = 15 then 10 + d
  else if op = 16 ∨ op = 17 ∨ op = 18 ∨ op = 19 ∨ op = 20 ∨ op = 21 ∨ op = 23 then ks.headD 0
  else if op = 24 then 4 else if op = 25 then 5 else 1
def sortOfF (op d : Int) (ks : List Int) (ds : Int) : Int :=
  if op = 9 then (if ks.any notThing then 0 else ds) else if okL (wantsF op) (ks.headD 0) 0 ks then endF op d ks else 0

theorem okL_star {c : UInt8} {h : Int} (W : ByteArray) (hW : W.data.toList = [c, 42]) (hc : (c.toNat : Int) ≠ 119) (hc2 : (c.toNat : Int) ≠ 42) : ∀ (l : List Int) (k : Nat), okL W h k l = allB (fitsF (c.toNat : Int)) l
  | [], _ => rfl
  | s :: r, k => by
    have hl : letterF W k = (c.toNat : Int) := by
      unfold letterF byteAt
      rw [hW]
      rcases k with _ | _ | k
      · simp only [List.length_cons, List.length_nil, List.getD_cons_zero]
        rw [if_pos ⟨by omega, hc2⟩]
      · simp
      · simp only [List.length_cons, List.length_nil]
        rw [if_neg (by rintro ⟨h, -⟩; omega)]
        simp
    have hq : ((c.toNat : Int) == 119) = false := by rw [beq_eq_false_iff_ne]; exact hc
    rw [okL, okL_star W hW hc hc2 r (k + 1), allB_cons, okOne, hl]
    simp [hq]

theorem fits_b : fitsF 98 = isBoolS := by funext s; simp [fitsF, isBoolS]
theorem fits_n : fitsF 110 = numS := by funext s; simp [fitsF]

/-- the kids' number is what the operator wants -/
def CountOk (op : Int) (ks : List Int) : Prop := kidsF op = -1 ∨ (ks.length : Int) = kidsF op
theorem len1 {ks : List Int} (h : (ks.length : Int) = 1) : ∃ a, ks = [a] := by
  match ks, h with
  | [a], _ => exact ⟨a, rfl⟩
  | [], h => simp at h
  | _ :: _ :: _, h => simp at h; omega
theorem len2 {ks : List Int} (h : (ks.length : Int) = 2) : ∃ a b, ks = [a, b] := by
  match ks, h with
  | [a, b], _ => exact ⟨a, b, rfl⟩
  | [], h => simp at h
  | [_], h => simp at h
  | _ :: _ :: _ :: _, h => simp at h; omega
theorem len3 {ks : List Int} (h : (ks.length : Int) = 3) : ∃ a b c, ks = [a, b, c] := by
  match ks, h with
  | [a, b, c], _ => exact ⟨a, b, c, rfl⟩
  | [], h => simp at h
  | [_], h => simp at h
  | [_, _], h => simp at h
  | _ :: _ :: _ :: _ :: _, h => simp at h; omega
theorem len0 {ks : List Int} (h : (ks.length : Int) = 0) : ks = [] := by
  match ks, h with
  | [], _ => rfl
  | _ :: _, h => simp at h; omega
theorem so_1 (d : Int) (ks args : List Int) (ds : Int) (hc : CountOk 1 ks) : sortOfF 1 d ks ds = sortF 1 d ks args ds := by
  obtain rfl := len0 (ks := ks) (by simpa [CountOk, kidsF] using hc)
  simp [sortOfF, okL, endF, sortF]
theorem so_2 (d : Int) (ks args : List Int) (ds : Int) (hc : CountOk 2 ks) : sortOfF 2 d ks ds = sortF 2 d ks args ds := by
  obtain rfl := len0 (ks := ks) (by simpa [CountOk, kidsF] using hc)
  simp [sortOfF, okL, endF, sortF]
theorem so_15 (d : Int) (ks args : List Int) (ds : Int) (hc : CountOk 15 ks) : sortOfF 15 d ks ds = sortF 15 d ks args ds := by
  obtain rfl := len0 (ks := ks) (by simpa [CountOk, kidsF] using hc)
  simp [sortOfF, okL, endF, sortF]
theorem so_17 (d : Int) (ks args : List Int) (ds : Int) (hc : CountOk 17 ks) : sortOfF 17 d ks ds = sortF 17 d ks args ds := by
  obtain ⟨a, b, rfl⟩ := len2 (ks := ks) (by simpa [CountOk, kidsF] using hc)
  have l0 : letterF (wantsF 17) 0 = 119 := by decide
  have l1 : letterF (wantsF 17) 1 = 119 := by decide
  by_cases hab : a = b
  · subst hab
    cases hw : wordB a <;> simp [sortOfF, okL, okOne, l0, l1, fitsF, hw, endF, sortF, word2F]
  · have hba : ¬ b = a := fun h => hab h.symm
    simp [sortOfF, okL, okOne, l0, l1, fitsF, sortF, word2F, hab, hba]
theorem so_18 (d : Int) (ks args : List Int) (ds : Int) (hc : CountOk 18 ks) : sortOfF 18 d ks ds = sortF 18 d ks args ds := by
  obtain ⟨a, b, rfl⟩ := len2 (ks := ks) (by simpa [CountOk, kidsF] using hc)
  have l0 : letterF (wantsF 18) 0 = 119 := by decide
  have l1 : letterF (wantsF 18) 1 = 119 := by decide
  by_cases hab : a = b
  · subst hab
    cases hw : wordB a <;> simp [sortOfF, okL, okOne, l0, l1, fitsF, hw, endF, sortF, word2F]
  · have hba : ¬ b = a := fun h => hab h.symm
    simp [sortOfF, okL, okOne, l0, l1, fitsF, sortF, word2F, hab, hba]
theorem so_19 (d : Int) (ks args : List Int) (ds : Int) (hc : CountOk 19 ks) : sortOfF 19 d ks ds = sortF 19 d ks args ds := by
  obtain ⟨a, b, rfl⟩ := len2 (ks := ks) (by simpa [CountOk, kidsF] using hc)
  have l0 : letterF (wantsF 19) 0 = 119 := by decide
  have l1 : letterF (wantsF 19) 1 = 119 := by decide
  by_cases hab : a = b
  · subst hab
    cases hw : wordB a <;> simp [sortOfF, okL, okOne, l0, l1, fitsF, hw, endF, sortF, word2F]
  · have hba : ¬ b = a := fun h => hab h.symm
    simp [sortOfF, okL, okOne, l0, l1, fitsF, sortF, word2F, hab, hba]
theorem so_20 (d : Int) (ks args : List Int) (ds : Int) (hc : CountOk 20 ks) : sortOfF 20 d ks ds = sortF 20 d ks args ds := by
  obtain ⟨a, b, rfl⟩ := len2 (ks := ks) (by simpa [CountOk, kidsF] using hc)
  have l0 : letterF (wantsF 20) 0 = 119 := by decide
  have l1 : letterF (wantsF 20) 1 = 119 := by decide
  by_cases hab : a = b
  · subst hab
    cases hw : wordB a <;> simp [sortOfF, okL, okOne, l0, l1, fitsF, hw, endF, sortF, word2F]
  · have hba : ¬ b = a := fun h => hab h.symm
    simp [sortOfF, okL, okOne, l0, l1, fitsF, sortF, word2F, hab, hba]
theorem so_21 (d : Int) (ks args : List Int) (ds : Int) (hc : CountOk 21 ks) : sortOfF 21 d ks ds = sortF 21 d ks args ds := by
  obtain ⟨a, b, rfl⟩ := len2 (ks := ks) (by simpa [CountOk, kidsF] using hc)
  have l0 : letterF (wantsF 21) 0 = 119 := by decide
  have l1 : letterF (wantsF 21) 1 = 119 := by decide
  by_cases hab : a = b
  · subst hab
    cases hw : wordB a <;> simp [sortOfF, okL, okOne, l0, l1, fitsF, hw, endF, sortF, word2F]
  · have hba : ¬ b = a := fun h => hab h.symm
    simp [sortOfF, okL, okOne, l0, l1, fitsF, sortF, word2F, hab, hba]
theorem so_22 (d : Int) (ks args : List Int) (ds : Int) (hc : CountOk 22 ks) : sortOfF 22 d ks ds = sortF 22 d ks args ds := by
  obtain ⟨a, b, rfl⟩ := len2 (ks := ks) (by simpa [CountOk, kidsF] using hc)
  have l0 : letterF (wantsF 22) 0 = 119 := by decide
  have l1 : letterF (wantsF 22) 1 = 119 := by decide
  by_cases hab : a = b
  · subst hab
    cases hw : wordB a <;> simp [sortOfF, okL, okOne, l0, l1, fitsF, hw, endF, sortF, wlessF]
  · have hba : ¬ b = a := fun h => hab h.symm
    simp [sortOfF, okL, okOne, l0, l1, fitsF, sortF, wlessF, hab, hba]
theorem so_16 (d : Int) (ks args : List Int) (ds : Int) (hc : CountOk 16 ks) : sortOfF 16 d ks ds = sortF 16 d ks args ds := by
  obtain ⟨a, rfl⟩ := len1 (ks := ks) (by simpa [CountOk, kidsF] using hc)
  have l0 : letterF (wantsF 16) 0 = 119 := by decide
  cases hw : wordB a <;> simp [sortOfF, okL, okOne, l0, fitsF, hw, endF, sortF, word1F]
theorem so_23 (d : Int) (ks args : List Int) (ds : Int) (hc : CountOk 23 ks) : sortOfF 23 d ks ds = sortF 23 d ks args ds := by
  obtain ⟨a, rfl⟩ := len1 (ks := ks) (by simpa [CountOk, kidsF] using hc)
  have l0 : letterF (wantsF 23) 0 = 119 := by decide
  cases hw : wordB a <;> simp [sortOfF, okL, okOne, l0, fitsF, hw, endF, sortF, word1F]
theorem so_3 (d : Int) (ks args : List Int) (ds : Int) (hc : CountOk 3 ks) : sortOfF 3 d ks ds = sortF 3 d ks args ds := by
  obtain ⟨a, rfl⟩ := len1 (ks := ks) (by simpa [CountOk, kidsF] using hc)
  have l0 : letterF (wantsF 3) 0 = 98 := by decide
  simp [sortOfF, okL, okOne, l0, fitsF, endF, sortF, allB, isBoolS]
theorem so_6 (d : Int) (ks args : List Int) (ds : Int) (hc : CountOk 6 ks) : sortOfF 6 d ks ds = sortF 6 d ks args ds := by
  obtain ⟨a, b, rfl⟩ := len2 (ks := ks) (by simpa [CountOk, kidsF] using hc)
  have l0 : letterF (wantsF 6) 0 = 98 := by decide
  have l1 : letterF (wantsF 6) 1 = 98 := by decide
  simp [sortOfF, okL, okOne, l0, l1, fitsF, endF, sortF, allB, isBoolS]
theorem so_4 (d : Int) (ks args : List Int) (ds : Int) : sortOfF 4 d ks ds = sortF 4 d ks args ds := by
  have h : ∀ x, okL (wantsF 4) x 0 ks = allB isBoolS ks := fun x => (okL_star (c := 98) (wantsF 4) (by decide) (by decide) (by decide) ks 0).trans (by rw [show ((((98 : UInt8)).toNat : Nat) : Int) = 98 from rfl, fits_b])
  simp [sortOfF, h, endF, sortF]
theorem so_5 (d : Int) (ks args : List Int) (ds : Int) : sortOfF 5 d ks ds = sortF 5 d ks args ds := by
  have h : ∀ x, okL (wantsF 5) x 0 ks = allB isBoolS ks := fun x => (okL_star (c := 98) (wantsF 5) (by decide) (by decide) (by decide) ks 0).trans (by rw [show ((((98 : UInt8)).toNat : Nat) : Int) = 98 from rfl, fits_b])
  simp [sortOfF, h, endF, sortF]
theorem so_11 (d : Int) (ks args : List Int) (ds : Int) (hd : d ≤ 1) : sortOfF 11 d ks ds = sortF 11 d ks args ds := by
  have h : ∀ x, okL (wantsF 11) x 0 ks = allB numS ks := fun x => (okL_star (c := 110) (wantsF 11) (by decide) (by decide) (by decide) ks 0).trans (by rw [show ((((110 : UInt8)).toNat : Nat) : Int) = 110 from rfl, fits_n])
  simp [sortOfF, h, endF, sortF, hd]
theorem so_7 (d : Int) (ks args : List Int) (ds : Int) (hc : CountOk 7 ks) : sortOfF 7 d ks ds = sortF 7 d ks args ds := by
  obtain ⟨a, b, c, rfl⟩ := len3 (ks := ks) (by simpa [CountOk, kidsF] using hc)
  have l0 : letterF (wantsF 7) 0 = 98 := by decide
  have l1 : letterF (wantsF 7) 1 = 120 := by decide
  have l2 : letterF (wantsF 7) 2 = 121 := by decide
  by_cases ha : a = 1 <;> by_cases hb : b = c <;> by_cases h5 : b = 5 <;> simp [sortOfF, okL, okOne, l0, l1, l2, fitsF, endF, sortF, pickF, ha, hb, h5]
theorem so_8 (d : Int) (ks args : List Int) (ds : Int) (hc : CountOk 8 ks) : sortOfF 8 d ks ds = sortF 8 d ks args ds := by
  obtain ⟨a, b, rfl⟩ := len2 (ks := ks) (by simpa [CountOk, kidsF] using hc)
  have l0 : letterF (wantsF 8) 0 = 63 := by decide
  have l1 : letterF (wantsF 8) 1 = 63 := by decide
  by_cases hab : a = b
  · subst hab
    cases hn : numS a <;> cases hw : wordB a <;> by_cases h4 : a = 4 <;> simp [sortOfF, okL, okOne, l0, l1, fitsF, endF, sortF, sameF, hn, hw, h4]
  · cases hn : numS a <;> cases hm : numS b <;> simp [sortOfF, okL, okOne, l0, l1, fitsF, endF, sortF, sameF, hn, hm, hab]
theorem so_10 (d : Int) (ks args : List Int) (ds : Int) (hc : CountOk 10 ks) (hd : 1 ≤ d) : sortOfF 10 d ks ds = sortF 10 d ks args ds := by
  obtain rfl := len0 (ks := ks) (by simpa [CountOk, kidsF] using hc)
  have e : (d ≤ 1) = (d = 1) := propext ⟨fun h => by omega, fun h => by omega⟩
  simp [sortOfF, okL, endF, sortF, allB, e]
theorem so_12 (d : Int) (ks args : List Int) (ds : Int) (hc : CountOk 12 ks) (hd : 1 ≤ d) : sortOfF 12 d ks ds = sortF 12 d ks args ds := by
  obtain ⟨a, rfl⟩ := len1 (ks := ks) (by simpa [CountOk, kidsF] using hc)
  have l0 : letterF (wantsF 12) 0 = 110 := by decide
  have e : (d ≤ 1) = (d = 1) := propext ⟨fun h => by omega, fun h => by omega⟩
  cases hn : numS a <;> simp [sortOfF, okL, okOne, l0, fitsF, endF, sortF, timesF, allB, isIntS, e, hn]
theorem so_13 (d : Int) (ks args : List Int) (ds : Int) (hc : CountOk 13 ks) : sortOfF 13 d ks ds = sortF 13 d ks args ds := by
  obtain ⟨a, b, rfl⟩ := len2 (ks := ks) (by simpa [CountOk, kidsF] using hc)
  have l0 : letterF (wantsF 13) 0 = 110 := by decide
  have l1 : letterF (wantsF 13) 1 = 110 := by decide
  simp [sortOfF, okL, okOne, l0, l1, fitsF, endF, sortF, allB]
theorem so_14 (d : Int) (ks args : List Int) (ds : Int) (hc : CountOk 14 ks) : sortOfF 14 d ks ds = sortF 14 d ks args ds := by
  obtain ⟨a, b, rfl⟩ := len2 (ks := ks) (by simpa [CountOk, kidsF] using hc)
  have l0 : letterF (wantsF 14) 0 = 110 := by decide
  have l1 : letterF (wantsF 14) 1 = 110 := by decide
  simp [sortOfF, okL, okOne, l0, l1, fitsF, endF, sortF, allB]
theorem so_24 (d : Int) (ks args : List Int) (ds : Int) (hc : CountOk 24 ks) : sortOfF 24 d ks ds = sortF 24 d ks args ds := by
  obtain ⟨a, b, rfl⟩ := len2 (ks := ks) (by simpa [CountOk, kidsF] using hc)
  have l0 : letterF (wantsF 24) 0 = 97 := by decide
  have l1 : letterF (wantsF 24) 1 = 116 := by decide
  simp [sortOfF, okL, okOne, l0, l1, fitsF, endF, sortF]
theorem so_25 (d : Int) (ks args : List Int) (ds : Int) (hc : CountOk 25 ks) : sortOfF 25 d ks ds = sortF 25 d ks args ds := by
  obtain ⟨a, b, c, rfl⟩ := len3 (ks := ks) (by simpa [CountOk, kidsF] using hc)
  have l0 : letterF (wantsF 25) 0 = 97 := by decide
  have l1 : letterF (wantsF 25) 1 = 116 := by decide
  have l2 : letterF (wantsF 25) 2 = 116 := by decide
  simp [sortOfF, okL, okOne, l0, l1, l2, fitsF, endF, sortF]

theorem sortOf_eq {op n d : Int} {nm : ByteArray} {ks : List Int} (h1 : 1 ≤ op) (h2 : op ≤ 25) (h9 : op ≠ 9) (hc : CountOk op ks) (hf : formedB op n d nm = true) (hn : numbersB op n d = true) (args : List Int) (ds : Int) :
    sortOfF op d ks ds = sortF op d ks args ds := by
  have h : op = 1 ∨ op = 2 ∨ op = 3 ∨ op = 4 ∨ op = 5 ∨ op = 6 ∨ op = 7 ∨ op = 8 ∨ op = 10 ∨ op = 11 ∨ op = 12 ∨ op = 13 ∨ op = 14 ∨ op = 15 ∨ op = 16 ∨ op = 17 ∨ op = 18 ∨ op = 19 ∨ op = 20 ∨ op = 21 ∨ op = 22 ∨ op = 23 ∨ op = 24 ∨ op = 25 := by omega
  rcases h with rfl | rfl | rfl | rfl | rfl | rfl | rfl | rfl | rfl | rfl | rfl | rfl | rfl | rfl | rfl | rfl | rfl | rfl | rfl | rfl | rfl | rfl | rfl | rfl
  · exact so_1 _ _ _ _ hc
  · exact so_2 _ _ _ _ hc
  · exact so_3 _ _ _ _ hc
  · exact so_4 _ _ _ _
  · exact so_5 _ _ _ _
  · exact so_6 _ _ _ _ hc
  · exact so_7 _ _ _ _ hc
  · exact so_8 _ _ _ _ hc
  · exact so_10 _ _ _ _ hc (by simp [numbersB] at hn; omega)
  · exact so_11 _ _ _ _ (by simp [formedB, fracOp] at hf; omega)
  · exact so_12 _ _ _ _ hc (by simp [numbersB] at hn; omega)
  · exact so_13 _ _ _ _ hc
  · exact so_14 _ _ _ _ hc
  · exact so_15 _ _ _ _ hc
  · exact so_16 _ _ _ _ hc
  · exact so_17 _ _ _ _ hc
  · exact so_18 _ _ _ _ hc
  · exact so_19 _ _ _ _ hc
  · exact so_20 _ _ _ _ hc
  · exact so_21 _ _ _ _ hc
  · exact so_22 _ _ _ _ hc
  · exact so_23 _ _ _ _ hc
  · exact so_24 _ _ _ _ hc
  · exact so_25 _ _ _ _ hc
end Go.Proofs.Ythooecojopfjbaa
namespace Go.Proofs.Ythooecojopfjbaa
open Go.RowKit

def declAt (ds : List DeclD) (nm : ByteArray) : DeclD := ds.getD (idx (nameIs nm) ds 0).toNat ⟨⟨#[]⟩, [], 0⟩
def outside (i : Int) (k : Int) : Bool := decide (k < 0 ∨ i ≤ k)
def wantI (ds : List DeclD) (x : NodeD) : Int := if x.op = 9 then (declAt ds x.name).args.length else kidsF x.op
def badCount (ds : List DeclD) (x : NodeD) : Bool := decide ((0 ≤ wantI ds x ∧ ¬ (x.kids.length : Int) = wantI ds x) ∨ 8 < x.kids.length)
def kidSorts (ss : List Int) (x : NodeD) : List Int := x.kids.map fun k => ss.getD k.toNat 0
def sortN (ds : List DeclD) (ss : List Int) (x : NodeD) : Int := sortF x.op x.d (kidSorts ss x) (declAt ds x.name).args (declAt ds x.name).sort
/-- the sort of a node, and its fault -/
def nodeF (ds : List DeclD) (i : Nat) (ss : List Int) (x : NodeD) : Int × Int :=
  if x.op < 1 ∨ 25 < x.op then (0, 4) else if x.op = 9 ∧ idx (nameIs x.name) ds 0 < 0 then (0, 6) else if badCount ds x = true then (0, 9)
  else if x.kids.any (outside i) = true then (0, 3) else if ¬ fieldsF x.op x.n x.d x.name = 0 then (0, fieldsF x.op x.n x.d x.name)
  else if sortN ds ss x = 0 then (0, 8) else (sortN ds ss x, 0)
def nodesF (ds : List DeclD) : List NodeD → Nat → List Int → List Int × Int × Int
  | [], _, ss => (ss, 0, 0)
  | x :: r, i, ss => if (nodeF ds i ss x).2 = 0 then nodesF ds r (i + 1) (ss ++ [(nodeF ds i ss x).1]) else ([], (nodeF ds i ss x).2, i)
def holdCode (ss : List Int) (k _i : Int) : Int := if k < 0 ∨ (ss.length : Int) ≤ k then 3 else if ss.getD k.toNat 0 = 1 then 0 else 8
def holdF (ss : List Int) (l : List Int) : Int × Int := if 200 < l.length then (2, 0) else firstBad (holdCode ss) l 0
def sortsF (a : AskD) : List Int × Int × Int :=
  if ¬ (declsF a.decls).1 = 0 then ([], declsF a.decls) else if 200 < a.nodes.length then ([], 2, 0)
  else if ¬ (nodesF a.decls a.nodes 0 []).2.1 = 0 then nodesF a.decls a.nodes 0 []
  else if ¬ (holdF (nodesF a.decls a.nodes 0 []).1 a.hold).1 = 0 then ([], holdF (nodesF a.decls a.nodes 0 []).1 a.hold) else ((nodesF a.decls a.nodes 0 []).1, 0, 0)

theorem firstBad_zero {α : Type} {f : α → Int → Int} : ∀ {l : List α} {i a : Int}, firstBad f l i = (0, a) → a = 0 ∧ ∀ (j : Nat) x, l[j]? = some x → f x (i + j) = 0
  | [], i, a, h => by simp [firstBad] at h; exact ⟨h.symm, fun j x hx => by simp at hx⟩
  | y :: r, i, a, h => by
    rw [firstBad] at h
    by_cases h0 : f y i = 0
    · rw [if_pos h0] at h
      obtain ⟨ha, hr⟩ := firstBad_zero h
      refine ⟨ha, fun j x hx => ?_⟩
      rcases j with _ | j
      · simp only [List.getElem?_cons_zero, Option.some.injEq] at hx
        subst hx
        simpa using h0
      · have := hr j x (by simpa using hx)
        rw [show i + ((j + 1 : Nat) : Int) = i + 1 + (j : Int) from by omega]
        exact this
    · rw [if_neg h0] at h
      simp only [Prod.mk.injEq] at h
      exact absurd h.1 h0

/-- what is known of declarations that have no fault -/
def DeclsOk (ds : List DeclD) : Prop := ds.length ≤ 30 ∧ ∀ x ∈ ds, nameB x.name = true ∧ x.args.length ≤ 8 ∧ (∀ s ∈ x.args, s = 4) ∧ sortB x.sort = true ∧ (x.sort = 5 → x.args = [])
theorem declsF_ok {ds : List DeclD} (h : (declsF ds).1 = 0) : DeclsOk ds := by
  unfold declsF at h
  by_cases h30 : 30 < ds.length
  · rw [if_pos h30] at h; simp at h
  · rw [if_neg h30] at h
    obtain ⟨-, hr⟩ := firstBad_zero (f := declCode ds) (l := ds) (i := 0) (a := (firstBad (declCode ds) ds 0).2) (Prod.ext h rfl)
    refine ⟨by omega, fun x hx => ?_⟩
    obtain ⟨j, hj, hjx⟩ := List.getElem_of_mem hx
    have hc := hr j x (by rw [List.getElem?_eq_getElem hj, hjx])
    rw [Int.zero_add, declCode] at hc
    by_cases q1 : nameB x.name = false
    · rw [if_pos q1] at hc; simp at hc
    rw [if_neg q1] at hc
    by_cases q2 : (ds.take (j : Int).toNat).any (nameIs x.name) = true
    · rw [if_pos q2] at hc; simp at hc
    rw [if_neg q2] at hc
    by_cases q3 : 8 < x.args.length
    · rw [if_pos q3] at hc; simp at hc
    rw [if_neg q3] at hc
    by_cases q4 : sortB x.sort = false ∨ x.args.any notThing = true ∨ (x.sort = 5 ∧ 0 < x.args.length)
    · rw [if_pos q4] at hc; simp at hc
    simp only [not_or, not_and, Bool.not_eq_true, Bool.not_eq_false] at q1 q4
    obtain ⟨q5, q6, q7⟩ := q4
    refine ⟨q1, by omega, fun s hs => ?_, q5, fun e => ?_⟩
    · have := List.any_eq_false.1 q6 s hs
      simpa [notThing] using this
    · have := q7 e
      exact List.eq_nil_of_length_eq_zero (by omega)
theorem idx_get {α : Type} {p : α → Bool} : ∀ {l : List α} {i : Int}, 0 ≤ i → 0 ≤ idx p l i → ∃ k : Nat, ∃ x : α, idx p l i = i + k ∧ l[k]? = some x ∧ p x = true
  | [], i, _, h => by simp [idx] at h
  | y :: r, i, hi, h => by
    rw [idx] at h ⊢
    cases hy : p y with
    | true => exact ⟨0, y, by simp, rfl, hy⟩
    | false =>
      simp only [hy, Bool.false_eq_true, if_false] at h ⊢
      obtain ⟨k, x, e, hx, hp⟩ := idx_get (by omega) h
      exact ⟨k + 1, x, by omega, by simpa using hx, hp⟩
theorem idx_neg {α : Type} {p : α → Bool} : ∀ {l : List α} {i : Int}, 0 ≤ i → idx p l i < 0 → idx p l i = -1
  | [], i, _, _ => rfl
  | y :: r, i, hi, h => by
    rw [idx] at h ⊢
    cases hy : p y with
    | true => simp [hy] at h; omega
    | false =>
      simp only [hy, Bool.false_eq_true, if_false] at h ⊢
      exact idx_neg (by omega) h
theorem declAt_mem {ds : List DeclD} {nm : ByteArray} (h : 0 ≤ idx (nameIs nm) ds 0) : ∃ k : Nat, idx (nameIs nm) ds 0 = k ∧ ds[k]? = some (declAt ds nm) ∧ nameIs nm (declAt ds nm) = true := by
  obtain ⟨k, x, e, hx, hp⟩ := idx_get (by omega) h
  rw [Int.zero_add] at e
  have : declAt ds nm = x := by rw [declAt, e, Int.toNat_natCast, List.getD_eq_getElem?_getD, hx]; rfl
  exact ⟨k, e, by rw [this]; exact hx, by rw [this]; exact hp⟩

/-- the reference's sort of a node is the program's -/
theorem sortN_eq {ds : List DeclD} {ss : List Int} {x : NodeD} (hd : DeclsOk ds) (h1 : 1 ≤ x.op) (h2 : x.op ≤ 25) (h9 : x.op = 9 → 0 ≤ idx (nameIs x.name) ds 0) (hc : badCount ds x = false) (hf : fieldsF x.op x.n x.d x.name = 0) :
    sortOfF x.op x.d (kidSorts ss x) (declAt ds x.name).sort = sortN ds ss x := by
  simp only [badCount, decide_eq_false_iff_not, not_or, not_and, Classical.not_not] at hc
  have hlen : (kidSorts ss x).length = x.kids.length := by simp [kidSorts]
  by_cases e9 : x.op = 9
  · obtain ⟨k, hk, hx, -⟩ := declAt_mem (h9 e9)
    obtain ⟨-, -, h4, -⟩ := hd.2 _ (List.mem_of_getElem? hx)
    have hw : wantI ds x = (declAt ds x.name).args.length := by rw [wantI, if_pos e9]
    have hcl := hc.1 (by omega)
    rw [hw] at hcl
    have hl2 : (kidSorts ss x).length = (declAt ds x.name).args.length := by omega
    rw [sortN, e9, sortOfF, if_pos rfl]
    have hs : sortF 9 x.d (kidSorts ss x) (declAt ds x.name).args (declAt ds x.name).sort = if kidSorts ss x = (declAt ds x.name).args then (declAt ds x.name).sort else 0 := by
      rw [sortF, if_neg (by omega), if_neg (by omega), if_neg (by omega), if_neg (by omega), if_pos rfl]
    rw [hs]
    generalize (declAt ds x.name).args = args at h4 hl2
    have hq : (kidSorts ss x = args) ↔ ¬ ((kidSorts ss x).any notThing = true) := by
      constructor
      · intro e
        rw [e]
        simp only [List.any_eq_true, not_exists, not_and]
        intro s hs
        rw [h4 s hs]; simp [notThing]
      · intro hn
        simp only [List.any_eq_true, not_exists, not_and] at hn
        refine List.ext_getElem hl2 (fun i h1 h2 => ?_)
        rw [h4 _ (List.getElem_mem h2)]
        have := hn _ (List.getElem_mem h1)
        simpa [notThing] using this
    by_cases he : kidSorts ss x = args
    · rw [if_neg (hq.1 he), if_pos he]
    · rw [if_pos (by
        cases hb : (kidSorts ss x).any notThing with
        | true => rfl
        | false => exact absurd (hq.2 (by rw [hb]; simp)) he), if_neg he]
  · have hw : wantI ds x = kidsF x.op := by rw [wantI, if_neg e9]
    rw [hw] at hc
    have hform : formedB x.op x.n x.d x.name = true := by
      cases h : formedB x.op x.n x.d x.name with
      | true => rfl
      | false => rw [fieldsF, if_pos h] at hf; simp at hf
    have hnum : numbersB x.op x.n x.d = true := by
      cases h : numbersB x.op x.n x.d with
      | true => rfl
      | false => rw [fieldsF, if_neg (by rw [hform]; simp), if_pos h] at hf; simp at hf
    refine sortOf_eq h1 h2 e9 ?_ hform hnum _ _
    by_cases hk : kidsF x.op = -1
    · exact .inl hk
    · refine .inr ?_
      rw [hlen]
      refine hc.1 ?_
      unfold kidsF at hk ⊢
      repeat' split at hk
      all_goals first | omega | (simp_all; try omega)
end Go.Proofs.Ythooecojopfjbaa
namespace Go.Proofs.Ythooecojopfjbaa
open Go.RowKit

structure CellD where
  at_ : Int
  it : Int
structure ValueD where
  num : Int
  den : Int
  cells : List CellD
  rest : Int
structure EntryD where
  args : List Int
  to_ : ValueD
structure MeaningD where
  rows : List EntryD
  rest : ValueD
def AtCell : Ent CellD := fun w S b o x => AtInt w S b o x.at_ ∧ AtInt w S b (o + 1) x.it
def AtValue : Ent ValueD := fun w S b o x => AtInt w S b o x.num ∧ AtInt w S b (o + 1) x.den ∧ AtArr AtCell 2 w S b (o + 2) x.cells ∧ AtInt w S b (o + 3) x.rest
def AtEntry : Ent EntryD := fun w S b o x => AtArr AtInt 1 w S b o x.args ∧ AtValue w S b (o + 1) x.to_
def AtMeaning : Ent MeaningD := fun w S b o x => AtArr AtEntry 5 w S b o x.rows ∧ AtValue w S b (o + 1) x.rest
theorem stays_cell : Stays AtCell := fun _ _ _ _ _ _ _ hS hk hb h => ⟨stays_int _ _ _ _ _ _ _ hS hk hb h.1, stays_int _ _ _ _ _ _ _ hS hk hb h.2⟩
theorem stays_value : Stays AtValue := fun _ _ _ _ _ _ _ hS hk hb h => ⟨stays_int _ _ _ _ _ _ _ hS hk hb h.1, stays_int _ _ _ _ _ _ _ hS hk hb h.2.1, stays_arr stays_cell _ _ _ _ _ _ _ hS hk hb h.2.2.1, stays_int _ _ _ _ _ _ _ hS hk hb h.2.2.2⟩
theorem stays_entry : Stays AtEntry := fun _ _ _ _ _ _ _ hS hk hb h => ⟨stays_arr stays_int _ _ _ _ _ _ _ hS hk hb h.1, stays_value _ _ _ _ _ _ _ hS hk hb h.2⟩
theorem stays_meaning : Stays AtMeaning := fun _ _ _ _ _ _ _ hS hk hb h => ⟨stays_arr stays_entry _ _ _ _ _ _ _ hS hk hb h.1, stays_value _ _ _ _ _ _ _ hS hk hb h.2⟩

theorem cells_get {w : World} {S : Nat → Prop} {A : Option Addr} {n : Nat} {xs : List CellD} (h : Arr AtCell 2 w S A n xs) {i : Nat} (hi : i < n) :
    ∃ (b off : Nat) (hx : i < xs.length), A = some ⟨b, off, none⟩ ∧ S b ∧ w.cell? ⟨b, off + i * 2, none⟩ = some (.int .i64 xs[i].at_) ∧ w.cell? ⟨b, off + i * 2 + 1, none⟩ = some (.int .i64 xs[i].it) ∧ I64 xs[i].at_ ∧ I64 xs[i].it := by
  obtain ⟨b, off, hx, e, hb, h0, h1⟩ := Arr.get h hi
  exact ⟨b, off, hx, e, hb, h0.1, h1.1, h0.2, h1.2⟩

def thingB (n : Int) : Bool := decide (0 ≤ n ∧ n ≤ 1000)
/-- may the cell c stand behind a cell at p (p below 0: it is the first) -/
def cellOk (rest p : Int) (c : CellD) : Bool := thingB c.at_ && thingB c.it && !(c.it == rest) && decide (p < c.at_)
def cellsOk (rest : Int) : Int → List CellD → Bool
  | _, [] => true
  | p, c :: r => cellOk rest p c && cellsOk rest c.at_ r
def arrB (v : ValueD) : Bool := v.num == 0 && v.den == 0 && thingB v.rest && cellsOk v.rest (-1) v.cells
def goodV (sort : Int) (v : ValueD) : Bool :=
  if sort = 5 then arrB v
  else if 0 < v.cells.length ∨ ¬ v.rest = 0 ∨ fracGood v.num v.den = false ∨ (¬ sort = 3 ∧ ¬ v.den = 1) then false
  else if sort = 1 then decide (v.num = 0 ∨ v.num = 1) else if sort = 4 then thingB v.num else if wordB sort = true then decide (0 ≤ v.num ∧ v.num < 2 ^ (sort - 10).toNat) else true
def sizeBad (k : Nat) (e : EntryD) : Bool := decide (¬ e.args.length = k)
def rangeBad (e : EntryD) : Bool := e.args.any fun n => !thingB n
def sameArgs (x y : EntryD) : Bool := decide (y.args = x.args)
def dupB (done : List EntryD) : List EntryD → Bool
  | [] => false
  | e :: r => done.any (sameArgs e) || dupB (done ++ [e]) r
def toBad (sort : Int) (e : EntryD) : Bool := !(goodV sort e.to_)
def meaningF (d : DeclD) (m : MeaningD) : Int :=
  if 1000 < m.rows.length ∨ m.rows.any (sizeBad d.args.length) = true then 9 else if m.rows.any rangeBad = true then 3
  else if dupB [] m.rows = true then 7 else if goodV d.sort m.rest = false ∨ m.rows.any (toBad d.sort) = true then 8 else 0
def meansF (a : AskD) (ms : List MeaningD) : Int × Int :=
  if ¬ (sortsF a).2.1 = 0 then (sortsF a).2 else if ¬ ms.length = a.decls.length then (9, 0) else firstBad (fun (p : DeclD × MeaningD) _ => meaningF p.1 p.2) (a.decls.zip ms) 0
end Go.Proofs.Ythooecojopfjbaa
namespace Go.Proofs.Ythooecojopfjbaa
open Go.RowKit

def markAll : List Int → List Bool → List Bool
  | [], ms => ms
  | k :: r, ms => markAll r (ms.set k.toNat true)
def kidsAt (nodes : List NodeD) (i : Nat) : List Int := match nodes[i]? with
  | some x => x.kids
  | none => []
def stepM (nodes : List NodeD) (ms : List Bool) (i : Nat) : List Bool := if ms.getD i false = true then markAll (kidsAt nodes i) ms else ms
/-- from node i - 1 on downwards -/
def downM (nodes : List NodeD) : Nat → List Bool → List Bool
  | 0, ms => ms
  | i + 1, ms => downM nodes i (stepM nodes ms i)
/-- from node i on upwards, so many -/
def upM (nodes : List NodeD) : Nat → Nat → List Bool → List Bool
  | _, 0, ms => ms
  | i, c + 1, ms => upM nodes (i + 1) c (stepM nodes ms i)
def passes (nodes : List NodeD) : Nat → List Bool → List Bool
  | 0, ms => ms
  | p + 1, ms => passes nodes p (upM nodes 0 nodes.length ms)

def Le (a b : List Bool) : Prop := a.length = b.length ∧ ∀ i, a.getD i false = true → b.getD i false = true
theorem Le.refl (a : List Bool) : Le a a := ⟨rfl, fun _ h => h⟩
theorem Le.trans {a b c : List Bool} (h : Le a b) (k : Le b c) : Le a c := ⟨h.1.trans k.1, fun i hi => k.2 i (h.2 i hi)⟩
theorem Le.antisymm {a b : List Bool} (h : Le a b) (k : Le b a) : a = b := by
  refine List.ext_getElem h.1 (fun i h1 h2 => ?_)
  have e1 : a.getD i false = a[i] := by rw [List.getD_eq_getElem?_getD, List.getElem?_eq_getElem h1]; rfl
  have e2 : b.getD i false = b[i] := by rw [List.getD_eq_getElem?_getD, List.getElem?_eq_getElem h2]; rfl
  have f1 := h.2 i
  have f2 := k.2 i
  rw [e1, e2] at f1 f2
  cases ha : a[i] <;> cases hb : b[i] <;> simp_all
theorem set_getD (ms : List Bool) (k i : Nat) : (ms.set k true).getD i false = ((decide (k = i) && decide (i < ms.length)) || ms.getD i false) := by
  rw [List.getD_eq_getElem?_getD, List.getD_eq_getElem?_getD, List.getElem?_set]
  by_cases h : k = i
  · subst h
    by_cases hl : k < ms.length
    · simp [hl]
    · simp [hl]
  · simp [h]
theorem markAll_len : ∀ (l : List Int) (ms : List Bool), (markAll l ms).length = ms.length
  | [], _ => rfl
  | k :: r, ms => by rw [markAll, markAll_len r, List.length_set]
theorem markAll_get : ∀ (l : List Int) (ms : List Bool) (i : Nat), (markAll l ms).getD i false = true ↔ (ms.getD i false = true ∨ (i < ms.length ∧ ∃ k ∈ l, k.toNat = i))
  | [], ms, i => by simp [markAll]
  | k :: r, ms, i => by
    rw [markAll, markAll_get r, set_getD, List.length_set]
    simp only [Bool.or_eq_true, Bool.and_eq_true, decide_eq_true_eq, List.mem_cons, exists_eq_or_imp]
    constructor
    · rintro ((⟨h1, h2⟩ | h) | ⟨h1, h2⟩)
      · exact .inr ⟨h2, .inl h1⟩
      · exact .inl h
      · exact .inr ⟨h1, .inr h2⟩
    · rintro (h | ⟨h1, h2 | h2⟩)
      · exact .inl (.inr h)
      · exact .inl (.inl ⟨h2, h1⟩)
      · exact .inr ⟨h1, h2⟩
theorem stepM_len (nodes : List NodeD) (ms : List Bool) (i : Nat) : (stepM nodes ms i).length = ms.length := by
  unfold stepM; split
  · exact markAll_len _ _
  · rfl
theorem stepM_get (nodes : List NodeD) (ms : List Bool) (i j : Nat) : (stepM nodes ms i).getD j false = true ↔ (ms.getD j false = true ∨ (ms.getD i false = true ∧ j < ms.length ∧ ∃ k ∈ kidsAt nodes i, k.toNat = j)) := by
  unfold stepM
  by_cases h : ms.getD i false = true
  · rw [if_pos h, markAll_get]
    constructor
    · rintro (h1 | h1)
      · exact .inl h1
      · exact .inr ⟨h, h1⟩
    · rintro (h1 | ⟨-, h1⟩)
      · exact .inl h1
      · exact .inr h1
  · rw [if_neg h]
    constructor
    · exact .inl
    · rintro (h1 | ⟨h1, -⟩)
      · exact h1
      · exact absurd h1 h
theorem stepM_le (nodes : List NodeD) (ms : List Bool) (i : Nat) : Le ms (stepM nodes ms i) := ⟨(stepM_len nodes ms i).symm, fun j h => (stepM_get nodes ms i j).2 (.inl h)⟩
theorem stepM_mono (nodes : List NodeD) {a b : List Bool} (h : Le a b) (i : Nat) : Le (stepM nodes a i) (stepM nodes b i) :=
  ⟨by rw [stepM_len, stepM_len, h.1], fun j hj => by
    rcases (stepM_get nodes a i j).1 hj with h1 | ⟨h1, h2, h3⟩
    · exact (stepM_get nodes b i j).2 (.inl (h.2 j h1))
    · exact (stepM_get nodes b i j).2 (.inr ⟨h.2 i h1, by rw [← h.1]; exact h2, h3⟩)⟩
theorem downM_len (nodes : List NodeD) : ∀ (i : Nat) (ms : List Bool), (downM nodes i ms).length = ms.length
  | 0, _ => rfl
  | i + 1, ms => by rw [downM, downM_len nodes i, stepM_len]
theorem downM_le (nodes : List NodeD) : ∀ (i : Nat) (ms : List Bool), Le ms (downM nodes i ms)
  | 0, ms => Le.refl ms
  | i + 1, ms => (stepM_le nodes ms i).trans (downM_le nodes i _)
/-- kids stand below their node -/
def KidsLow (nodes : List NodeD) : Prop := ∀ (i : Nat) (x : NodeD), nodes[i]? = some x → ∀ k ∈ x.kids, 0 ≤ k ∧ k < (i : Int)
theorem kidsAt_low {nodes : List NodeD} (h : KidsLow nodes) {i : Nat} {k : Int} (hk : k ∈ kidsAt nodes i) : 0 ≤ k ∧ k < (i : Int) := by
  unfold kidsAt at hk
  split at hk
  · rename_i x hx
    exact h i x hx k hk
  · simp at hk
/-- what a downward pass from i on does not touch -/
theorem downM_high {nodes : List NodeD} (hl : KidsLow nodes) : ∀ (i : Nat) (ms : List Bool) (j : Nat), i ≤ j + 1 → (downM nodes i ms).getD j false = ms.getD j false
  | 0, ms, j, _ => rfl
  | i + 1, ms, j, hij => by
    rw [downM, downM_high hl i _ j (by omega), Bool.eq_iff_iff, stepM_get]
    constructor
    · rintro (h | ⟨-, -, k, hk, e⟩)
      · exact h
      · have := kidsAt_low hl hk
        omega
    · exact .inl
/-- below i: marked at the end is marked before, or a kid of one that is marked, between -/
theorem downM_why {nodes : List NodeD} (hl : KidsLow nodes) : ∀ (i : Nat) (ms : List Bool) (j : Nat), (downM nodes i ms).getD j false = true → ms.getD j false = true ∨ ∃ a, j < a ∧ a < i ∧ (downM nodes i ms).getD a false = true ∧ ∃ k ∈ kidsAt nodes a, k.toNat = j
  | 0, ms, j, h => .inl h
  | i + 1, ms, j, h => by
    rw [downM] at h
    rcases downM_why hl i _ j h with h1 | ⟨a, h1, h2, h3, h4⟩
    · rcases (stepM_get nodes ms i j).1 h1 with h5 | ⟨h5, -, k, hk, e⟩
      · exact .inl h5
      · have := kidsAt_low hl hk
        refine .inr ⟨i, by omega, by omega, ?_, k, hk, e⟩
        rw [downM, downM_high hl i _ i (by omega)]
        exact (stepM_get nodes ms i i).2 (.inl h5)
    · exact .inr ⟨a, h1, by omega, by rw [downM]; exact h3, h4⟩
/-- what is marked at the end has its kids marked -/
theorem downM_closed {nodes : List NodeD} (hl : KidsLow nodes) : ∀ (i : Nat) (ms : List Bool) (a : Nat), a < i → (downM nodes i ms).getD a false = true → ∀ k ∈ kidsAt nodes a, k.toNat < ms.length → (downM nodes i ms).getD k.toNat false = true
  | 0, _, a, ha, _, _, _, _ => by omega
  | i + 1, ms, a, ha, h, k, hk, hkl => by
    rw [downM] at h ⊢
    rcases Nat.lt_or_ge a i with hlt | hge
    · exact downM_closed hl i _ a hlt h k hk (by rw [stepM_len]; exact hkl)
    · obtain rfl : a = i := by omega
      rw [downM_high hl a _ a (by omega)] at h
      have h0 : ms.getD a false = true := by
        rcases (stepM_get nodes ms a a).1 h with h5 | ⟨h5, -⟩
        · exact h5
        · exact h5
      exact (downM_le nodes a _).2 _ ((stepM_get nodes ms a k.toNat).2 (.inr ⟨h0, hkl, k, hk, rfl⟩))
theorem stepM_fix {nodes : List NodeD} (hl : KidsLow nodes) (ms : List Bool) (a : Nat) (ha : a < nodes.length) : Le (stepM nodes (downM nodes nodes.length ms) a) (downM nodes nodes.length ms) :=
  ⟨stepM_len _ _ _, fun j hj => by
    rcases (stepM_get nodes _ a j).1 hj with h1 | ⟨h1, h2, k, hk, rfl⟩
    · exact h1
    · exact downM_closed hl nodes.length ms a ha h1 k hk (by rw [downM_len] at h2; exact h2)⟩
theorem upM_len (nodes : List NodeD) : ∀ (c i : Nat) (ms : List Bool), (upM nodes i c ms).length = ms.length
  | 0, _, _ => rfl
  | c + 1, i, ms => by rw [upM, upM_len nodes c, stepM_len]
theorem upM_le (nodes : List NodeD) : ∀ (c i : Nat) (ms : List Bool), Le ms (upM nodes i c ms)
  | 0, _, ms => Le.refl ms
  | c + 1, i, ms => (stepM_le nodes ms i).trans (upM_le nodes c (i + 1) _)
theorem upM_below {nodes : List NodeD} {F : List Bool} (hF : ∀ a, a < nodes.length → Le (stepM nodes F a) F) : ∀ (c i : Nat) (ms : List Bool), i + c ≤ nodes.length → Le ms F → Le (upM nodes i c ms) F
  | 0, _, _, _, h => h
  | c + 1, i, ms, hic, h => upM_below hF c (i + 1) _ (by omega) ((stepM_mono nodes h i).trans (hF i (by omega)))
/-- in a pass upwards the kids of what is marked are marked -/
theorem upM_kids (nodes : List NodeD) : ∀ (c i : Nat) (ms : List Bool) (a : Nat), i ≤ a → a < i + c → ms.getD a false = true → ∀ k ∈ kidsAt nodes a, k.toNat < ms.length → (upM nodes i c ms).getD k.toNat false = true
  | 0, i, _, a, h1, h2, _, _, _, _ => by omega
  | c + 1, i, ms, a, h1, h2, h, k, hk, hkl => by
    rw [upM]
    rcases Nat.eq_or_lt_of_le h1 with rfl | hlt
    · exact (upM_le nodes c (i + 1) _).2 _ ((stepM_get nodes ms i k.toNat).2 (.inr ⟨h, hkl, k, hk, rfl⟩))
    · exact upM_kids nodes c (i + 1) _ a hlt (by omega) ((stepM_le nodes ms i).2 a h) k hk (by rw [stepM_len]; exact hkl)
theorem passes_le (nodes : List NodeD) : ∀ (p : Nat) (ms : List Bool), Le ms (passes nodes p ms)
  | 0, ms => Le.refl ms
  | p + 1, ms => (upM_le nodes nodes.length 0 ms).trans (passes_le nodes p _)
theorem passes_below {nodes : List NodeD} {F : List Bool} (hF : ∀ a, a < nodes.length → Le (stepM nodes F a) F) : ∀ (p : Nat) (ms : List Bool), Le ms F → Le (passes nodes p ms) F
  | 0, _, h => h
  | p + 1, _, h => passes_below hF p _ (upM_below hF nodes.length 0 _ (by omega) h)
/-- after so many passes all is marked that must be, from so far above on -/
theorem passes_reach {nodes : List NodeD} (hl : KidsLow nodes) {m0 : List Bool} (hn : nodes.length = m0.length) : ∀ (p : Nat) (ms : List Bool) (q : Nat), Le m0 ms → (∀ j, nodes.length ≤ j + q → (downM nodes nodes.length m0).getD j false = true → ms.getD j false = true) →
    ∀ j, nodes.length ≤ j + (q + p) → (downM nodes nodes.length m0).getD j false = true → (passes nodes p ms).getD j false = true
  | 0, ms, q, _, h, j, hj, hF => h j (by omega) hF
  | p + 1, ms, q, hle, h, j, hj, hF => by
    rw [passes]
    refine passes_reach hl hn p _ (q + 1) (hle.trans (upM_le nodes nodes.length 0 ms)) (fun j hj hF => ?_) j (by omega) hF
    rcases downM_why hl nodes.length m0 j hF with h1 | ⟨a, h1, h2, h3, k, hk, e⟩
    · exact (upM_le nodes nodes.length 0 ms).2 j (hle.2 j h1)
    · have ha := h a (by omega) h3
      subst e
      refine upM_kids nodes nodes.length 0 ms a (Nat.zero_le _) (by omega) ha k hk ?_
      have := kidsAt_low hl hk
      have := hle.1
      omega
theorem used_eq {nodes : List NodeD} (hl : KidsLow nodes) {m0 : List Bool} (hn : nodes.length = m0.length) : passes nodes nodes.length m0 = downM nodes nodes.length m0 := by
  refine Le.antisymm (passes_below (fun a ha => stepM_fix hl m0 a ha) _ _ (downM_le nodes _ m0)) ⟨by rw [downM_len]; exact (passes_le nodes _ m0).1, fun j hj => ?_⟩
  exact passes_reach hl hn nodes.length m0 0 (Le.refl m0) (fun j hj hF => by
    rcases downM_why hl nodes.length m0 j hF with h1 | ⟨a, h1, h2, -⟩
    · exact h1
    · omega) j (by omega) hj
end Go.Proofs.Ythooecojopfjbaa
namespace Go.Proofs.Ythooecojopfjbaa
open Go.RowKit

theorem nodeF_low {ds : List DeclD} {i : Nat} {ss : List Int} {x : NodeD} (h : (nodeF ds i ss x).2 = 0) : x.kids.any (outside i) = false := by
  unfold nodeF at h
  split at h
  · simp at h
  split at h
  · simp at h
  split at h
  · simp at h
  split at h
  · simp at h
  · rename_i hh
    simpa using hh
theorem nodesF_ok {ds : List DeclD} : ∀ (l : List NodeD) (i : Nat) (ss : List Int), (nodesF ds l i ss).2.1 = 0 → (nodesF ds l i ss).1.length = ss.length + l.length ∧ ∀ (j : Nat) (x : NodeD), l[j]? = some x → ∀ k ∈ x.kids, 0 ≤ k ∧ k < ((i + j : Nat) : Int)
  | [], i, ss, _ => ⟨rfl, fun j x hx => by simp at hx⟩
  | y :: r, i, ss, h => by
    rw [nodesF] at h ⊢
    by_cases hc : (nodeF ds i ss y).2 = 0
    · rw [if_pos hc] at h ⊢
      obtain ⟨h1, h2⟩ := nodesF_ok r (i + 1) _ h
      refine ⟨by rw [h1]; simp only [List.length_append, List.length_cons, List.length_nil]; omega, fun j x hx k hk => ?_⟩
      rcases j with _ | j
      · simp only [List.getElem?_cons_zero, Option.some.injEq] at hx
        subst hx
        have := List.any_eq_false.1 (nodeF_low hc) k hk
        simp only [outside, decide_eq_true_eq] at this
        omega
      · have := h2 j x (by simpa using hx) k hk
        omega
    · rw [if_neg hc] at h
      exact absurd h hc
/-- what an ask is that has no fault -/
theorem sortsF_ok {a : AskD} (h : (sortsF a).2.1 = 0) : (sortsF a).2 = (0, 0) ∧ (sortsF a).1.length = a.nodes.length ∧ KidsLow a.nodes ∧ (∀ k ∈ a.hold, 0 ≤ k ∧ k < (a.nodes.length : Int)) ∧ a.nodes.length ≤ 200 ∧ a.hold.length ≤ 200 ∧ DeclsOk a.decls := by
  unfold sortsF at h ⊢
  by_cases h1 : (declsF a.decls).1 = 0
  · rw [if_neg (by simpa using h1)] at h ⊢
    by_cases h2 : 200 < a.nodes.length
    · rw [if_pos h2] at h; simp at h
    rw [if_neg h2] at h ⊢
    by_cases h3 : (nodesF a.decls a.nodes 0 []).2.1 = 0
    · rw [if_neg (by simpa using h3)] at h ⊢
      obtain ⟨h5, h6⟩ := nodesF_ok a.nodes 0 [] h3
      by_cases h4 : (holdF (nodesF a.decls a.nodes 0 []).1 a.hold).1 = 0
      · rw [if_neg (by simpa using h4)]
        simp only [List.length_nil, Nat.zero_add] at h5
        refine ⟨rfl, h5, fun i x hx k hk => by simpa using h6 i x hx k hk, fun k hk => ?_, by omega, ?_, declsF_ok h1⟩
        · unfold holdF at h4
          split at h4
          · simp at h4
          · obtain ⟨-, hr⟩ := firstBad_zero (f := holdCode (nodesF a.decls a.nodes 0 []).1) (l := a.hold) (i := 0) (a := (firstBad (holdCode (nodesF a.decls a.nodes 0 []).1) a.hold 0).2) (Prod.ext h4 rfl)
            obtain ⟨j, hj, hjx⟩ := List.getElem_of_mem hk
            have hc := hr j k (by rw [List.getElem?_eq_getElem hj, hjx])
            unfold holdCode at hc
            rw [h5] at hc
            split at hc
            · simp at hc
            · omega
        · unfold holdF at h4
          split at h4
          · simp at h4
          · omega
      · rw [if_pos (by simpa using h4)] at h
        exact absurd h h4
    · rw [if_pos (by simpa using h3)] at h
      exact absurd h h3
  · rw [if_pos (by simpa using h1)] at h
    exact absurd h h1

/-- marks as cells -/
def boolsC (ms : List Bool) : Array Value := (ms.map Value.bool).toArray
theorem boolsC_set (ms : List Bool) (i : Nat) : (boolsC ms).setIfInBounds i (.bool true) = boolsC (ms.set i true) := by
  simp [boolsC, List.map_set]
theorem boolsC_get {ms : List Bool} {i : Nat} (h : i < ms.length) : (boolsC ms)[i]? = some (.bool (ms.getD i false)) := by
  simp [boolsC, List.getElem?_eq_getElem h]
theorem made_bools (n : Nat) : madeCells (Value.bool false).cells (n * 1) = boolsC (List.replicate n false) := by
  refine Array.ext (by simp [size_madeCells, boolsC]) (fun i h1 h2 => ?_)
  simp [madeCells, boolsC, Value.cells, Nat.mod_one]
theorem marks_set {w : World} {g i : Nat} {t : TypeId} {ms : List Bool} (h : Blk w g t (boolsC ms)) : Blk (w.setCell ⟨g, i, none⟩ (.bool true)) g t (boolsC (ms.set i true)) := by
  rw [← boolsC_set]; exact h.set_ i (.bool true)
theorem marks_cell {w : World} {g i : Nat} {t : TypeId} {ms : List Bool} (h : Blk w g t (boolsC ms)) (hi : i < ms.length) : w.cell? ⟨g, i, none⟩ = some (.bool (ms.getD i false)) := (h.cell i).trans (boolsC_get hi)
/-- marks in memory read as a list -/
theorem marks_arr {w : World} {g : Nat} {t : TypeId} {ms : List Bool} {S : Nat → Prop} (h : Blk w g t (boolsC ms)) (hS : S g) : Arr AtBool 1 w S (some ⟨g, 0, none⟩) ms.length ms :=
  ⟨rfl, fun i x hx => ⟨g, 0, rfl, hS, by
    have hi := (List.getElem?_eq_some_iff.1 hx).1
    have hc := marks_cell h hi
    rw [List.getD_eq_getElem?_getD, hx] at hc
    rw [Nat.zero_add, Nat.mul_one]
    exact hc⟩⟩
end Go.Proofs.Ythooecojopfjbaa
