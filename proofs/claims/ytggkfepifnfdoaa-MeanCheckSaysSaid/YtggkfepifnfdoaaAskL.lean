/- Plain: the sort of a node by its kids' sorts, as the program and as the reference reckon it. No program is named here. -/
import Derived.Test.YtggkfepifnfdoaaAskI
import Derived.Test.YtggkfepifnfdoaaAskJ
namespace Go.Proofs.Ytggkfepifnfdoaa
open Go.RowKit

def isBoolS (s : Int) : Bool := s == 1
def isIntS (s : Int) : Bool := s == 2
def allB (p : Int → Bool) (l : List Int) : Bool := !(l.any fun s => !(p s))
theorem allB_nil (p : Int → Bool) : allB p [] = true := rfl
theorem allB_cons (p : Int → Bool) (x : Int) (r : List Int) : allB p (x :: r) = (p x && allB p r) := by simp [allB]

def pickF : List Int → Int
  | [a, b, c] => if a = 1 ∧ b = c ∧ b ≠ 5 then b else 0
  | _ => 0
def sameF : List Int → Int
  | [a, b] => if (numS a && numS b) || (a == b && (a == 4 || wordB a)) then 1 else 0
  | _ => 0
def timesF (d : Int) : List Int → Int
  | [a] => if numS a then (if a = 2 ∧ d = 1 then 2 else 3) else 0
  | _ => 0
def word1F : List Int → Int
  | [a] => if wordB a then a else 0
  | _ => 0
def word2F : List Int → Int
  | [a, b] => if a = b ∧ wordB a = true then a else 0
  | _ => 0
def wlessF : List Int → Int
  | [a, b] => if a = b ∧ wordB a = true then 1 else 0
  | _ => 0
def sortF (op d : Int) (ks args : List Int) (ds : Int) : Int :=
  if op = 1 ∨ op = 2 then 1
  else if op = 3 ∨ op = 4 ∨ op = 5 ∨ op = 6 then (if allB isBoolS ks then 1 else 0)
  else if op = 7 then pickF ks else if op = 8 then sameF ks else if op = 9 then (if ks = args then ds else 0)
  else if op = 10 then (if d = 1 then 2 else 3)
  else if op = 11 then (if allB numS ks then (if allB isIntS ks then 2 else 3) else 0)
  else if op = 12 then timesF d ks
  else if op = 13 ∨ op = 14 then (if allB numS ks then 1 else 0)
  else if op = 15 then 10 + d
  else if op = 16 ∨ op = 23 then word1F ks
  else if op = 22 then wlessF ks
  else if op = 24 then (if ks = [5, 4] then 4 else 0)
  else if op = 25 then (if ks = [5, 4, 4] then 5 else 0)
  else word2F ks

/-- may a kid of sort s stand for the letter c -/
def fitsF (c : Int) (s : Int) : Bool :=
  if c = 98 then s == 1 else if c = 110 then numS s else if c = 116 then s == 4 else if c = 97 then s == 5 else if c = 119 then wordB s else true
def byteAt (W : ByteArray) (k : Nat) : Int := ((W.data.toList.getD k 0).toNat : Int)
def letterF (W : ByteArray) (k : Nat) : Int := if k < W.data.toList.length ∧ byteAt W k ≠ 42 then byteAt W k else byteAt W 0
def okOne (W : ByteArray) (h : Int) (k : Nat) (s : Int) : Bool := fitsF (letterF W k) s && !(letterF W k == 119 && s != h)
def okL (W : ByteArray) (h : Int) : Nat → List Int → Bool
  | _, [] => true
  | k, s :: r => okOne W h k s && okL W h (k + 1) r
/-- the reference's last switch -/
def endF (op d : Int) (ks : List Int) : Int :=
  if op = 7 then (match ks with
    | [_, b, c] => if b ≠ c ∨ b = 5 then 0 else b
    | _ => 0)
  else if op = 8 then (match ks with
    | [a, b] => if !(numS a && numS b) && (a != b || (a != 4 && !(wordB a))) then 0 else 1
    | _ => 0)
  else if op = 10 ∨ op = 11 ∨ op = 12 then (if allB isIntS ks = true ∧ d ≤ 1 then 2 else 3)
  else if op = 15 then 10 + d
  else if op = 16 ∨ op = 17 ∨ op = 18 ∨ op = 19 ∨ op = 20 ∨ op = 21 ∨ op = 23 then ks.headD 0
  else if op = 24 then 4 else if op = 25 then 5 else 1
def sortOfF (op d : Int) (ks : List Int) (ds : Int) : Int :=
  if op = 9 then (if ks.any notThing then 0 else ds) else if okL (wantsF op) (ks.headD 0) 0 ks then endF op d ks else 0

theorem okL_star {c : UInt8} {h : Int} (W : ByteArray) (hW : W.data.toList = [c, 42]) (hc : (c.toNat : Int) ≠ 119) (hc2 : (c.toNat : Int) ≠ 42) : ∀ (l : List Int) (k : Nat), okL W h k l = allB (fitsF (c.toNat : Int)) l
  | [], _ => rfl
  | s :: r, k => by
    have hl : letterF W k = (c.toNat : Int) := by
      unfold letterF byteAt
      rw [hW]
      rcases k with _ | _ | k
      · simp only [List.length_cons, List.length_nil, List.getD_cons_zero]
        rw [if_pos ⟨by omega, hc2⟩]
      · simp
      · simp only [List.length_cons, List.length_nil]
        rw [if_neg (by rintro ⟨h, -⟩; omega)]
        simp
    have hq : ((c.toNat : Int) == 119) = false := by rw [beq_eq_false_iff_ne]; exact hc
    rw [okL, okL_star W hW hc hc2 r (k + 1), allB_cons, okOne, hl]
    simp [hq]

theorem fits_b : fitsF 98 = isBoolS := by funext s; simp [fitsF, isBoolS]
theorem fits_n : fitsF 110 = numS := by funext s; simp [fitsF]

/-- the kids' number is what the operator wants -/
def CountOk (op : Int) (ks : List Int) : Prop := kidsF op = -1 ∨ (ks.length : Int) = kidsF op
theorem len1 {ks : List Int} (h : (ks.length : Int) = 1) : ∃ a, ks = [a] := by
  match ks, h with
  | [a], _ => exact ⟨a, rfl⟩
  | [], h => simp at h
  | _ :: _ :: _, h => simp at h; omega
theorem len2 {ks : List Int} (h : (ks.length : Int) = 2) : ∃ a b, ks = [a, b] := by
  match ks, h with
  | [a, b], _ => exact ⟨a, b, rfl⟩
  | [], h => simp at h
  | [_], h => simp at h
  | _ :: _ :: _ :: _, h => simp at h; omega
theorem len3 {ks : List Int} (h : (ks.length : Int) = 3) : ∃ a b c, ks = [a, b, c] := by
  match ks, h with
  | [a, b, c], _ => exact ⟨a, b, c, rfl⟩
  | [], h => simp at h
  | [_], h => simp at h
  | [_, _], h => simp at h
  | _ :: _ :: _ :: _ :: _, h => simp at h; omega
theorem len0 {ks : List Int} (h : (ks.length : Int) = 0) : ks = [] := by
  match ks, h with
  | [], _ => rfl
  | _ :: _, h => simp at h; omega
theorem so_1 (d : Int) (ks args : List Int) (ds : Int) (hc : CountOk 1 ks) : sortOfF 1 d ks ds = sortF 1 d ks args ds := by
  obtain rfl := len0 (ks := ks) (by simpa [CountOk, kidsF] using hc)
  simp [sortOfF, okL, endF, sortF]
theorem so_2 (d : Int) (ks args : List Int) (ds : Int) (hc : CountOk 2 ks) : sortOfF 2 d ks ds = sortF 2 d ks args ds := by
  obtain rfl := len0 (ks := ks) (by simpa [CountOk, kidsF] using hc)
  simp [sortOfF, okL, endF, sortF]
theorem so_15 (d : Int) (ks args : List Int) (ds : Int) (hc : CountOk 15 ks) : sortOfF 15 d ks ds = sortF 15 d ks args ds := by
  obtain rfl := len0 (ks := ks) (by simpa [CountOk, kidsF] using hc)
  simp [sortOfF, okL, endF, sortF]
theorem so_17 (d : Int) (ks args : List Int) (ds : Int) (hc : CountOk 17 ks) : sortOfF 17 d ks ds = sortF 17 d ks args ds := by
  obtain ⟨a, b, rfl⟩ := len2 (ks := ks) (by simpa [CountOk, kidsF] using hc)
  have l0 : letterF (wantsF 17) 0 = 119 := by decide
  have l1 : letterF (wantsF 17) 1 = 119 := by decide
  by_cases hab : a = b
  · subst hab
    cases hw : wordB a <;> simp [sortOfF, okL, okOne, l0, l1, fitsF, hw, endF, sortF, word2F]
  · have hba : ¬ b = a := fun h => hab h.symm
    simp [sortOfF, okL, okOne, l0, l1, fitsF, sortF, word2F, hab, hba]
theorem so_18 (d : Int) (ks args : List Int) (ds : Int) (hc : CountOk 18 ks) : sortOfF 18 d ks ds = sortF 18 d ks args ds := by
  obtain ⟨a, b, rfl⟩ := len2 (ks := ks) (by simpa [CountOk, kidsF] using hc)
  have l0 : letterF (wantsF 18) 0 = 119 := by decide
  have l1 : letterF (wantsF 18) 1 = 119 := by decide
  by_cases hab : a = b
  · subst hab
    cases hw : wordB a <;> simp [sortOfF, okL, okOne, l0, l1, fitsF, hw, endF, sortF, word2F]
  · have hba : ¬ b = a := fun h => hab h.symm
    simp [sortOfF, okL, okOne, l0, l1, fitsF, sortF, word2F, hab, hba]
theorem so_19 (d : Int) (ks args : List Int) (ds : Int) (hc : CountOk 19 ks) : sortOfF 19 d ks ds = sortF 19 d ks args ds := by
  obtain ⟨a, b, rfl⟩ := len2 (ks := ks) (by simpa [CountOk, kidsF] using hc)
  have l0 : letterF (wantsF 19) 0 = 119 := by decide
  have l1 : letterF (wantsF 19) 1 = 119 := by decide
  by_cases hab : a = b
  · subst hab
    cases hw : wordB a <;> simp [sortOfF, okL, okOne, l0, l1, fitsF, hw, endF, sortF, word2F]
  · have hba : ¬ b = a := fun h => hab h.symm
    simp [sortOfF, okL, okOne, l0, l1, fitsF, sortF, word2F, hab, hba]
theorem so_20 (d : Int) (ks args : List Int) (ds : Int) (hc : CountOk 20 ks) : sortOfF 20 d ks ds = sortF 20 d ks args ds := by
  obtain ⟨a, b, rfl⟩ := len2 (ks := ks) (by simpa [CountOk, kidsF] using hc)
  have l0 : letterF (wantsF 20) 0 = 119 := by decide
  have l1 : letterF (wantsF 20) 1 = 119 := by decide
  by_cases hab : a = b
  · subst hab
    cases hw : wordB a <;> simp [sortOfF, okL, okOne, l0, l1, fitsF, hw, endF, sortF, word2F]
  · have hba : ¬ b = a := fun h => hab h.symm
    simp [sortOfF, okL, okOne, l0, l1, fitsF, sortF, word2F, hab, hba]
theorem so_21 (d : Int) (ks args : List Int) (ds : Int) (hc : CountOk 21 ks) : sortOfF 21 d ks ds = sortF 21 d ks args ds := by
  obtain ⟨a, b, rfl⟩ := len2 (ks := ks) (by simpa [CountOk, kidsF] using hc)
  have l0 : letterF (wantsF 21) 0 = 119 := by decide
  have l1 : letterF (wantsF 21) 1 = 119 := by decide
  by_cases hab : a = b
  · subst hab
    cases hw : wordB a <;> simp [sortOfF, okL, okOne, l0, l1, fitsF, hw, endF, sortF, word2F]
  · have hba : ¬ b = a := fun h => hab h.symm
    simp [sortOfF, okL, okOne, l0, l1, fitsF, sortF, word2F, hab, hba]
theorem so_22 (d : Int) (ks args : List Int) (ds : Int) (hc : CountOk 22 ks) : sortOfF 22 d ks ds = sortF 22 d ks args ds := by
  obtain ⟨a, b, rfl⟩ := len2 (ks := ks) (by simpa [CountOk, kidsF] using hc)
  have l0 : letterF (wantsF 22) 0 = 119 := by decide
  have l1 : letterF (wantsF 22) 1 = 119 := by decide
  by_cases hab : a = b
  · subst hab
    cases hw : wordB a <;> simp [sortOfF, okL, okOne, l0, l1, fitsF, hw, endF, sortF, wlessF]
  · have hba : ¬ b = a := fun h => hab h.symm
    simp [sortOfF, okL, okOne, l0, l1, fitsF, sortF, wlessF, hab, hba]
theorem so_16 (d : Int) (ks args : List Int) (ds : Int) (hc : CountOk 16 ks) : sortOfF 16 d ks ds = sortF 16 d ks args ds := by
  obtain ⟨a, rfl⟩ := len1 (ks := ks) (by simpa [CountOk, kidsF] using hc)
  have l0 : letterF (wantsF 16) 0 = 119 := by decide
  cases hw : wordB a <;> simp [sortOfF, okL, okOne, l0, fitsF, hw, endF, sortF, word1F]
theorem so_23 (d : Int) (ks args : List Int) (ds : Int) (hc : CountOk 23 ks) : sortOfF 23 d ks ds = sortF 23 d ks args ds := by
  obtain ⟨a, rfl⟩ := len1 (ks := ks) (by simpa [CountOk, kidsF] using hc)
  have l0 : letterF (wantsF 23) 0 = 119 := by decide
  cases hw : wordB a <;> simp [sortOfF, okL, okOne, l0, fitsF, hw, endF, sortF, word1F]
theorem so_3 (d : Int) (ks args : List Int) (ds : Int) (hc : CountOk 3 ks) : sortOfF 3 d ks ds = sortF 3 d ks args ds := by
  obtain ⟨a, rfl⟩ := len1 (ks := ks) (by simpa [CountOk, kidsF] using hc)
  have l0 : letterF (wantsF 3) 0 = 98 := by decide
  simp [sortOfF, okL, okOne, l0, fitsF, endF, sortF, allB, isBoolS]
theorem so_6 (d : Int) (ks args : List Int) (ds : Int) (hc : CountOk 6 ks) : sortOfF 6 d ks ds = sortF 6 d ks args ds := by
  obtain ⟨a, b, rfl⟩ := len2 (ks := ks) (by simpa [CountOk, kidsF] using hc)
  have l0 : letterF (wantsF 6) 0 = 98 := by decide
  have l1 : letterF (wantsF 6) 1 = 98 := by decide
  simp [sortOfF, okL, okOne, l0, l1, fitsF, endF, sortF, allB, isBoolS]
theorem so_4 (d : Int) (ks args : List Int) (ds : Int) : sortOfF 4 d ks ds = sortF 4 d ks args ds := by
  have h : ∀ x, okL (wantsF 4) x 0 ks = allB isBoolS ks := fun x => (okL_star (c := 98) (wantsF 4) (by decide) (by decide) (by decide) ks 0).trans (by rw [show ((((98 : UInt8)).toNat : Nat) : Int) = 98 from rfl, fits_b])
  simp [sortOfF, h, endF, sortF]
theorem so_5 (d : Int) (ks args : List Int) (ds : Int) : sortOfF 5 d ks ds = sortF 5 d ks args ds := by
  have h : ∀ x, okL (wantsF 5) x 0 ks = allB isBoolS ks := fun x => (okL_star (c := 98) (wantsF 5) (by decide) (by decide) (by decide) ks 0).trans (by rw [show ((((98 : UInt8)).toNat : Nat) : Int) = 98 from rfl, fits_b])
  simp [sortOfF, h, endF, sortF]
theorem so_11 (d : Int) (ks args : List Int) (ds : Int) (hd : d ≤ 1) : sortOfF 11 d ks ds = sortF 11 d ks args ds := by
  have h : ∀ x, okL (wantsF 11) x 0 ks = allB numS ks := fun x => (okL_star (c := 110) (wantsF 11) (by decide) (by decide) (by decide) ks 0).trans (by rw [show ((((110 : UInt8)).toNat : Nat) : Int) = 110 from rfl, fits_n])
  simp [sortOfF, h, endF, sortF, hd]
theorem so_7 (d : Int) (ks args : List Int) (ds : Int) (hc : CountOk 7 ks) : sortOfF 7 d ks ds = sortF 7 d ks args ds := by
  obtain ⟨a, b, c, rfl⟩ := len3 (ks := ks) (by simpa [CountOk, kidsF] using hc)
  have l0 : letterF (wantsF 7) 0 = 98 := by decide
  have l1 : letterF (wantsF 7) 1 = 120 := by decide
  have l2 : letterF (wantsF 7) 2 = 121 := by decide
  by_cases ha : a = 1 <;> by_cases hb : b = c <;> by_cases h5 : b = 5 <;> simp [sortOfF, okL, okOne, l0, l1, l2, fitsF, endF, sortF, pickF, ha, hb, h5]
theorem so_8 (d : Int) (ks args : List Int) (ds : Int) (hc : CountOk 8 ks) : sortOfF 8 d ks ds = sortF 8 d ks args ds := by
  obtain ⟨a, b, rfl⟩ := len2 (ks := ks) (by simpa [CountOk, kidsF] using hc)
  have l0 : letterF (wantsF 8) 0 = 63 := by decide
  have l1 : letterF (wantsF 8) 1 = 63 := by decide
  by_cases hab : a = b
  · subst hab
    cases hn : numS a <;> cases hw : wordB a <;> by_cases h4 : a = 4 <;> simp [sortOfF, okL, okOne, l0, l1, fitsF, endF, sortF, sameF, hn, hw, h4]
  · cases hn : numS a <;> cases hm : numS b <;> simp [sortOfF, okL, okOne, l0, l1, fitsF, endF, sortF, sameF, hn, hm, hab]
theorem so_10 (d : Int) (ks args : List Int) (ds : Int) (hc : CountOk 10 ks) (hd : 1 ≤ d) : sortOfF 10 d ks ds = sortF 10 d ks args ds := by
  obtain rfl := len0 (ks := ks) (by simpa [CountOk, kidsF] using hc)
  have e : (d ≤ 1) = (d = 1) := propext ⟨fun h => by omega, fun h => by omega⟩
  simp [sortOfF, okL, endF, sortF, allB, e]
theorem so_12 (d : Int) (ks args : List Int) (ds : Int) (hc : CountOk 12 ks) (hd : 1 ≤ d) : sortOfF 12 d ks ds = sortF 12 d ks args ds := by
  obtain ⟨a, rfl⟩ := len1 (ks := ks) (by simpa [CountOk, kidsF] using hc)
  have l0 : letterF (wantsF 12) 0 = 110 := by decide
  have e : (d ≤ 1) = (d = 1) := propext ⟨fun h => by omega, fun h => by omega⟩
  cases hn : numS a <;> simp [sortOfF, okL, okOne, l0, fitsF, endF, sortF, timesF, allB, isIntS, e, hn]
theorem so_13 (d : Int) (ks args : List Int) (ds : Int) (hc : CountOk 13 ks) : sortOfF 13 d ks ds = sortF 13 d ks args ds := by
  obtain ⟨a, b, rfl⟩ := len2 (ks := ks) (by simpa [CountOk, kidsF] using hc)
  have l0 : letterF (wantsF 13) 0 = 110 := by decide
  have l1 : letterF (wantsF 13) 1 = 110 := by decide
  simp [sortOfF, okL, okOne, l0, l1, fitsF, endF, sortF, allB]
theorem so_14 (d : Int) (ks args : List Int) (ds : Int) (hc : CountOk 14 ks) : sortOfF 14 d ks ds = sortF 14 d ks args ds := by
  obtain ⟨a, b, rfl⟩ := len2 (ks := ks) (by simpa [CountOk, kidsF] using hc)
  have l0 : letterF (wantsF 14) 0 = 110 := by decide
  have l1 : letterF (wantsF 14) 1 = 110 := by decide
  simp [sortOfF, okL, okOne, l0, l1, fitsF, endF, sortF, allB]
theorem so_24 (d : Int) (ks args : List Int) (ds : Int) (hc : CountOk 24 ks) : sortOfF 24 d ks ds = sortF 24 d ks args ds := by
  obtain ⟨a, b, rfl⟩ := len2 (ks := ks) (by simpa [CountOk, kidsF] using hc)
  have l0 : letterF (wantsF 24) 0 = 97 := by decide
  have l1 : letterF (wantsF 24) 1 = 116 := by decide
  simp [sortOfF, okL, okOne, l0, l1, fitsF, endF, sortF]
theorem so_25 (d : Int) (ks args : List Int) (ds : Int) (hc : CountOk 25 ks) : sortOfF 25 d ks ds = sortF 25 d ks args ds := by
  obtain ⟨a, b, c, rfl⟩ := len3 (ks := ks) (by simpa [CountOk, kidsF] using hc)
  have l0 : letterF (wantsF 25) 0 = 97 := by decide
  have l1 : letterF (wantsF 25) 1 = 116 := by decide
  have l2 : letterF (wantsF 25) 2 = 116 := by decide
  simp [sortOfF, okL, okOne, l0, l1, l2, fitsF, endF, sortF]

theorem sortOf_eq {op n d : Int} {nm : ByteArray} {ks : List Int} (h1 : 1 ≤ op) (h2 : op ≤ 25) (h9 : op ≠ 9) (hc : CountOk op ks) (hf : formedB op n d nm = true) (hn : numbersB op n d = true) (args : List Int) (ds : Int) :
    sortOfF op d ks ds = sortF op d ks args ds := by
  have h : op = 1 ∨ op = 2 ∨ op = 3 ∨ op = 4 ∨ op = 5 ∨ op = 6 ∨ op = 7 ∨ op = 8 ∨ op = 10 ∨ op = 11 ∨ op = 12 ∨ op = 13 ∨ op = 14 ∨ op = 15 ∨ op = 16 ∨ op = 17 ∨ op = 18 ∨ op = 19 ∨ op = 20 ∨ op = 21 ∨ op = 22 ∨ op = 23 ∨ op = 24 ∨ op = 25 := by omega
  rcases h with rfl | rfl | rfl | rfl | rfl | rfl | rfl | rfl | rfl | rfl | rfl | rfl | rfl | rfl | rfl | rfl | rfl | rfl | rfl | rfl | rfl | rfl | rfl | rfl
  · exact so_1 _ _ _ _ hc
  · exact so_2 _ _ _ _ hc
  · exact so_3 _ _ _ _ hc
  · exact so_4 _ _ _ _
  · exact so_5 _ _ _ _
  · exact so_6 _ _ _ _ hc
  · exact so_7 _ _ _ _ hc
  · exact so_8 _ _ _ _ hc
  · exact so_10 _ _ _ _ hc (by simp [numbersB] at hn; omega)
  · exact so_11 _ _ _ _ (by simp [formedB, fracOp] at hf; omega)
  · exact so_12 _ _ _ _ hc (by simp [numbersB] at hn; omega)
  · exact so_13 _ _ _ _ hc
  · exact so_14 _ _ _ _ hc
  · exact so_15 _ _ _ _ hc
  · exact so_16 _ _ _ _ hc
  · exact so_17 _ _ _ _ hc
  · exact so_18 _ _ _ _ hc
  · exact so_19 _ _ _ _ hc
  · exact so_20 _ _ _ _ hc
  · exact so_21 _ _ _ _ hc
  · exact so_22 _ _ _ _ hc
  · exact so_23 _ _ _ _ hc
  · exact so_24 _ _ _ _ hc
  · exact so_25 _ _ _ _ hc
end Go.Proofs.Ytggkfepifnfdoaa
