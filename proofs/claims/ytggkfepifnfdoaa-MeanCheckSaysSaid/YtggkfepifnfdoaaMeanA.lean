/- Plain: values, meanings, worlds: what a good one is; how they lie in memory. No program is named here. -/
import Derived.Test.YtggkfepifnfdoaaFracB
import Derived.Test.YtggkfepifnfdoaaAskM
namespace Go.Proofs.Ytggkfepifnfdoaa
open Go.RowKit

structure CellD where
  at_ : Int
  it : Int
structure ValueD where
  num : Int
  den : Int
  cells : List CellD
  rest : Int
structure EntryD where
  args : List Int
  to_ : ValueD
structure MeaningD where
  rows : List EntryD
  rest : ValueD
def AtCell : Ent CellD := fun w S b o x => AtInt w S b o x.at_ ∧ AtInt w S b (o + 1) x.it
def AtValue : Ent ValueD := fun w S b o x => AtInt w S b o x.num ∧ AtInt w S b (o + 1) x.den ∧ AtArr AtCell 2 w S b (o + 2) x.cells ∧ AtInt w S b (o + 3) x.rest
def AtEntry : Ent EntryD := fun w S b o x => AtArr AtInt 1 w S b o x.args ∧ AtValue w S b (o + 1) x.to_
def AtMeaning : Ent MeaningD := fun w S b o x => AtArr AtEntry 5 w S b o x.rows ∧ AtValue w S b (o + 1) x.rest
theorem stays_cell : Stays AtCell := fun _ _ _ _ _ _ _ hS hk hb h => ⟨stays_int _ _ _ _ _ _ _ hS hk hb h.1, stays_int _ _ _ _ _ _ _ hS hk hb h.2⟩
theorem stays_value : Stays AtValue := fun _ _ _ _ _ _ _ hS hk hb h => ⟨stays_int _ _ _ _ _ _ _ hS hk hb h.1, stays_int _ _ _ _ _ _ _ hS hk hb h.2.1, stays_arr stays_cell _ _ _ _ _ _ _ hS hk hb h.2.2.1, stays_int _ _ _ _ _ _ _ hS hk hb h.2.2.2⟩
theorem stays_entry : Stays AtEntry := fun _ _ _ _ _ _ _ hS hk hb h => ⟨stays_arr stays_int _ _ _ _ _ _ _ hS hk hb h.1, stays_value _ _ _ _ _ _ _ hS hk hb h.2⟩
theorem stays_meaning : Stays AtMeaning := fun _ _ _ _ _ _ _ hS hk hb h => ⟨stays_arr stays_entry _ _ _ _ _ _ _ hS hk hb h.1, stays_value _ _ _ _ _ _ _ hS hk hb h.2⟩

theorem cells_get {w : World} {S : Nat → Prop} {A : Option Addr} {n : Nat} {xs : List CellD} (h : Arr AtCell 2 w S A n xs) {i : Nat} (hi : i < n) :
    ∃ (b off : Nat) (hx : i < xs.length), A = some ⟨b, off, none⟩ ∧ S b ∧ w.cell? ⟨b, off + i * 2, none⟩ = some (.int .i64 xs[i].at_) ∧ w.cell? ⟨b, off + i * 2 + 1, none⟩ = some (.int .i64 xs[i].it) ∧ I64 xs[i].at_ ∧ I64 xs[i].it := by
  obtain ⟨b, off, hx, e, hb, h0, h1⟩ := Arr.get h hi
  exact ⟨b, off, hx, e, hb, h0.1, h1.1, h0.2, h1.2⟩

def thingB (n : Int) : Bool := decide (0 ≤ n ∧ n ≤ 1000)
/-- may the cell c stand behind a cell at p (p below 0: it is the first) -/
def cellOk (rest p : Int) (c : CellD) : Bool := thingB c.at_ && thingB c.it && !(c.it == rest) && decide (p < c.at_)
def cellsOk (rest : Int) : Int → List CellD → Bool
  | _, [] => true
  | p, c :: r => cellOk rest p c && cellsOk rest c.at_ r
def arrB (v : ValueD) : Bool := v.num == 0 && v.den == 0 && thingB v.rest && cellsOk v.rest (-1) v.cells
def goodV (sort : Int) (v : ValueD) : Bool :=
  if sort = 5 then arrB v
  else if 0 < v.cells.length ∨ ¬ v.rest = 0 ∨ fracGood v.num v.den = false ∨ (¬ sort = 3 ∧ ¬ v.den = 1) then false
  else if sort = 1 then decide (v.num = 0 ∨ v.num = 1) else if sort = 4 then thingB v.num else if wordB sort = true then decide (0 ≤ v.num ∧ v.num < 2 ^ (sort - 10).toNat) else true
def sizeBad (k : Nat) (e : EntryD) : Bool := decide (¬ e.args.length = k)
def rangeBad (e : EntryD) : Bool := e.args.any fun n => !thingB n
def sameArgs (x y : EntryD) : Bool := decide (y.args = x.args)
def dupB (done : List EntryD) : List EntryD → Bool
  | [] => false
  | e :: r => done.any (sameArgs e) || dupB (done ++ [e]) r
def toBad (sort : Int) (e : EntryD) : Bool := !(goodV sort e.to_)
def meaningF (d : DeclD) (m : MeaningD) : Int :=
  if 1000 < m.rows.length ∨ m.rows.any (sizeBad d.args.length) = true then 9 else if m.rows.any rangeBad = true then 3
  else if dupB [] m.rows = true then 7 else if goodV d.sort m.rest = false ∨ m.rows.any (toBad d.sort) = true then 8 else 0
def meansF (a : AskD) (ms : List MeaningD) : Int × Int :=
  if ¬ (sortsF a).2.1 = 0 then (sortsF a).2 else if ¬ ms.length = a.decls.length then (9, 0) else firstBad (fun (p : DeclD × MeaningD) _ => meaningF p.1 p.2) (a.decls.zip ms) 0
end Go.Proofs.Ytggkfepifnfdoaa
