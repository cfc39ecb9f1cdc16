/- Contracts of the reference's Sets and Prime, for at most 1000 rows of at most 6 valid signs and at most 1000 terms. -/
import Derived.Deep.DeepCutAuto
import Derived.Deep.LoopGhost
import Derived.Test.YtkkliemgidhgmaaDoorQW
import Derived.Test.YtkkliemgidhgmaaDoorZN
namespace Go.Proofs.YtkkliemgidhgmaaDoor
open Go.RowKit

def setB (t : List Int) (k : Nat) : Bool := decide (1 ≤ t.getD k 0) && decide (t.getD k 0 ≤ 7)
def termOk (x : Int) (t : List Int) : Bool := decide ((t.length : Int) = x) && allTo (setB t) t.length
def setsB (x : Int) (ts : List (List Int)) : Bool := allTo (fun k => termOk x (ts.getD k [])) ts.length

theorem Tryd.infoInt : (Tryd.prog.info? 3).map (fun i => (i.zero, i.size, i.bytes)) = some (some (.int .i64 0), 1, 8) := by kernel_rfl

def okBit (t : List Int) (k : Nat) (rows : List (List Int × Bool)) (b : Int) : Bool := !(bits .and .i64 (t.getD k 0) b == 0) || falseB (t.set k (bits .or .i64 (t.getD k 0) b)) rows
def primeAt (t : List Int) (rows : List (List Int × Bool)) (k : Nat) : Bool := okBit t k rows 1 && okBit t k rows 2 && okBit t k rows 4
def primeT (t : List Int) (rows : List (List Int × Bool)) : Bool := allTo (primeAt t rows) t.length
def primeB (ts : List (List Int)) (rows : List (List Int × Bool)) : Bool := allTo (fun i => primeT (ts.getD i []) rows) ts.length

theorem next_bit {okb : Int → Bool} {x : Int} (hx : x = 1 ∨ x = 2 ∨ x = 4 ∨ x = 8) (x4 : x ≤ 4) (hb : okb x = true) (h1 : 2 ≤ x → okb 1 = true) (h2 : 4 ≤ x → okb 2 = true) :
    1 ≤ x * 2 ∧ x * 2 ≤ 8 ∧ (x * 2 = 1 ∨ x * 2 = 2 ∨ x * 2 = 4 ∨ x * 2 = 8) ∧ (2 ≤ x * 2 → okb 1 = true) ∧ (4 ≤ x * 2 → okb 2 = true) ∧ (8 ≤ x * 2 → okb 4 = true) := by
  rcases hx with rfl | rfl | rfl | rfl
  · exact ⟨by omega, by omega, by omega, fun _ => hb, by omega, by omega⟩
  · exact ⟨by omega, by omega, by omega, fun _ => h1 (by omega), fun _ => hb, by omega⟩
  · exact ⟨by omega, by omega, by omega, fun _ => h1 (by omega), fun _ => h2 (by omega), fun _ => hb⟩
  · omega
end Go.Proofs.YtkkliemgidhgmaaDoor

/- Contract of the reference's Needed, for at most 1000 rows of at most 6 valid signs and at most 1000 terms. -/
namespace Go.Proofs.YtkkliemgidhgmaaDoor
open Go.RowKit

def otherAt (ts : List (List Int)) (rows : List (List Int × Bool)) (i k j : Nat) : Bool := (j == i) || !permT (ts.getD j []) (sg rows k)
def baseAt (ts : List (List Int)) (rows : List (List Int × Bool)) (i k : Nat) : Bool := tr rows k && permT (ts.getD i []) (sg rows k)
def aloneAt (ts : List (List Int)) (rows : List (List Int × Bool)) (i k : Nat) : Bool := baseAt ts rows i k && allTo (otherAt ts rows i k) ts.length
def needT (ts : List (List Int)) (rows : List (List Int × Bool)) (i : Nat) : Bool := anyTo (aloneAt ts rows i) rows.length
def needB (ts : List (List Int)) (rows : List (List Int × Bool)) : Bool := allTo (needT ts rows) ts.length

end Go.Proofs.YtkkliemgidhgmaaDoor
