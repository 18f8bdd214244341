/- What names and schemas are right: plain definitions, no program in sight (but the shapes of its types). -/
import Derived.Test.YtdkhmnmngokmmaaK
namespace Go.Proofs.Ytdkhmnmngokmmaa.Spec
open Go.Proofs.YtdkhmnmngokmmaaW.PrintWords Go.Proofs.Ytdkhmnmngokmmaa.K

def isLet (c : Int) : Bool := (decide (65 ≤ c) && decide (c ≤ 90)) || (decide (97 ≤ c) && decide (c ≤ 122)) || c == 95
def isDig (c : Int) : Bool := decide (48 ≤ c) && decide (c ≤ 57)
def nb (j : Nat) (c : Int) : Bool := isLet c || (decide (0 < j) && isDig c)
def nameOk (s : ByteArray) : Bool := decide (1 ≤ s.size) && decide (s.size ≤ 60) && (List.range s.size).all fun j => nb j (bt s j)
theorem nameOk_all {s : ByteArray} (h : ∀ j, j < s.size → nb j (bt s j) = true) : nameOk s = (decide (1 ≤ s.size) && decide (s.size ≤ 60)) := by
  unfold nameOk
  have : (List.range s.size).all (fun j => nb j (bt s j)) = true := by
    rw [List.all_eq_true]
    intro x hx
    exact h x (List.mem_range.1 hx)
  rw [this, Bool.and_true]
theorem nameOk_not {s : ByteArray} {j : Nat} (hj : j < s.size) (h : nb j (bt s j) = false) : nameOk s = false := by
  unfold nameOk
  have : (List.range s.size).all (fun j => nb j (bt s j)) = false := by
    rw [List.all_eq_false]
    exact ⟨j, List.mem_range.2 hj, by simp [h]⟩
  rw [this, Bool.and_false]
def usable (n : Int) : Bool := decide (1 ≤ n) && decide (n ≤ 536870911) && (decide (n < 19000) || decide (19999 < n))
def kindIn (k : Int) : Bool := decide (1 ≤ k) && decide (k ≤ 17)
def isNum (k : Int) : Bool := decide (1 ≤ k) && decide (k ≤ 14)
abbrev Fld := S38
abbrev Msg := S41
/-- Is a field right behind those of its message, in a schema of n messages? -/
def fieldOk (n : Int) (prev : List Fld) (f : Fld) : Bool :=
  nameOk f.f0 && !(prev.any fun g => decide (g.f0 = f.f0)) && usable f.f1 && !(prev.any fun g => decide (g.f1 = f.f1)) && kindIn f.f2 && (!f.f4 || (f.f3 && isNum f.f2)) &&
    (if f.f2 = 17 then decide (0 ≤ f.f5) && decide (f.f5 < n) else f.f5 == 0)
def fieldsOk (n : Int) (fs : List Fld) : Bool := (List.range fs.length).all fun k => fieldOk n (fs.take k) (fs.getD k z38)
def msgOk (n : Int) (prev : List Msg) (m : Msg) : Bool := nameOk m.f0 && !(prev.any fun x => decide (x.f0 = m.f0)) && decide (m.f1.length ≤ 200) && fieldsOk n m.f1
def right (s : List Msg) : Bool := decide (1 ≤ s.length) && decide (s.length ≤ 100) && (List.range s.length).all fun i => msgOk s.length (s.take i) (s.getD i z41)
end Go.Proofs.Ytdkhmnmngokmmaa.Spec
