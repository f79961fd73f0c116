/-
  The plain model of a surety (no program): a bond, its expiry, reductions, demands; what each act does.
-/
import Derived.Test.YtcjheabcnipnlaaMark
namespace Go.Proofs.Ytcjheabcnipnlaa
open Go.RowKit

structure Dw where
  day : Int
  amount : Int
structure Dm where
  day : Int
  amount : Int
  st : Int
structure Bd where
  num : ByteArray
  gua : ByteArray
  fro : ByteArray
  to : ByteArray
  cur : ByteArray
  amt : Int
  exp : Int
structure Sty where
  b : Bd
  expiry : Int
  cuts : List Dw
  dems : List Dm
def Dw.cells (x : Dw) : List Value := [.int .i64 x.day, .int .i64 x.amount]
def Dm.cells (x : Dm) : List Value := [.int .i64 x.day, .int .i64 x.amount, .int .i64 x.st]
def Bd.cells (b : Bd) : List Value := [.string b.num, .string b.gua, .string b.fro, .string b.to, .string b.cur, .int .i64 b.amt, .int .i64 b.exp]
theorem Dw.cells_len (x : Dw) : x.cells.length = 2 := rfl
theorem Dm.cells_len (x : Dm) : x.cells.length = 3 := rfl

def Dw.ok (x : Dw) : Prop := 0 ≤ x.day ∧ x.day ≤ 1048576 ∧ 1 ≤ x.amount ∧ x.amount ≤ 1099511627776
def Dm.ok (x : Dm) : Prop := 0 ≤ x.day ∧ x.day ≤ 1048576 ∧ 1 ≤ x.amount ∧ x.amount ≤ 1099511627776 ∧ 0 ≤ x.st ∧ x.st ≤ 2

def curB (s : ByteArray) : Bool := decide (s.size = 3) && s.data.toList.all fun c => decide (65 ≤ (c.toNat : Int)) && decide ((c.toNat : Int) ≤ 90)
def dayB (d : Int) : Bool := decide (0 ≤ d) && decide (d ≤ 1048576)
def sumB (n : Int) : Bool := decide (1 ≤ n) && decide (n ≤ 1099511627776)
def namesB (b : Bd) : Bool := nameB b.num && nameB b.gua && nameB b.fro && nameB b.to
def eqB (a b : ByteArray) : Bool := a.toList == b.toList
def sameB (b : Bd) : Bool := eqB b.gua b.fro || eqB b.gua b.to || eqB b.fro b.to
def mayB (b : Bd) : Bool := namesB b && !sameB b && curB b.cur && sumB b.amt && dayB b.exp

def cutAt (day : Int) (x : Dw) : Int := if x.day ≤ day then x.amount else 0
def askAt (x : Dm) : Int := if x.st = 2 then 0 else x.amount
def cutSum (day : Int) (l : List Dw) : Int := (l.map (cutAt day)).sum
def allSum (l : List Dw) : Int := (l.map Dw.amount).sum
def askSum (l : List Dm) : Int := (l.map askAt).sum
def anyOpen (l : List Dm) : Bool := l.any fun x => decide (x.st = 0)

theorem sum_snoc {α : Type} (f : α → Int) (l : List α) (i : Nat) (h : i < l.length) : ((l.take (i + 1)).map f).sum = ((l.take i).map f).sum + f l[i] := by
  rw [List.take_succ_eq_append_getElem h]
  simp only [List.map_append, List.map_cons, List.map_nil, List.sum_append, List.sum_cons, List.sum_nil, Int.add_zero]
theorem sum_bd {α : Type} (f : α → Int) (M : Int) (l : List α) (h : ∀ x ∈ l, 0 ≤ f x ∧ f x ≤ M) : 0 ≤ (l.map f).sum ∧ (l.map f).sum ≤ l.length * M := by
  induction l with
  | nil => simp
  | cons x r ih =>
    have h1 := ih (fun y hy => h y (by simp [hy]))
    have hx := h x (by simp)
    simp only [List.map_cons, List.sum_cons, List.length_cons, Int.natCast_add, Int.add_mul]
    omega
theorem cutSum_bd (day : Int) (l : List Dw) (h : ∀ x ∈ l, x.ok) : 0 ≤ cutSum day l ∧ cutSum day l ≤ l.length * 1099511627776 :=
  sum_bd _ _ l fun x hx => by have := h x hx; unfold Dw.ok at this; unfold cutAt; split <;> omega
theorem allSum_bd (l : List Dw) (h : ∀ x ∈ l, x.ok) : 0 ≤ allSum l ∧ allSum l ≤ l.length * 1099511627776 :=
  sum_bd _ _ l fun x hx => by have := h x hx; unfold Dw.ok at this; omega
theorem askSum_bd (l : List Dm) (h : ∀ x ∈ l, x.ok) : 0 ≤ askSum l ∧ askSum l ≤ l.length * 1099511627776 :=
  sum_bd _ _ l fun x hx => by have := h x hx; unfold Dm.ok at this; unfold askAt; split <;> omega
theorem take_ok {α : Type} {p : α → Prop} {l : List α} (h : ∀ x ∈ l, p x) (k : Nat) : ∀ x ∈ l.take k, p x := fun x hx => h x (List.mem_of_mem_take hx)

def left (s : Sty) (day : Int) : Int := max (s.b.amt - cutSum day s.cuts - askSum s.dems) 0
def expired (s : Sty) (day : Int) : Bool := decide (s.expiry < day) && !anyOpen s.dems
def rightB (sum day : Int) : Bool := sumB sum && dayB day

structure Sty.ok (s : Sty) : Prop where
  a1 : 1 ≤ s.b.amt
  a2 : s.b.amt ≤ 1099511627776
  e1 : 0 ≤ s.expiry
  e2 : s.expiry ≤ 1048576
  c1 : ∀ x ∈ s.cuts, x.ok
  d1 : ∀ x ∈ s.dems, x.ok
  c2 : s.cuts.length ≤ 4000
  d2 : s.dems.length ≤ 4000

/-- A demand: what becomes of it, its number, the error. -/
def ask (s : Sty) (by_ : ByteArray) (sum day : Int) : Sty × Int × Int :=
  if eqB by_ s.b.to = false then (s, 0, 8)
  else if rightB sum day = false then (s, 0, 3)
  else if s.expiry < day then (s, 0, 11)
  else if left s day < sum then (s, 0, 10)
  else ({ s with dems := s.dems ++ [⟨day, sum, 0⟩] }, s.dems.length, 0)
def stand (s : Sty) (n : Nat) (how : Int) : Sty := { s with dems := s.dems.set n { s.dems.getD n ⟨0, 0, 0⟩ with st := how } }
def openE (s : Sty) (n : Int) : Int := if n < 0 ∨ (s.dems.length : Int) ≤ n then 4 else if (s.dems.getD n.toNat ⟨0, 0, 0⟩).st = 0 then 0 else 9
def extend (s : Sty) (n day : Int) : Sty × Int :=
  if openE s n ≠ 0 then (s, openE s n)
  else if day ≤ s.expiry ∨ 1048576 < day then (s, 3)
  else (stand { s with expiry := day } n.toNat 2, 0)
def pay (s : Sty) (n : Int) : Sty × Int × Int :=
  if openE s n ≠ 0 then (s, 0, openE s n)
  else (stand s n.toNat 1, (s.dems.getD n.toNat ⟨0, 0, 0⟩).amount, 0)
def reduce (s : Sty) (sum day : Int) : Sty × Int :=
  if rightB sum day = false then (s, 3)
  else if s.b.amt < sum + allSum s.cuts then (s, 10)
  else ({ s with cuts := s.cuts ++ [⟨day, sum⟩] }, 0)

/-- An act: its kind modulo 4 says which. -/
structure Ac where
  kind : Int
  by_ : ByteArray
  sum : Int
  day : Int
  n : Int
def act (s : Sty) (a : Ac) : Sty × Int × Int :=
  if a.kind % 4 = 0 then ask s a.by_ a.sum a.day
  else if a.kind % 4 = 1 then ((extend s a.n a.day).1, 0, (extend s a.n a.day).2)
  else if a.kind % 4 = 2 then pay s a.n
  else ((reduce s a.sum a.day).1, 0, (reduce s a.sum a.day).2)
theorem act0 {s : Sty} {a : Ac} (h : a.kind % 4 = 0) : act s a = ask s a.by_ a.sum a.day := by unfold act; rw [if_pos h]
theorem act1 {s : Sty} {a : Ac} (h : a.kind % 4 = 1) : act s a = ((extend s a.n a.day).1, 0, (extend s a.n a.day).2) := by unfold act; rw [if_neg (by omega), if_pos h]
theorem act2 {s : Sty} {a : Ac} (h : a.kind % 4 = 2) : act s a = pay s a.n := by unfold act; rw [if_neg (by omega), if_neg (by omega), if_pos h]
theorem act3 {s : Sty} {a : Ac} (h : a.kind % 4 = 3) : act s a = ((reduce s a.sum a.day).1, 0, (reduce s a.sum a.day).2) := by unfold act; rw [if_neg (by omega), if_neg (by omega), if_neg (by omega)]
end Go.Proofs.Ytcjheabcnipnlaa
