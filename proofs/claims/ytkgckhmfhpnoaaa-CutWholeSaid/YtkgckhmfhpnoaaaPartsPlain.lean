/-
  The plain laws of a message's parts. No program.
-/
import Derived.Test.YtkgckhmfhpnoaaaFl
import Derived.Laws.AppendOwn
namespace Go.CutP
open Go.Fl

/-- A kind, a place and a number. -/
abbrev Part := Nat × Nat × Nat

def ends (p : Part) : Nat := p.2.1 + p.2.2
/-- Where the next part begins. -/
def tot (L : List Part) : Nat := match L.getLast? with | some p => ends p | none => 0
/-- A part of so many more, behind. -/
def add (L : List Part) (k n : Nat) : List Part := L ++ [(k, tot L, n)]

theorem tot_add (L : List Part) (k n : Nat) : tot (add L k n) = tot L + n := by simp [tot, add, ends]
theorem add_length (L : List Part) (k n : Nat) : (add L k n).length = L.length + 1 := by simp [add]

def cells (f : Nat → Nat) (L : List Part) : List Value := L.flatMap fun p => [.int .i64 (p.1 : Int), .complex .f64 (f p.2.1) (f p.2.2)]

theorem cells_append (f : Nat → Nat) (L M : List Part) : cells f (L ++ M) = cells f L ++ cells f M := by simp [cells]
theorem cells_length (f : Nat → Nat) (L : List Part) : (cells f L).length = L.length * 2 := by
  induction L with
  | nil => rfl
  | cons p L ih =>
    have : cells f (p :: L) = [.int .i64 (p.1 : Int), .complex .f64 (f p.2.1) (f p.2.2)] ++ cells f L := rfl
    rw [this, List.length_append, ih]; simp; omega
theorem cells_add (f : Nat → Nat) (L : List Part) (k n : Nat) : cells f (add L k n) = cells f L ++ [.int .i64 (k : Int), .complex .f64 (f (tot L)) (f n)] := by
  simp [add, cells_append]; rfl
theorem cells_at (f : Nat → Nat) (L : List Part) (i : Nat) (p : Part) (h : L[i]? = some p) :
    (cells f L)[i * 2]? = some (.int .i64 (p.1 : Int)) ∧ (cells f L)[i * 2 + 1]? = some (.complex .f64 (f p.2.1) (f p.2.2)) := by
  induction L generalizing i with
  | nil => cases h
  | cons q L ih =>
    have e : cells f (q :: L) = .int .i64 (q.1 : Int) :: .complex .f64 (f q.2.1) (f q.2.2) :: cells f L := rfl
    rw [e]
    match i with
    | 0 => simp at h; subst h; simp
    | i + 1 =>
      have := ih i (by simpa using h)
      rw [show (i + 1) * 2 = i * 2 + 1 + 1 by omega]
      simpa using this

/-- The reference's parts, as cells. -/
def cellsR (L : List Part) : List Value := L.flatMap fun p => [.int .i64 (p.1 : Int), .int .i64 (p.2.1 : Int), .int .i64 (p.2.2 : Int)]

theorem cellsR_append (L M : List Part) : cellsR (L ++ M) = cellsR L ++ cellsR M := by simp [cellsR]
theorem cellsR_add (L : List Part) (k n : Nat) : cellsR (add L k n) = cellsR L ++ [.int .i64 (k : Int), .int .i64 (tot L : Int), .int .i64 (n : Int)] := by
  simp [add, cellsR_append]; rfl
theorem cellsR_at (L : List Part) (i : Nat) (p : Part) (h : L[i]? = some p) :
    (cellsR L)[i * 3]? = some (.int .i64 (p.1 : Int)) ∧ (cellsR L)[i * 3 + 1]? = some (.int .i64 (p.2.1 : Int)) ∧ (cellsR L)[i * 3 + 2]? = some (.int .i64 (p.2.2 : Int)) := by
  induction L generalizing i with
  | nil => cases h
  | cons q L ih =>
    have e : cellsR (q :: L) = .int .i64 (q.1 : Int) :: .int .i64 (q.2.1 : Int) :: .int .i64 (q.2.2 : Int) :: cellsR L := rfl
    rw [e]
    match i with
    | 0 => simp at h; subst h; simp
    | i + 1 =>
      have := ih i (by simpa using h)
      rw [show (i + 1) * 3 = i * 3 + 1 + 1 + 1 by omega]
      simpa using this

/-- The pairs of a long message: so many, behind L. -/
def pairs : Nat → List Part → List Part
  | 0, L => L
  | p + 1, L => pairs p (add (add L 4 16) 5 16)

theorem pairs_snoc (p : Nat) (L : List Part) : pairs (p + 1) L = add (add (pairs p L) 4 16) 5 16 := by
  induction p generalizing L with
  | zero => rfl
  | succ p ih => rw [pairs, ih]; rfl
theorem tot_pairs (p : Nat) (L : List Part) : tot (pairs p L) = tot L + 32 * p := by
  induction p generalizing L with
  | zero => rfl
  | succ p ih => rw [pairs, ih, tot_add, tot_add]; omega
theorem pairs_length (p : Nat) (L : List Part) : (pairs p L).length = L.length + 2 * p := by
  induction p generalizing L with
  | zero => rfl
  | succ p ih => rw [pairs, ih, add_length, add_length]; omega

/-- What is left behind the pairs. -/
def rest (d : Nat) (L : List Part) : List Part :=
  if d = 0 then L else if d < 16 then add L 6 d else add (add L 6 16) 7 (d - 16)

def longL (n : Nat) : List Part := add (add (rest ((n - 32) % 32) (pairs ((n - 32) / 32) [])) 8 16) 9 16

/-- A message's parts, and an error's number. -/
def partsL (alg n : Int) : List Part × Nat :=
  if alg < 1 ∨ 3 < alg then ([], 8)
  else if n < 1 ∨ (alg ≠ 3 ∧ n < 16) then ([], 7)
  else if 65536 < n then ([], 6)
  else if alg = 1 then ([(1, 0, n.toNat - 16), (2, n.toNat - 16, 16)], 0)
  else if alg = 2 then ([(3, 0, 16), (1, 16, n.toNat - 16)], 0)
  else if n < 32 then ([(10, 0, n.toNat), (11, n.toNat, n.toNat)], 0)
  else (longL n.toNat, 0)

theorem one_oneCell (xs : List Value) (h : xs.all (·.oneCell') = true) : ∀ u ∈ xs, u.oneCell' = true := fun u hu => List.all_eq_true.1 h u hu

end Go.CutP
