/- Plain: a balanced tree over keys, as the program's functions make it. -/
import Derived.Test.YtjgpoggbakanlaaMem
namespace Go.Proofs.Ytjgpoggbakanlaa

/-- A tree of keys that have things. -/
inductive Tr (α : Type) where
  | nil
  | node (l : Tr α) (k : Int) (v : α) (r : Tr α)

namespace Tr
variable {α : Type}

def high : Tr α → Int
  | .nil => 0
  | .node l _ _ r => 1 + max l.high r.high

def many : Tr α → Int
  | .nil => 0
  | .node l _ _ r => 1 + l.many + r.many

/-- Balanced anew: the heights differ by 2 at most. -/
def even (k : Int) (v : α) (l r : Tr α) : Tr α :=
  if l.high - r.high = 2 then
    match l with
    | .nil => .node .nil k v r
    | .node ll lk lv lr =>
      if ll.high < lr.high then
        match lr with
        | .nil => .node ll lk lv (.node lr k v r)
        | .node lrl lrk lrv lrr => .node (.node ll lk lv lrl) lrk lrv (.node lrr k v r)
      else .node ll lk lv (.node lr k v r)
  else if l.high - r.high = -2 then
    match r with
    | .nil => .node l k v .nil
    | .node rl rk rv rr =>
      if rr.high < rl.high then
        match rl with
        | .nil => .node (.node l k v rl) rk rv rr
        | .node rll rlk rlv rlr => .node (.node l k v rll) rlk rlv (.node rlr rk rv rr)
      else .node (.node l k v rl) rk rv rr
  else .node l k v r

def put (key : Int) (x : α) : Tr α → Tr α
  | .nil => .node .nil key x .nil
  | .node l k v r => if key < k then even k v (put key x l) r else if k < key then even k v l (put key x r) else .node l key x r

/-- The least key and what it has. -/
def least (d : Int × α) : Tr α → Int × α
  | .nil => d
  | .node l k v _ => least (k, v) l

def isNil : Tr α → Bool
  | .nil => true
  | .node _ _ _ _ => false

def drop : Tr α → Int → Tr α
  | .nil, _ => .nil
  | .node l k v r, key =>
    if key < k then even k v (drop l key) r
    else if k < key then even k v l (drop r key)
    else if l.isNil then r
    else if r.isNil then l
    else even (least (k, v) r).1 (least (k, v) r).2 l (drop r (least (k, v) r).1)

def get (key : Int) : Tr α → Option α
  | .nil => none
  | .node l k v r => if key < k then get key l else if k < key then get key r else some v

def list : Tr α → List (Int × α)
  | .nil => []
  | .node l k v r => l.list ++ (k, v) :: r.list

theorem high_nonneg (t : Tr α) : 0 ≤ t.high := by
  induction t with
  | nil => simp [high]
  | node l k v r ihl ihr => simp only [high]; omega

theorem many_nonneg (t : Tr α) : 0 ≤ t.many := by
  induction t with
  | nil => simp [many]
  | node l k v r ihl ihr => simp only [many]; omega

theorem high_le_many (t : Tr α) : t.high ≤ t.many := by
  induction t with
  | nil => simp [high, many]
  | node l k v r ihl ihr =>
    have := l.many_nonneg
    have := r.many_nonneg
    simp only [high, many]
    omega

theorem many_even (k : Int) (v : α) (l r : Tr α) : (even k v l r).many = 1 + l.many + r.many := by
  unfold even
  split
  · cases l with
    | nil => simp [many]
    | node ll lk lv lr =>
      simp only []
      split
      · cases lr with
        | nil => simp only [many]; omega
        | node a b c d => simp only [many]; omega
      · simp only [many]; omega
  · split
    · cases r with
      | nil => simp [many]
      | node rl rk rv rr =>
        simp only []
        split
        · cases rl with
          | nil => simp only [many]; omega
          | node a b c d => simp only [many]; omega
        · simp only [many]; omega
    · simp only [many]

theorem many_put (key : Int) (x : α) (t : Tr α) : (put key x t).many ≤ t.many + 1 := by
  induction t with
  | nil => simp [put, many]
  | node l k v r ihl ihr =>
    simp only [put]
    split
    · rw [many_even]; simp only [many]; omega
    · split
      · rw [many_even]; simp only [many]; omega
      · simp only [many]; omega

end Tr
end Go.Proofs.Ytjgpoggbakanlaa
