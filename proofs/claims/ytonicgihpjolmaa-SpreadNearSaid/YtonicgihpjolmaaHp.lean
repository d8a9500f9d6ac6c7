/- Plain lists as heaps: what container/heap does to a list, step by step; an order is a Bool function. -/
namespace Go.Proofs.Ytonicgihpjolmaa
set_option linter.unusedVariables false
namespace Hp
variable {α : Type}
/-- two elements change places -/
def swap (d : α) (l : List α) (i j : Nat) : List α := (l.set i (l.getD j d)).set j (l.getD i d)
/-- down: k bounds the rounds -/
def down (d : α) (lt : α → α → Bool) : Nat → List α → Nat → Nat → List α
  | 0, l, _, _ => l
  | k + 1, l, i, n =>
    if 2 * i + 1 ≥ n then l else
    let j := if 2 * i + 2 < n ∧ lt (l.getD (2 * i + 2) d) (l.getD (2 * i + 1) d) = true then 2 * i + 2 else 2 * i + 1
    if lt (l.getD j d) (l.getD i d) = true then down d lt k (swap d l i j) j n else l
/-- up -/
def up (d : α) (lt : α → α → Bool) : Nat → List α → Nat → List α
  | 0, l, _ => l
  | k + 1, l, j =>
    if (j - 1) / 2 = j then l else
    if lt (l.getD j d) (l.getD ((j - 1) / 2) d) = true then up d lt k (swap d l ((j - 1) / 2) j) ((j - 1) / 2) else l
/-- the first i places, the last one first, go down -/
def initTo (d : α) (lt : α → α → Bool) : Nat → List α → List α
  | 0, l => l
  | i + 1, l => initTo d lt i (down d lt l.length l i l.length)
def init (d : α) (lt : α → α → Bool) (l : List α) : List α := initTo d lt (l.length / 2) l
/-- all but the first one, of at least one -/
def pop (d : α) (lt : α → α → Bool) (l : List α) : List α := down d lt l.length (swap d l 0 (l.length - 1)) 0 (l.length - 1)
def push (d : α) (lt : α → α → Bool) (l : List α) (x : α) : List α := up d lt (l.length + 1) (l ++ [x]) l.length
theorem swap_len (d : α) (l : List α) (i j : Nat) : (swap d l i j).length = l.length := by simp [swap]
theorem down_len (d : α) (lt : α → α → Bool) : ∀ k (l : List α) i n, (down d lt k l i n).length = l.length
  | 0, _, _, _ => rfl
  | k + 1, l, i, n => by
    unfold down
    split
    · rfl
    · dsimp only
      split <;> split <;> simp [down_len d lt k, swap_len]
theorem up_len (d : α) (lt : α → α → Bool) : ∀ k (l : List α) j, (up d lt k l j).length = l.length
  | 0, _, _ => rfl
  | k + 1, l, j => by
    unfold up
    split
    · rfl
    · split <;> simp [up_len d lt k, swap_len]
theorem initTo_len (d : α) (lt : α → α → Bool) : ∀ i (l : List α), (initTo d lt i l).length = l.length
  | 0, _ => rfl
  | i + 1, l => by rw [initTo, initTo_len d lt i, down_len]
theorem init_len (d : α) (lt : α → α → Bool) (l : List α) : (init d lt l).length = l.length := initTo_len d lt _ l
theorem pop_len (d : α) (lt : α → α → Bool) (l : List α) : (pop d lt l).length = l.length := by rw [pop, down_len, swap_len]
theorem push_len (d : α) (lt : α → α → Bool) (l : List α) (x : α) : (push d lt l x).length = l.length + 1 := by rw [push, up_len]; simp
end Hp
end Go.Proofs.Ytonicgihpjolmaa
