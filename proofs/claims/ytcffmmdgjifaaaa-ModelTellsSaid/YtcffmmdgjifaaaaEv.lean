/- Evaluation of the printed functions: from some number of rounds on. -/
import Derived.Test.YtcffmmdgjifaaaaYWords
import Derived.RowKit
namespace Go.Proofs.Ytcffmmdgjifaaaa
open Go.RowKit Go.Proofs.YtcffmmdgjifaaaaW.PrintWords
set_option linter.unusedSimpArgs false
set_option linter.unusedVariables false
theorem ev_pos {α : Type} {c : Prop} [Decidable c] {f g : Nat → Option α} {r : α} (h : c) (k : Ev f r) : Ev (fun n => if c then f n else g n) r := Ev.congr (fun _ => if_pos h) k
theorem ev_neg {α : Type} {c : Prop} [Decidable c] {f g : Nat → Option α} {r : α} (h : ¬ c) (k : Ev g r) : Ev (fun n => if c then f n else g n) r := Ev.congr (fun _ => if_neg h) k
theorem ev_obind {α β : Type} {o : Option β} {b : β} {f : Nat → β → Option α} {r : α} (h : o = some b) (k : Ev (fun n => f n b) r) : Ev (fun n => o.bind (f n)) r :=
  Ev.congr (fun _ => by rw [h]; rfl) k
theorem ev_const {α : Type} {o : Option α} {r : α} (h : o = some r) : Ev (fun _ => o) r := ⟨0, fun _ _ => h⟩
theorem ev_eq {α : Type} {f : Nat → Option α} {r r' : α} (h : Ev f r) (e : r = r') : Ev f r' := by subst e; exact h
theorem ev_bool {f : Nat → Option Bool} {b : Bool} (h : Ev f b) (e : b = true) : ∃ k, f k = some true := by subst e; exact h.rounds
theorem w64' {x y : Int} (h : x = y) (h0 : -9223372036854775808 ≤ y) (h1 : y ≤ 9223372036854775807) : wrap64 x = y := by subst h; unfold wrap64; omega
theorem wnext (i : Nat) (h : i < 4611686018427387904) : wrap64 ((i : Int) + 1) = ((i + 1 : Nat) : Int) := w64' (by omega) (by omega) (by omega)
theorem rd_nat (l : List Int) (i : Nat) : rd l (i : Int) = l.getD i 0 := rfl
theorem take_snocE (l : List Int) (i : Nat) (hi : i < l.length) : l.take (i + 1) = l.take i ++ [l.getD i 0] := by
  rw [List.take_succ_eq_append_getElem hi]; simp [List.getD_eq_getElem?_getD, List.getElem?_eq_getElem hi]
theorem getD_memE {l : List Int} {i : Nat} (hi : i < l.length) : l.getD i 0 ∈ l := by
  simp [List.getD_eq_getElem?_getD, List.getElem?_eq_getElem hi]
theorem ext_getDE {a b : List Int} (h : a.length = b.length) (k : ∀ i, i < a.length → a.getD i 0 = b.getD i 0) : a = b := by
  apply List.ext_getElem h
  intro i h1 h2
  have := k i h1
  simpa [List.getD_eq_getElem?_getD, List.getElem?_eq_getElem h1, List.getElem?_eq_getElem h2] using this
end Go.Proofs.Ytcffmmdgjifaaaa
