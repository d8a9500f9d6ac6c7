/- A model that came in: opened. -/
import Derived.Test.YtcffmmdgjifaaaaBase
import Derived.ChangeSame
import Derived.ChangeSlices
import Derived.SizedLaws
namespace Go.Proofs.Ytcffmmdgjifaaaa
open Go.ChangeShapes Go.WideShapes Go.RowKit Go.ChangeShapes Go.Proofs.YtcffmmdgjifaaaaW.PrintWords
set_option linter.unusedVariables false
set_option linter.unusedSimpArgs false
section
variable {H : Type} {enc : TypeId × Value → H} {P : Program} {w : World} {base : Nat} {spare : Nat → Bool} {held : Bool}
/-- a list of numbers that reads -/
def ReadsL (w : World) (v : Value) (q : List Int) : Prop := ∃ A c, v = .slice A q.length c ∧ q.length ≤ c ∧ Kd.C (Kd.int .i64) w A q.length q
theorem open_list {tr e : TypeId} {fuel : Nat} {cs : List Value} {x : DataW H × List MemPlace} (ur : P.underlying tr = some (.slice e)) (ue : P.underlying e = some (.int .i64)) (ce : P.cellsOf e = 1)
    (h : DataW.trod enc P w base spare held fuel tr cs = some x) : ∃ v q, cs = [v] ∧ ReadsL w v q := by
  rcases open_ints ur ue ce h with ⟨rfl, _⟩ | ⟨a, len, cap, zs, rfl, _, hl, hm, hz, _, hcell, _⟩
  · exact ⟨_, [], rfl, none, 0, rfl, by simp, Kd.C_nil _ _⟩
  · have hm2 : cap ≤ 9223372036854775807 := hm
    have hzl : len ≤ zs.length := by rw [hz]; split <;> omega
    have htl : (zs.take len).length = len := by rw [List.length_take]; omega
    refine ⟨_, zs.take len, rfl, some a, cap, by rw [htl], by omega, ?_⟩
    refine Kd.C_of_reads (readsInt_of.1 ⟨rfl, by omega, fun _ => ⟨a, rfl, fun j hj => ?_⟩⟩)
    rw [htl] at hj
    rw [hcell j (by omega)]
    simp [List.getD_eq_getElem?_getD, List.getElem?_take, hj]
theorem lists_ex {f : Nat → Value} : ∀ n, (∀ i, i < n → ∃ q, ReadsL w (f i) q) → ∃ R : List (List Int), R.length = n ∧ ∀ i, i < n → ReadsL w (f i) (R.getD i [])
  | 0, _ => ⟨[], rfl, fun i h => by omega⟩
  | n + 1, h => by
    obtain ⟨R, h1, h2⟩ := lists_ex n (fun i hi => h i (by omega))
    obtain ⟨q, hq⟩ := h n (by omega)
    refine ⟨R ++ [q], by rw [List.length_append, h1]; rfl, fun i hi => ?_⟩
    rw [List.getD_eq_getElem?_getD]
    by_cases hin : i = n
    · subst hin
      rw [List.getElem?_append_right (by omega), h1, Nat.sub_self]
      exact hq
    · rw [List.getElem?_append_left (by omega), ← List.getD_eq_getElem?_getD]
      exact h2 i (by omega)
theorem open_rows {t tr e : TypeId} {fuel : Nat} {cs : List Value} {x : DataW H × List MemPlace} (ut : P.underlying t = some (.slice tr)) (cr : P.cellsOf tr = 1) (ur : P.underlying tr = some (.slice e)) (ue : P.underlying e = some (.int .i64)) (ce : P.cellsOf e = 1)
    (h : DataW.trod enc P w base spare held fuel t cs = some x) : ∃ A c R, cs = [.slice A R.length c] ∧ R.length ≤ c ∧ Kd.C (Kd.slice 3 (Kd.int .i64)) w A R.length R := by
  rcases DataW.trod_slice ut h with ⟨rfl, _⟩ | ⟨ad, len, cap, elems, rest, n, _, rfl, hx, hb, hl, hm, hlen, hel, _, _⟩
  · exact ⟨none, 0, [], rfl, by simp, Kd.C_nil _ _⟩
  · have hm2 : cap ≤ 9223372036854775807 := hm
    have each : ∀ i, i < len → ∃ v q, w.cell? (ad.add i) = some v ∧ ReadsL w v q := by
      intro i hi
      have hE := hel i hi
      rw [List.getElem?_eq_getElem (by omega), cr, Option.bind_eq_some_iff] at hE
      obtain ⟨cs, hcs, hyt⟩ := hE
      obtain ⟨_, hl2, hcell⟩ := World.cells?_some hcs
      obtain ⟨v, q, rfl, hq⟩ := open_list ur ue ce hyt
      refine ⟨v, q, ?_, hq⟩
      have := hcell 0 (by omega)
      rw [Nat.mul_one] at this
      simpa [Addr.add_add] using this
    obtain ⟨R, hR1, hR2⟩ := lists_ex (w := w) (f := fun i => (w.cell? (ad.add i)).getD undef) len (fun i hi => by
      obtain ⟨v, q, h1, h2⟩ := each i hi
      exact ⟨q, by simp only [h1, Option.getD_some]; exact h2⟩)
    refine ⟨some ad, cap, R, by rw [hR1], by omega, rfl, by omega, fun _ => ⟨ad, rfl, fun j p hj => ?_⟩⟩
    have hjl : j < len := by have := (List.getElem?_eq_some_iff.1 hj).1; omega
    obtain ⟨v, q, h1, _⟩ := each j hjl
    have h2 := hR2 j hjl
    simp only [h1, Option.getD_some] at h2
    have hp : R.getD j [] = p := by rw [List.getD_eq_getElem?_getD, hj]; rfl
    rw [hp] at h2
    obtain ⟨A1, c1, rfl, hle, hC⟩ := h2
    refine ⟨[.slice A1 p.length c1], rfl, ⟨A1, c1, rfl, hle, hC⟩, fun i u hu => ?_⟩
    cases i with
    | zero =>
      injection hu with hu
      subst hu
      rw [show (Kd.slice 3 (Kd.int .i64)).sz = 1 from rfl, Nat.mul_one, Nat.add_zero]
      exact h1
    | succ i => simp at hu
theorem open_model {t tr e : TypeId} {f0 f1 f2 : Field} {fuel : Nat} {cs : List Value} {x : DataW H × List MemPlace} (ht : P.underlying t = some (.struct #[f0, f1, f2])) (ct : P.cellsOf t = 3)
    (u0 : P.underlying f0.type = some (.int .i64)) (u1 : P.underlying f1.type = some .bool) (u2 : P.underlying f2.type = some (.slice tr)) (c0 : P.cellsOf f0.type = 1) (c1 : P.cellsOf f1.type = 1) (c2 : P.cellsOf f2.type = 1) (o0 : f0.offset = 0) (o1 : f1.offset = 1) (o2 : f2.offset = 2)
    (cr : P.cellsOf tr = 1) (ur : P.underlying tr = some (.slice e)) (ue : P.underlying e = some (.int .i64)) (ce : P.cellsOf e = 1)
    (h : DataW.trod enc P w base spare held fuel t cs = some x) : ∃ a0 a1 A c R, cs = [.int .i64 a0, .bool a1, .slice A R.length c] ∧ R.length ≤ c ∧ Kd.C (Kd.slice 3 (Kd.int .i64)) w A R.length R := by
  obtain ⟨xs, n, _, rfl, hl, hlen, hf⟩ := DataW.trod_struct ht h
  rw [ct] at hl
  obtain ⟨v0, v1, v2, rfl⟩ : ∃ v0 v1 v2, cs = [v0, v1, v2] := by
    match cs, hl with
    | [p, q, r], _ => exact ⟨p, q, r, rfl⟩
  match xs, hlen with
  | [y0, y1, y2], _ =>
    have h0 := hf 0 f0 rfl
    have h1 := hf 1 f1 rfl
    have h2 := hf 2 f2 rfl
    rw [c0, o0] at h0
    rw [c1, o1] at h1
    rw [c2, o2] at h2
    simp at h0 h1 h2
    obtain ⟨m0, e0, _, _⟩ := DataW.trod_int u0 h0
    obtain ⟨m1, e1, _⟩ := DataW.trod_bool u1 h1
    obtain ⟨A, c, R, e2, h3, h4⟩ := open_rows u2 cr ur ue ce h2
    injection e0 with e0
    injection e1 with e1
    injection e2 with e2
    subst e0 e1 e2
    exact ⟨m0, m1, A, c, R, rfl, h3, h4⟩
end
end Go.Proofs.Ytcffmmdgjifaaaa
