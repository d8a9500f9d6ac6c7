/- A slice of pairs of numbers that came in: opened, and its size. -/
import Derived.Test.YtfdijffecgdjbaaBase
import Derived.ChangeSame
import Derived.ChangeSlices
import Derived.SizedLaws
namespace Go.Proofs.Ytfdijffecgdjbaa
open Go.ChangeShapes Go.WideShapes Go.RowKit Go.ChangeShapes
set_option linter.unusedVariables false
/-- a slice of pairs that came in -/
def IsPairs (k0 k1 : IntKind) (w : World) (a : Option Addr) (len cap : Nat) (zs : List (Int × Int)) : Prop :=
  zs.length = len ∧ len ≤ 9223372036854775807 ∧ (∀ z, z ∈ zs → (Lit.int k0 z.1).wf = true ∧ (Lit.int k1 z.2).wf = true) ∧
    (0 < len → ∃ x, a = some x ∧ ∀ i, i < len → w.cell? (x.add (i * 2)) = some (.int k0 (zs.getD i (0, 0)).1) ∧ w.cell? (x.add (i * 2 + 1)) = some (.int k1 (zs.getD i (0, 0)).2))
section
variable {H : Type} {enc : TypeId × Value → H} {P : Program} {w : World} {base : Nat} {spare : Nat → Bool} {held : Bool}
def pairOf (y : DataW H × List MemPlace) : Int × Int := match y.1 with | .agg [.lit (.int _ a), .lit (.int _ b)] => (a, b) | _ => (0, 0)
theorem open_pairs {t e : TypeId} {f0 f1 : Field} {k0 k1 : IntKind} {fuel : Nat} {a : Option Addr} {len cap : Nat} {x : DataW H × List MemPlace} (ht : P.underlying t = some (.slice e)) (he : P.underlying e = some (.struct #[f0, f1])) (hc : P.cellsOf e = 2)
    (u0 : P.underlying f0.type = some (.int k0)) (u1 : P.underlying f1.type = some (.int k1)) (c0 : P.cellsOf f0.type = 1) (c1 : P.cellsOf f1.type = 1) (o0 : f0.offset = 0) (o1 : f1.offset = 1)
    (h : DataW.trod enc P w base spare held fuel t [.slice a len cap] = some x) : ∃ zs, IsPairs k0 k1 w a len cap zs := by
  rcases DataW.trod_slice ht h with ⟨h0, _⟩ | ⟨ad, len', cap', elems, rest, n, _, hcs, hx, hb, hl, hm, hlen, hel, _, _⟩
  · simp only [List.cons.injEq, Value.slice.injEq, and_true] at h0
    obtain ⟨rfl, rfl, rfl⟩ := h0
    exact ⟨[], rfl, by omega, by simp, fun h => by omega⟩
  · simp only [List.cons.injEq, Value.slice.injEq, and_true] at hcs
    obtain ⟨rfl, rfl, rfl⟩ := hcs
    have each : ∀ i y, elems[i]? = some y → ((Lit.int k0 (pairOf y).1).wf = true ∧ (Lit.int k1 (pairOf y).2).wf = true) ∧ w.cell? (ad.add (i * 2)) = some (.int k0 (pairOf y).1) ∧ w.cell? (ad.add (i * 2 + 1)) = some (.int k1 (pairOf y).2) := by
      intro i y hy
      have hi : i < len := by rw [← hlen]; exact (List.getElem?_eq_some_iff.1 hy).1
      have hE := hel i hi
      rw [hy, hc, Option.bind_eq_some_iff] at hE
      obtain ⟨cs, hcs, hyt⟩ := hE
      obtain ⟨_, hl2, hcell⟩ := World.cells?_some hcs
      obtain ⟨y0, y1, n1, rfl, _, h0, h1⟩ := trod_struct2 he hyt
      obtain ⟨m0, e0, rfl, w0⟩ := DataW.trod_int u0 h0
      obtain ⟨m1, e1, rfl, w1⟩ := DataW.trod_int u1 h1
      rw [c0, o0] at e0
      rw [c1, o1] at e1
      obtain ⟨p, q, rfl⟩ : ∃ p q, cs = [p, q] := by
        match cs, hl2 with
        | [p, q], _ => exact ⟨p, q, rfl⟩
      simp at e0 e1
      subst e0 e1
      refine ⟨⟨w0, w1⟩, ?_, ?_⟩
      · have := hcell 0 (by omega)
        simpa [Addr.add_add, pairOf] using this
      · have := hcell 1 (by omega)
        simpa [Addr.add_add, pairOf] using this
    refine ⟨elems.map pairOf, by simp [hlen], by have : cap ≤ maxLen := hm; simp [maxLen] at this; omega, ?_, fun h => ⟨ad, rfl, fun i hi => ?_⟩⟩
    · intro z hz
      obtain ⟨y, hy, rfl⟩ := List.mem_map.1 hz
      obtain ⟨i, hi⟩ := List.getElem?_of_mem hy
      exact (each i y hi).1
    · have hi2 : i < elems.length := by omega
      have := (each i elems[i] (List.getElem?_eq_getElem hi2)).2
      simpa [List.getD_eq_getElem?_getD, List.getElem?_map, List.getElem?_eq_getElem hi2] using this
theorem sized_pairs {t e : TypeId} {a : Option Addr} {len cap : Nat} {d : DataW H} {ps : List MemPlace} {ts : List TypeId} {ds : List (DataW H)} {j : Nat}
    (hsz : (DataW.weightsEach P ts ds).all (· ≤ reachBytes) = true) (ht : ts[j]? = some t) (hd : ds[j]? = some d) (hu : P.underlying t = some (.slice e)) {B : Nat} (hB : P.bytesOf e = B)
    (h : DataW.Trod enc P w base spare held t (.slice a len cap) d ps) : len * B ≤ 140737488351232 := by
  obtain ⟨fuel, hf⟩ := h
  rcases DataW.trod_slice hu hf with ⟨h0, _⟩ | ⟨ad, len', cap', elems, rest, n, _, hcs, hx, _, _, _, hlen, _, _, _⟩
  · simp [Value.cells] at h0
    obtain ⟨rfl, rfl, rfl⟩ := h0
    simp
  · simp [Value.cells] at hcs
    obtain ⟨rfl, rfl, rfl⟩ := hcs
    obtain ⟨hx, _⟩ := Prod.mk.inj hx
    subst hx
    have z := sized_slice hsz ht hd hu
    rw [hB] at z
    simp only [List.length_map] at z
    exact Nat.le_trans (Nat.mul_le_mul_right _ (by omega)) z
end
end Go.Proofs.Ytfdijffecgdjbaa
