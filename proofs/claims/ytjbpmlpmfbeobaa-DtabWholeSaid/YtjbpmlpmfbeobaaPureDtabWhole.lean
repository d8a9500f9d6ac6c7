/- The pure statement of DtabWhole. -/
import Derived.Test.YtjbpmlpmfbeobaaDt
import Derived.Test.YtjbpmlpmfbeobaaPPrx14
namespace Go.Proofs.Ytjbpmlpmfbeobaa.Pure
open Go.RowKit Go.Proofs.Ytjbpmlpmfbeobaa Go.Proofs.Ytjbpmlpmfbeobaa.PPr Go.Proofs.YtjbpmlpmfbeobaaW.PrintWords Go.Proofs.YtjbpmlpmfbeobaaW.PrintLast Go.Proofs.YtjbpmlpmfbeobaaW.PrintMore HK
theorem awake11 : Ev (fun k => puncheonlaw11_awake.f k) true := Ev.of (fun k => puncheonlaw11_awake.mono k) (k := 3000) (by decide +kernel)
/-- a cell put elsewhere, or made larger, spoils the whole -/
theorem shifted_bad {C : List Cel} (h : WP C) (i : Nat) (hi : i < C.length) (by_ : Int) (hb : by_ ≠ 0) : ¬ WP (C.set i ⟨(C.getD i zc).f0, (C.getD i zc).f1, (C.getD i zc).f2 + by_⟩) := by
  intro h'
  have hl : (C.set i ⟨(C.getD i zc).f0, (C.getD i zc).f1, (C.getD i zc).f2 + by_⟩).length = C.length := List.length_set
  have hg : ∀ j, (C.set i ⟨(C.getD i zc).f0, (C.getD i zc).f1, (C.getD i zc).f2 + by_⟩).getD j zc = if i = j then ⟨(C.getD i zc).f0, (C.getD i zc).f1, (C.getD i zc).f2 + by_⟩ else C.getD j zc := fun j => getD_setA zc C i j _ hi
  generalize C.set i ⟨(C.getD i zc).f0, (C.getD i zc).f1, (C.getD i zc).f2 + by_⟩ = D at h' hl hg
  obtain ⟨f1, f2, f3, f4⟩ := h.fit i hi
  obtain ⟨g1, g2, g3, g4⟩ := h'.fit i (by omega)
  rw [hg i, if_pos rfl] at g1 g2 g3 g4
  dsimp only at g1 g2 g3 g4
  have hp := p2_pos (C.getD i zc).f1.toNat
  -- each state of the shifted cell was its own
  have hkey : ∀ y : Int, (C.getD i zc).f2 + by_ ≤ y → y < (C.getD i zc).f2 + by_ + p2 (C.getD i zc).f1.toNat → (C.getD i zc).f2 ≤ y ∧ y < (C.getD i zc).f2 + p2 (C.getD i zc).f1.toNat := by
    intro y y0 y1
    obtain ⟨j, j1, j2⟩ := h.all i hi y (by omega) (by omega)
    by_cases c : j = i
    · subst c; exact ⟨j2.2.1, j2.2.2⟩
    · exfalso
      have c1 : CovP (D.getD j zc) (C.getD i zc).f0 y := by rw [hg j, if_neg (fun e => c e.symm)]; exact j2
      have c2 : CovP (D.getD i zc) (C.getD i zc).f0 y := by rw [hg i, if_pos rfl]; exact ⟨rfl, y0, y1⟩
      rcases Nat.lt_or_ge j i with hji | hji
      · exact h'.dis j i hji (by omega) _ _ c1 c2
      · exact h'.dis i j (by omega) (by omega) _ _ c2 c1
  have k1 := hkey ((C.getD i zc).f2 + by_) (by omega) (by omega)
  have k2 := hkey ((C.getD i zc).f2 + by_ + p2 (C.getD i zc).f1.toNat - 1) (by omega) (by omega)
  omega
theorem larger_bad {C : List Cel} (h : WP C) (i : Nat) (hi : i < C.length) : ¬ WP (C.set i ⟨(C.getD i zc).f0, (C.getD i zc).f1 + 1, (C.getD i zc).f2⟩) := by
  intro h'
  have hl : (C.set i ⟨(C.getD i zc).f0, (C.getD i zc).f1 + 1, (C.getD i zc).f2⟩).length = C.length := List.length_set
  have hg : ∀ j, (C.set i ⟨(C.getD i zc).f0, (C.getD i zc).f1 + 1, (C.getD i zc).f2⟩).getD j zc = if i = j then ⟨(C.getD i zc).f0, (C.getD i zc).f1 + 1, (C.getD i zc).f2⟩ else C.getD j zc := fun j => getD_setA zc C i j _ hi
  generalize C.set i ⟨(C.getD i zc).f0, (C.getD i zc).f1 + 1, (C.getD i zc).f2⟩ = D at h' hl hg
  obtain ⟨f1, f2, f3, f4⟩ := h.fit i hi
  obtain ⟨g1, g2, g3, g4⟩ := h'.fit i (by omega)
  rw [hg i, if_pos rfl] at g1 g2 g3 g4
  dsimp only at g1 g2 g3 g4
  have hp := p2_pos (C.getD i zc).f1.toNat
  have e : p2 ((C.getD i zc).f1 + 1).toNat = 2 * p2 (C.getD i zc).f1.toNat := by rw [← p2_succ]; congr 1; omega
  obtain ⟨j, j1, j2⟩ := h.all i hi ((C.getD i zc).f2 + p2 (C.getD i zc).f1.toNat) (by omega) (by omega)
  have c : j ≠ i := by
    intro c
    subst c
    have := j2.2.2
    omega
  have c1 : CovP (D.getD j zc) (C.getD i zc).f0 ((C.getD i zc).f2 + p2 (C.getD i zc).f1.toNat) := by rw [hg j, if_neg (fun e => c e.symm)]; exact j2
  have c2 : CovP (D.getD i zc) (C.getD i zc).f0 ((C.getD i zc).f2 + p2 (C.getD i zc).f1.toNat) := by rw [hg i, if_pos rfl]; exact ⟨rfl, by dsimp only; omega, by dsimp only; omega⟩
  rcases Nat.lt_or_ge j i with hji | hji
  · exact h'.dis j i hji (by omega) _ _ c1 c2
  · exact h'.dis i j (by omega) (by omega) _ _ c2 c1
theorem DtabWhole : puncheonlaw11_DtabWhole.Pure := by
  intro l a at_ by_ hm hs hw ha hat hby
  have ha := bounds_u8 ha
  have hat := bounds_u16 hat
  have hby : -128 ≤ by_ ∧ by_ ≤ 127 := by
    have h : IntKind.i8.min ≤ by_ ∧ by_ ≤ IntKind.i8.max := by simpa [Lit.wf] using hby
    exact h
  refine ev_bool (b := true) ?_ rfl
  unfold puncheonlaw11_DtabWhole.f
  refine Ev.bind awake11 ?_
  by_cases hb : (l.length : Int) > 80
  · exact ev_pos hb (Ev.now _)
  refine ev_neg hb ?_
  obtain ⟨q, k, hq, sq⟩ := someQ_ev l a hw ha.1 ha.2
  refine Ev.bind hq ?_
  dsimp only
  have hN := sq.N.nq
  obtain ⟨L, hL⟩ := ordL_ex hN
  have hl := hL.len hN
  rw [sq.N.p2] at hl
  have hk0 := sq.k0
  have hk1 := sq.k1
  have hp0 := p2_pos k
  have hp := p2_12 sq.N.r1
  have hW := cells_whole sq.N hL
  have hCl := celL_len k L
  have hcell : ∀ j, j < (celL k L).length → (0 ≤ ((celL k L).getD j zc).f0 ∧ ((celL k L).getD j zc).f0 ≤ 255) ∧ (0 ≤ ((celL k L).getD j zc).f2 ∧ ((celL k L).getD j zc).f2 ≤ 4096) := by
    intro j hj
    have hf := hW.fit j hj
    obtain ⟨f1, f2, f3, f4⟩ := hf
    have := p2_pos ((celL k L).getD j zc).f1.toNat
    rw [hCl] at hj
    have hs := (hL.key j hj).sym
    refine ⟨?_, by omega, by omega⟩
    rw [celL_get k L j hj]
    show 0 ≤ (L.getD j z).f2 ∧ (L.getD j z).f2 ≤ 255
    omega
  have hdo := dtabOf_ev sq.N hL
  generalize celL k L = C at hdo hW hCl hcell
  obtain ⟨b, b1, b2⟩ := whole_ev sq.N.r0 sq.N.r1 (by omega) (fun j hj => (hcell j hj).1) (fun j hj => by have := (hcell j hj).2; omega)
  have hbt := b2.2 hW
  rw [hbt] at b1
  refine Ev.bind hdo (ev_pos rfl (ev_pos (by omega) (ev_pos ?_ (Ev.bind b1 ?_))))
  · dsimp only
    rw [shl2 1 k (by omega) (by omega) (by omega), Int.one_mul]; omega
  refine Ev.step (fun _ => by rw [puncheonlaw11_DtabWhole.j0]) ?_
  refine ev_neg (by decide) (ev_obind rfl (ev_pos (by show 0 + C.length < _; omega) (ev_obind rfl ?_)))
  rw [List.nil_append, wraps (x := at_) (by omega) (by omega), Int.tmod_eq_emod_of_nonneg hat.1]
  obtain ⟨i, hi⟩ : ∃ i : Nat, at_ % (C.length : Int) = (i : Int) := ⟨(at_ % (C.length : Int)).toNat, by have := Int.emod_nonneg at_ (show (C.length : Int) ≠ 0 by omega); omega⟩
  have hil := Int.emod_lt_of_pos at_ (show 0 < (C.length : Int) by omega)
  rw [hi] at hil
  rw [hi]
  have hci := (hcell i (by omega)).2
  dsimp only
  refine ev_neg (by omega) (ev_pos (by omega) (ev_pos (by omega) (ev_obind rfl (ev_pos (by show 0 + C.length < _; omega) (ev_obind rfl ?_)))))
  rw [List.nil_append]
  refine ev_pos (by omega) (ev_pos rfl ?_)
  rw [rdC_nat, Int.toNat_natCast, wraps (x := by_) (by omega) (by omega), wraps (x := (C.getD i zc).f2 + by_) (by omega) (by omega)]
  have hset : ∀ (c : Cel), (0 ≤ c.f0 ∧ c.f0 ≤ 255) → (-4611686018427 ≤ c.f2 ∧ c.f2 ≤ 4611686018427) → ∃ b, Ev (fun n => dtab_Whole.f n (C.set i c)) b ∧ (b = true ↔ WP (C.set i c)) := by
    intro c c1 c2
    refine whole_ev sq.N.r0 sq.N.r1 (by rw [List.length_set]; omega) (fun j hj => ?_) (fun j hj => ?_)
    · rw [List.length_set] at hj
      rw [getD_setA zc C i j _ (by omega)]
      split
      · exact c1
      · exact (hcell j hj).1
    · rw [List.length_set] at hj
      rw [getD_setA zc C i j _ (by omega)]
      split
      · exact c2
      · have := (hcell j hj).2; omega
  obtain ⟨x, x1, x2⟩ := hset ⟨(C.getD i zc).f0, (C.getD i zc).f1, (C.getD i zc).f2 + by_⟩ (hcell i (by omega)).1 (by dsimp only; omega)
  have hil2 : i < C.length := by omega
  have hx : x = (by_ == 0) := by
    by_cases c : by_ = 0
    · subst c
      have e : C.set i ⟨(C.getD i zc).f0, (C.getD i zc).f1, (C.getD i zc).f2 + 0⟩ = C := by
        rw [Int.add_zero]
        apply List.ext_getElem?
        intro j
        by_cases e : i = j
        · subst e
          rw [List.getElem?_set_self hil2, List.getD_eq_getElem?_getD, List.getElem?_eq_getElem hil2]
          rfl
        · rw [List.getElem?_set_ne e]
      rw [e] at x2
      rw [x2.2 hW]; rfl
    · have := shifted_bad hW i (by omega) by_ c
      rw [show (by_ == 0) = false from beq_eq_false_iff_ne.2 c]
      cases x with
      | false => rfl
      | true => exact absurd (x2.1 rfl) this
  obtain ⟨y, y1, y2⟩ := hset ⟨(C.getD i zc).f0, (C.getD i zc).f1 + 1, (C.getD i zc).f2⟩ (hcell i (by omega)).1 (by dsimp only; omega)
  have hy : y = false := by
    have := larger_bad hW i (by omega)
    cases y with
    | false => rfl
    | true => exact absurd (y2.1 rfl) this
  rw [hx] at x1
  rw [hy] at y1
  obtain ⟨f1, f2, _, _⟩ := hW.fit i (by omega)
  rw [wraps (x := (C.getD i zc).f1 + 1) (by omega) (by omega)]
  exact Ev.bind x1 (ev_pos (by simp) (Ev.bind y1 (Ev.now _)))
end Go.Proofs.Ytjbpmlpmfbeobaa.Pure
