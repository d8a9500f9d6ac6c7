/- The pure statement of CtxWidest: no context has more unlike bytes than the widest; it has no more than there are. -/
import Derived.Test.YthkpjjkjdklpmaaPcl
import Derived.Test.YthkpjjkjdklpmaaPPrx9
namespace Go.Proofs.Ythkpjjkjdklpmaa.Pure
open Go.RowKit Go.Proofs.Ythkpjjkjdklpmaa.PPr Go.Proofs.YthkpjjkjdklpmaaW.PrintWords Go.Proofs.YthkpjjkjdklpmaaW.PrintLast Go.Proofs.YthkpjjkjdklpmaaW.PrintMore
theorem CtxWidest : puncheonlaw06_CtxWidest.Pure := by
  intro l c hm hs hw hc
  have hok := u8s hw
  have hc := bounds_u8 hc
  refine ev_bool (b := true) ?_ rfl
  unfold puncheonlaw06_CtxWidest.f
  refine Ev.bind awake06 ?_
  by_cases hb : (l.length : Int) > 100
  · exact ev_pos hb (Ev.now _)
  · have hl : l.length ≤ 1099511627776 := by omega
    obtain ⟨c, rfl⟩ : ∃ n : Nat, c = n := ⟨c.toNat, by omega⟩
    refine ev_neg hb (Ev.bind (wid_ev l hok hl) (ev_pos rfl ?_))
    rw [w64' (x := (c : Int)) rfl (by omega) (by omega)]
    refine ev_obind (for_eq l hok hl (c : Int)) (Ev.bind (many_ev (forZ l (c : Int)) (by rw [forZ_len]; omega)) (ev_pos (wid_le c 256 (by omega)) ?_))
    have hup : widTo l 256 ≤ manyZ (cnt l) := by
      refine wid_up _ (manyZ_bd _).1 (fun d hd => ?_) 256 (by omega)
      rw [forZ_many hok (by omega), cnt_many l hok (by omega)]
      refine pos_mono _ _ (by rw [forZ_len, cnt_len]) (fun i hi => ?_)
      rw [forZ_len] at hi
      rw [forZ, cnt_get _ _ hi, cnt_get _ _ hi]
      have := count_pick l (d : Int) (i : Int) l.length (Nat.le_refl _)
      rw [List.take_length] at this
      omega
    refine ev_obind (of_eq l hok hl) (Ev.bind (many_ev (cnt l) (by rw [cnt_len]; omega)) (ev_pos hup (ev_eq (Ev.now _) ?_)))
    rw [beq_iff_eq, Bool.eq_iff_iff, decide_eq_true_iff, decide_eq_true_iff]
    rcases Nat.eq_zero_or_pos l.length with h0 | h0
    · have : l = [] := List.eq_nil_of_length_eq_zero h0
      subst this
      have : widTo [] 256 ≤ 0 := wid_up 0 (by omega) (fun d _ => by rw [show forZ [] (d : Int) = cnt [] from rfl, many_nil]; omega) 256 (by omega)
      constructor
      · intro h; omega
      · intro h; simp at h
    · refine ⟨fun _ => by omega, fun _ => ?_⟩
      have h1 := wid_le (l := l) 0 256 (by omega)
      rw [forZ_many hok (by omega)] at h1
      have h2 : 0 < pos (forZ l ((0 : Nat) : Int)) := by
        unfold pos
        have hx := hok.at 0 h0
        have hmem : (forZ l ((0 : Nat) : Int)).getD (l.getD 0 0).toNat 0 ∈ (forZ l ((0 : Nat) : Int)).filter fun x => decide (0 < x) := by
          rw [List.mem_filter]
          refine ⟨getD_memE (by rw [forZ_len]; omega), ?_⟩
          rw [forZ, cnt_get _ _ (by omega)]
          have : (l.getD 0 0) ∈ pickTo l ((0 : Nat) : Int) l.length := by
            have h3 : ∀ n, l.getD 0 0 ∈ pickTo l ((0 : Nat) : Int) (n + 1) := by
              intro n
              induction n with
              | zero => rw [pickTo_hit l ((0 : Nat) : Int) 0 (by simp [ctxAt])]; exact List.mem_append_right _ (List.mem_singleton.2 rfl)
              | succ n ih => rw [pickTo]; exact List.mem_append_left _ ih
            obtain ⟨n, hn⟩ : ∃ n, l.length = n + 1 := ⟨l.length - 1, by omega⟩
            rw [hn]; exact h3 n
          have := List.count_pos_iff.2 this
          rw [Int.toNat_of_nonneg hx.1]
          simp only [decide_eq_true_eq]; omega
        have := List.length_pos_of_mem hmem
        omega
      omega
end Go.Proofs.Ythkpjjkjdklpmaa.Pure
