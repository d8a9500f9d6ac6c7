/- The machine's side of this seat's laws: what each function computes, and that its call computes it; written by a program (pr.py over the kit's print.py). -/
import Derived.Test.YtcffmmdgjifaaaaPPrx0
import Derived.Test.YtcffmmdgjifaaaaPPrx11
import Derived.Test.YtcffmmdgjifaaaaPPrx13
import Derived.Test.YtcffmmdgjifaaaaPPrx14
namespace Go.Proofs.Ytcffmmdgjifaaaa.PPr
open Go.RowKit Go.Proofs.YtcffmmdgjifaaaaW.PrintWords Go.Proofs.YtcffmmdgjifaaaaW.PrintLast Go.Proofs.YtcffmmdgjifaaaaW.PrintMore
attribute [local go_sem] max2_int min2_int max_two min_two max_three min_three max_four min_four   -- for this text's walks alone
set_option linter.unusedVariables false
set_option linter.unusedSimpArgs false

/-! ### puncheonlaw16_awake: function 8 -/
def puncheonlaw16_awake.j0 : Nat → Bool → Int → Bool → List (List Int) → Option (Bool)
  | 0, _, _, _, _ => none
  | k + 1, x21, x181000, x181001, x181002 => if x21 = true then (some false) else ((model_At.f k x181000 x181001 x181002 9).bind fun t182 => (if (t182.length : Int) = 256 then (if x181000 = 5 then (if x181001 = true then (if 7 < (t182.length : Int) then (if (rd t182 7) = 32 then ((model_Fits.f k x181000 x181001 x181002 (([7] : List Int))).bind fun t189 => (some t189)) else (some false)) else (none)) else (some false)) else (some false)) else (some false)))
def puncheonlaw16_awake.f (k : Nat)  : Option (Bool) := (model_Zero.f k (([7, 7, 7] : List Int))).bind fun bt174 => (if bt174.2.2.2 = 0 then (if (bt174.2.2.1.length : Int) = 1 then ((model_Right.f k bt174.1 bt174.2.1 bt174.2.2.1).bind fun t181 => (puncheonlaw16_awake.j0 k (!t181) bt174.1 bt174.2.1 bt174.2.2.1)) else (puncheonlaw16_awake.j0 k true bt174.1 bt174.2.1 bt174.2.2.1)) else (puncheonlaw16_awake.j0 k true bt174.1 bt174.2.1 bt174.2.2.1))
theorem puncheonlaw16_awake.mono_l : ∀ k, (∀ y0 y1 y2 y3, LeO (puncheonlaw16_awake.j0 k y0 y1 y2 y3) (puncheonlaw16_awake.j0 (k + 1) y0 y1 y2 y3))
  | 0 => fun _ _ _ _ r h => by simp [puncheonlaw16_awake.j0] at h
  | k + 1 => by
    have ih0 := puncheonlaw16_awake.mono_l k
    · intro y0 y1 y2 y3
      unfold puncheonlaw16_awake.j0
      repeat' first
      | (with_reducible exact ih0 _ _ _ _)
      | (with_reducible exact model_At.mono _ _ _ _ _)
      | (with_reducible exact model_Fits.mono _ _ _ _ _)
      | (with_reducible exact model_Right.mono _ _ _ _)
      | (with_reducible exact model_Zero.mono _ _)
      | (with_reducible exact LeO.refl _)
      | (with_reducible exact LeO.none _)
      | (with_reducible refine LeO.ite ?_ ?_)
      | (with_reducible refine LeO.bind ?_ (fun _ => ?_))
      | exact ih0 _ _ _ _
      | exact model_At.mono _ _ _ _ _
      | exact model_Fits.mono _ _ _ _ _
      | exact model_Right.mono _ _ _ _
      | exact model_Zero.mono _ _
      | exact LeO.none _
      | refine LeO.ite ?_ ?_
      | refine LeO.bind ?_ (fun _ => ?_)
theorem puncheonlaw16_awake.mono : ∀ k, LeO (puncheonlaw16_awake.f k ) (puncheonlaw16_awake.f (k + 1) ) := by
  intro  k
  have ih0 := puncheonlaw16_awake.mono_l k
  unfold puncheonlaw16_awake.f
  repeat' first
      | (with_reducible exact ih0 _ _ _ _)
      | (with_reducible exact model_At.mono _ _ _ _ _)
      | (with_reducible exact model_Fits.mono _ _ _ _ _)
      | (with_reducible exact model_Right.mono _ _ _ _)
      | (with_reducible exact model_Zero.mono _ _)
      | (with_reducible exact LeO.refl _)
      | (with_reducible exact LeO.none _)
      | (with_reducible refine LeO.ite ?_ ?_)
      | (with_reducible refine LeO.bind ?_ (fun _ => ?_))
      | exact ih0 _ _ _ _
      | exact model_At.mono _ _ _ _ _
      | exact model_Fits.mono _ _ _ _ _
      | exact model_Right.mono _ _ _ _
      | exact model_Zero.mono _ _
      | exact LeO.none _
      | refine LeO.ite ?_ ?_
      | refine LeO.bind ?_ (fun _ => ?_)
set_option maxHeartbeats 8000000 in
set_option maxRecDepth 100000 in
theorem puncheonlaw16_awake.calls (k : Nat)  (r : Bool) (w : World) (h : puncheonlaw16_awake.f k  = some r) :
    Calls Try.prog 8 #[] w fun e w' => e = .returned (.bool r) ∧ Below w.heap.size w w' := by
  have hu24 := Try.underlying24
  have HB := Aside0.mk (Below.refl w.heap.size w)
  have H : ((model_Zero.f k (([7, 7, 7] : List Int))).bind fun bt174 => (if bt174.2.2.2 = 0 then (if (bt174.2.2.1.length : Int) = 1 then ((model_Right.f k bt174.1 bt174.2.1 bt174.2.2.1).bind fun t181 => (puncheonlaw16_awake.j0 k (!t181) bt174.1 bt174.2.1 bt174.2.2.1)) else (puncheonlaw16_awake.j0 k true bt174.1 bt174.2.1 bt174.2.2.1)) else (puncheonlaw16_awake.j0 k true bt174.1 bt174.2.1 bt174.2.2.1))) = some r := h
  clear h
  obtain ⟨y171, hy171⟩ : ∃ y_ : List Int, y_ = (([7, 7, 7] : List Int)) := ⟨_, rfl⟩
  replace H : ((model_Zero.f k y171).bind fun bt174 => (if bt174.2.2.2 = 0 then (if (bt174.2.2.1.length : Int) = 1 then ((model_Right.f k bt174.1 bt174.2.1 bt174.2.2.1).bind fun t181 => (puncheonlaw16_awake.j0 k (!t181) bt174.1 bt174.2.1 bt174.2.2.1)) else (puncheonlaw16_awake.j0 k true bt174.1 bt174.2.1 bt174.2.2.1)) else (puncheonlaw16_awake.j0 k true bt174.1 bt174.2.1 bt174.2.2.1))) = some r := by first | (rw [hy171]; with_reducible exact H) | (have H2_ := (Option.bind_some _ _).symm.trans H; rw [hy171]; with_reducible exact H2_) | (have H2_ := (Option.bind_some _ _).symm.trans H; with_reducible exact H2_) | with_reducible exact H | (rw [hy171]; exact H) | exact H
  have Ny171 := Aside0.mk hy171
  clear hy171
  replace H := Option.bind_eq_some_iff.mp H
  obtain ⟨⟨t174, t175, t176, t179⟩, A10, H⟩ := H
  replace H : (if t179 = 0 then (if (t176.length : Int) = 1 then ((model_Right.f k t174 t175 t176).bind fun t181 => (puncheonlaw16_awake.j0 k (!t181) t174 t175 t176)) else (puncheonlaw16_awake.j0 k true t174 t175 t176)) else (puncheonlaw16_awake.j0 k true t174 t175 t176)) = some r := H
  have A1 := Aside0.mk A10
  clear A10
  have HC2 := Aside0.mk H
  clear H
  go_enter Try.func8, Try.ntmps8
  go_upto_region 2 with (first | ((with_reducible refine gate_dst (N := 5) rfl ?_); (try (refine gate_guard (by rfl) ?_; dsimp only)); refine Kd.R_lit (Kd.int .u8) _ 5 ?hg (N := 5) ?hd (xs := ([7, 7, 7] : List Int)) (inner := [.int .u8 7, .int .u8 7, .int .u8 7]) (ok := fun _ => True) (okp := fun _ => True) ?hr ?hp (fun _ hk => hk) trivial (Below.refl _ _) (Nat.le_refl _) (by simp) ?_; (case hd => rfl); (case hg => rfl); (case hr => first | (go_simp; done) | (go_simp; rfl)); (case hp => exact (Reps.one (show Kd.M (Kd.int .u8) _ _ _ 7 [.int .u8 7] from rfl) (Reps.one (show Kd.M (Kd.int .u8) _ _ _ 7 [.int .u8 7] from rfl) (Reps.one (show Kd.M (Kd.int .u8) _ _ _ 7 [.int .u8 7] from rfl) (Reps.none _ _))))); intro v172 w3 ho4 hb hg_ hnew_; clear hg_ hnew_; (first | rw [← Ny171.out] at ho4 | (simp only [Int.reduceToNat] at ho4; rw [← Ny171.out] at ho4)); have n0_ := Aside0.mk (Kd.R_lower ho4 (below_size (by repeat (first | (with_reducible first | exact HB.out | apply below_alloc | apply pw_below_drewN | apply below_drew1) | exact HB.out)))); have n1_ := Aside0.mk (below_step (by repeat (first | (with_reducible first | exact HB.out | apply below_alloc | apply pw_below_drewN | apply below_drew1) | exact HB.out)) hb); clear HB; have HO173 := n0_; have HB := n1_; clear n0_ n1_; clear hb ho4; obtain ⟨Ao5, co5, eo5⟩ := Kd.R_slice HO173.out; subst eo5) | ((with_reducible refine gate_callee (f := 17) rfl ?_); refine goesL_ (some 6) rfl rfl Try.func17 (by kernel_rfl) rfl #[.slice Ao5 y171.length co5] rfl (by (try simp only [List.map_toArray, List.map_cons, List.map_nil]); first | done | rfl | (simp only [List.length_drop, List.length_take]; rfl)) ?_; (with_reducible refine (model_Zero.calls k _ _ y171 t174 t175 t176 t179 _ ?side1 ?side2 A1.out).mono ?_); (case side1 => repeat (first | exact (Kd.R_reads' HO173.out).2.2 | (with_reducible refine Kd.C_alloc ?_ _) | (with_reducible refine Kd.C_drewN ?_ _) | (with_reducible refine Kd.C_drew ?_))); (case side2 => exact (Kd.R_reads' HO173.out).2.1); rintro e w6 ⟨v177, rfl, ho0, hb⟩; refine ⟨_, rfl, ?_⟩; have n0_ := Aside0.mk (Kd.R_below (by (with_reducible repeat (first | apply Kd.R_alloc | apply Kd.R_drewN | apply Kd.R_drew)); exact HO173.out) hb); have n1_ := Aside0.mk (Kd.N_lower (Kd.N_mono (ok' := fun k_ => some k_ ≠ (.slice Ao5 y171.length co5 : Value).ownBlock) ho0 (fun k_ hk_ => (Kd.fresh' (Kd.R_lt (by (with_reducible repeat (first | apply Kd.R_alloc | apply Kd.R_drewN | apply Kd.R_drew)); exact HO173.out)) k_ hk_))) (below_size (by repeat (first | (with_reducible first | exact HB.out | apply below_alloc | apply pw_below_drewN | apply below_drew1) | exact HB.out)))); have n2_ := Aside0.mk (below_step (by repeat (first | (with_reducible first | exact HB.out | apply below_alloc | apply pw_below_drewN | apply below_drew1) | exact HB.out)) hb); clear HO173; clear HB; have HO173 := n0_; have HO178 := n1_; have HB := n2_; clear n0_ n1_ n2_; (try clear hb); (try clear hb2); (try clear hk); (try clear hi); (try clear ho0)) | ((with_reducible refine gate_dst (N := 1) rfl ?_); (try (refine gate_guard (by rfl) ?_; dsimp only)); refine box_event ?hg (N := 1) ?hd (cs := #[.int .i64 0, .bool false, .slice none 0 0]) (t := 24) ?hr ?_; (case hd => rfl); (case hg => rfl); (case hr => first | (go_simp; done) | (go_simp; rfl)); intro gb180 hg w7 hbox hb; have n0_ := Aside0.mk (Kd.R_below (by (with_reducible repeat (first | apply Kd.R_alloc | apply Kd.R_drewN | apply Kd.R_drew)); exact HO173.out) hb); have n1_ := Aside0.mk (Kd.N_below (Kd.N_elderB (by (with_reducible repeat (first | apply Kd.N_alloc | apply Kd.N_drewN | apply Kd.N_drew)); exact HO178.out) gb180 (Nat.le_of_eq hg.symm)) hb); have n2_ := Aside0.mk (below_step (by repeat (first | (with_reducible first | exact HB.out | apply below_alloc | apply pw_below_drewN | apply below_drew1) | exact HB.out)) hb); have n3_ := Aside0.mk (hbox); have n4_ := Aside0.mk ((by rw [hg]; exact (below_size (by repeat (first | (with_reducible first | exact HB.out | apply below_alloc | apply pw_below_drewN | apply below_drew1) | exact HB.out))) : w.heap.size ≤ gb180)); have n5_ := Aside0.mk ((by rw [hg]; exact (below_size (by repeat (first | (with_reducible first | exact HB.out | apply below_alloc | apply pw_below_drewN | apply below_drew1) | exact HB.out))) : w.heap.size ≤ gb180)); clear HO173; clear HO178; clear HB; have HO173 := n0_; have HO178 := n1_; have HB := n2_; have BK180 := n3_; have GW180 := n4_; have GE180 := n5_; clear n0_ n1_ n2_ n3_ n4_ n5_; clear hb hbox hg; have hcz8_0 : w7.cell? ⟨gb180, 0, none⟩ = some (.int .i64 0) := (blk_cell BK180.out 0).trans rfl; have hcz8_1 : w7.cell? ⟨gb180, 1, none⟩ = some (.bool false) := (blk_cell BK180.out 1).trans rfl; have hcz8_2 : w7.cell? ⟨gb180, 2, none⟩ = some (.slice none 0 0) := (blk_cell BK180.out 2).trans rfl; have hfz8_0 := blk_frozen BK180.out 0; have hfz8_1 := blk_frozen BK180.out 1; have hfz8_2 := blk_frozen BK180.out 2; obtain ⟨Ao9, co9, eo9⟩ := Kd.N_slice HO178.out; subst eo9))
  (try simp only [Act.put, List.setIfInBounds_toArray, List.set_cons_zero, List.set_cons_succ])
  go_cut [21] (fun v21 wc => ∃ (kq : Nat) (x21_1 : Bool), v21 = .bool x21_1 ∧ Aside0 (puncheonlaw16_awake.j0 kq x21_1 t174 t175 t176 = some r) ∧ Aside0 (kq ≤ k) ∧ Aside0 (Kd.N (Kd.slice 3 (Kd.int .i64)) 29 wc w.heap.size (fun k_ => k_ ≠ gb180) (.slice Ao9 t176.length co9) t176) ∧ Aside0 (wc.heap[gb180]? = some (.cells #[.int .i64 t174, .bool t175, (.slice Ao9 t176.length co9)] 24 (0, 0))) ∧ Aside0 (Below w.heap.size w wc))
  case first =>
    have H := HC2.out
    clear HC2
    by_cases c10 : t179 = 0
    · rw [if_pos c10] at H
      have c10b0 : (t179 == 0) = true := beq_iff_eq.mpr c10
      have c10b1 : (t179 != 0) = false := bne_eq_false_iff_eq.mpr c10
      clear c10
      (first | rw [c10b0] | (simp only [i64_w, i32_w]; rw [c10b0]) | skip)
      by_cases c11 : (t176.length : Int) = 1
      · rw [if_pos c11] at H
        have c11b0 : ((t176.length : Int) == 1) = true := beq_iff_eq.mpr c11
        have c11b1 : ((t176.length : Int) != 1) = false := bne_eq_false_iff_eq.mpr c11
        clear c11
        replace H := Option.bind_eq_some_iff.mp H
        obtain ⟨t181, A120, H⟩ := H
        replace H : (puncheonlaw16_awake.j0 k (!t181) t174 t175 t176) = some r := H
        have A12 := Aside0.mk A120
        clear A120
        have H' := Aside0.mk H
        clear H
        have hcz13_0 : w7.cell? ⟨gb180, 0, none⟩ = some (.int .i64 0) := (blk_cell BK180.out 0).trans rfl
        have hcz13_1 : w7.cell? ⟨gb180, 1, none⟩ = some (.bool false) := (blk_cell BK180.out 1).trans rfl
        have hcz13_2 : w7.cell? ⟨gb180, 2, none⟩ = some (.slice none 0 0) := (blk_cell BK180.out 2).trans rfl
        have hfz13_0 := blk_frozen BK180.out 0
        have hfz13_1 := blk_frozen BK180.out 1
        have hfz13_2 := blk_frozen BK180.out 2
        go_wp2_with (first | (go_at_call 10; (with_reducible refine (model_Right.calls k t174 t175 _ _ t176 t181 _ ?side1 ?side2 A12.out).mono ?_); (case side1 => refine (Kd.N_reads' (e := 29) (base := w.heap.size) (ok := fun k_ => (some k_ ≠ (.slice Ao5 y171.length co5 : Value).ownBlock ∧ k_ ≠ gb180)) (n := t176.length) (c := co9) ?_).2.2; exact (by (with_reducible repeat (first | apply Kd.N_alloc | apply Kd.N_drewN | apply Kd.N_drew)); exact (Kd.N_mono (Kd.N_far (p := ⟨gb180, 2, none⟩) (Kd.N_far (p := ⟨gb180, 1, none⟩) (Kd.N_far (p := ⟨gb180, 0, none⟩) (Kd.N_mono HO178.out (fun k_ hk => (⟨hk, hk.2⟩ : _ ∧ k_ ≠ gb180))) (fun _ hk => hk.2) (.int .i64 t174)) (fun _ hk => hk.2) (.bool t175)) (fun _ hk => hk.2) (.slice Ao9 t176.length co9)) (fun _ h_ => h_.1)))); (case side2 => exact (Kd.N_reads' HO178.out).2.1); rintro e w14 ⟨rfl, hb⟩; have n0_ := Aside0.mk (Kd.R_below (by (with_reducible repeat (first | apply Kd.R_alloc | apply Kd.R_drewN | apply Kd.R_drew)); exact (Kd.R_mono (Kd.R_far (p := ⟨gb180, 2, none⟩) (Kd.R_far (p := ⟨gb180, 1, none⟩) (Kd.R_far (p := ⟨gb180, 0, none⟩) (Kd.R_types HO173.out BK180.out (by decide)) (fun _ hk => hk.2) (.int .i64 t174)) (fun _ hk => hk.2) (.bool t175)) (fun _ hk => hk.2) (.slice Ao9 t176.length co9)) (fun _ h_ => h_.1))) hb); have n1_ := Aside0.mk (Kd.N_below (by (with_reducible repeat (first | apply Kd.N_alloc | apply Kd.N_drewN | apply Kd.N_drew)); exact (Kd.N_mono (Kd.N_far (p := ⟨gb180, 2, none⟩) (Kd.N_far (p := ⟨gb180, 1, none⟩) (Kd.N_far (p := ⟨gb180, 0, none⟩) (Kd.N_mono HO178.out (fun k_ hk => (⟨hk, hk.2⟩ : _ ∧ k_ ≠ gb180))) (fun _ hk => hk.2) (.int .i64 t174)) (fun _ hk => hk.2) (.bool t175)) (fun _ hk => hk.2) (.slice Ao9 t176.length co9)) (fun _ h_ => h_.1))) hb); have n2_ := Aside0.mk (blk_below (g := gb180) (o := .cells #[.int .i64 t174, .bool t175, .slice Ao9 t176.length co9] 24 (0, 0)) (by (with_reducible repeat (first | refine blk_drewN ?_ _ | refine blk_drew ?_ | refine blk_alloc ?_ _)); refine blk_put (cs := #[.int .i64 t174, .bool t175, .slice none 0 0]) ?_ 2 _ rfl; (with_reducible repeat (first | refine blk_drewN ?_ _ | refine blk_drew ?_ | refine blk_alloc ?_ _)); refine blk_put (cs := #[.int .i64 t174, .bool false, .slice none 0 0]) ?_ 1 _ rfl; (with_reducible repeat (first | refine blk_drewN ?_ _ | refine blk_drew ?_ | refine blk_alloc ?_ _)); refine blk_put (cs := #[.int .i64 0, .bool false, .slice none 0 0]) ?_ 0 _ rfl; (with_reducible repeat (first | refine blk_drewN ?_ _ | refine blk_drew ?_ | refine blk_alloc ?_ _)); exact BK180.out) hb); have n3_ := Aside0.mk (below_step (by repeat (first | (with_reducible first | exact HB.out | apply below_alloc | apply pw_below_drewN | apply below_drew1 | refine below_set ?_ GE180.out) | exact HB.out)) hb); clear HO173; clear HO178; clear BK180; clear HB; have HO173 := n0_; have HO178 := n1_; have BK180 := n2_; have HB := n3_; clear n0_ n1_ n2_ n3_; (try clear hb); (try clear hb2); (try clear hk); (try clear hi)))
        go_meet
        case rel => exact ⟨_, (!t181), (by first | rfl | (simp; done) | (simp [*]; done)), H', ⟨by first | omega | exact Nat.le_refl _⟩, ⟨by (with_reducible repeat (first | apply Kd.N_alloc | apply Kd.N_drewN | apply Kd.N_drew)); exact Kd.N_mono HO178.out (fun _ hk => hk.2)⟩, ⟨by (with_reducible repeat (first | refine blk_drewN ?_ _ | refine blk_drew ?_ | refine blk_alloc ?_ _)); exact BK180.out⟩, ⟨by repeat (first | (with_reducible first | exact HB.out | apply below_alloc | apply pw_below_drewN | apply below_drew1 | refine below_set ?_ GE180.out) | exact HB.out)⟩⟩
      · rw [if_neg c11] at H
        have c11b0 : ((t176.length : Int) == 1) = false := beq_eq_false_iff_ne.mpr c11
        have c11b1 : ((t176.length : Int) != 1) = true := bne_iff_ne.mpr c11
        have H' := Aside0.mk H
        clear H
        have hcz15_0 : w7.cell? ⟨gb180, 0, none⟩ = some (.int .i64 0) := (blk_cell BK180.out 0).trans rfl
        have hcz15_1 : w7.cell? ⟨gb180, 1, none⟩ = some (.bool false) := (blk_cell BK180.out 1).trans rfl
        have hcz15_2 : w7.cell? ⟨gb180, 2, none⟩ = some (.slice none 0 0) := (blk_cell BK180.out 2).trans rfl
        have hfz15_0 := blk_frozen BK180.out 0
        have hfz15_1 := blk_frozen BK180.out 1
        have hfz15_2 := blk_frozen BK180.out 2
        go_wp2
        go_meet
        case rel => exact ⟨_, (true), (by first | rfl | (simp; done) | (simp [*]; done)), H', ⟨by first | omega | exact Nat.le_refl _⟩, ⟨by (with_reducible repeat (first | apply Kd.N_alloc | apply Kd.N_drewN | apply Kd.N_drew)); exact Kd.N_mono (Kd.N_far (p := ⟨gb180, 2, none⟩) (Kd.N_far (p := ⟨gb180, 1, none⟩) (Kd.N_far (p := ⟨gb180, 0, none⟩) (Kd.N_mono HO178.out (fun k_ hk => (⟨hk, hk.2⟩ : _ ∧ k_ ≠ gb180))) (fun _ hk => hk.2) (.int .i64 t174)) (fun _ hk => hk.2) (.bool t175)) (fun _ hk => hk.2) (.slice Ao9 t176.length co9)) (fun _ hk => hk.1.2)⟩, ⟨by (with_reducible repeat (first | refine blk_drewN ?_ _ | refine blk_drew ?_ | refine blk_alloc ?_ _)); refine blk_put (cs := #[.int .i64 t174, .bool t175, .slice none 0 0]) ?_ 2 _ rfl; (with_reducible repeat (first | refine blk_drewN ?_ _ | refine blk_drew ?_ | refine blk_alloc ?_ _)); refine blk_put (cs := #[.int .i64 t174, .bool false, .slice none 0 0]) ?_ 1 _ rfl; (with_reducible repeat (first | refine blk_drewN ?_ _ | refine blk_drew ?_ | refine blk_alloc ?_ _)); refine blk_put (cs := #[.int .i64 0, .bool false, .slice none 0 0]) ?_ 0 _ rfl; (with_reducible repeat (first | refine blk_drewN ?_ _ | refine blk_drew ?_ | refine blk_alloc ?_ _)); exact BK180.out⟩, ⟨by repeat (first | (with_reducible first | exact HB.out | apply below_alloc | apply pw_below_drewN | apply below_drew1 | refine below_set ?_ GE180.out) | exact HB.out)⟩⟩
    · rw [if_neg c10] at H
      have c10b0 : (t179 == 0) = false := beq_eq_false_iff_ne.mpr c10
      have c10b1 : (t179 != 0) = true := bne_iff_ne.mpr c10
      (first | rw [c10b0] | (simp only [i64_w, i32_w]; rw [c10b0]) | skip)
      have H' := Aside0.mk H
      clear H
      go_wp2
      go_meet
      case rel => exact ⟨_, (true), (by first | rfl | (simp; done) | (simp [*]; done)), H', ⟨by first | omega | exact Nat.le_refl _⟩, ⟨by (with_reducible repeat (first | apply Kd.N_alloc | apply Kd.N_drewN | apply Kd.N_drew)); exact Kd.N_mono (Kd.N_far (p := ⟨gb180, 2, none⟩) (Kd.N_far (p := ⟨gb180, 1, none⟩) (Kd.N_far (p := ⟨gb180, 0, none⟩) (Kd.N_mono HO178.out (fun k_ hk => (⟨hk, hk.2⟩ : _ ∧ k_ ≠ gb180))) (fun _ hk => hk.2) (.int .i64 t174)) (fun _ hk => hk.2) (.bool t175)) (fun _ hk => hk.2) (.slice Ao9 t176.length co9)) (fun _ hk => hk.1.2)⟩, ⟨by (with_reducible repeat (first | refine blk_drewN ?_ _ | refine blk_drew ?_ | refine blk_alloc ?_ _)); refine blk_put (cs := #[.int .i64 t174, .bool t175, .slice none 0 0]) ?_ 2 _ rfl; (with_reducible repeat (first | refine blk_drewN ?_ _ | refine blk_drew ?_ | refine blk_alloc ?_ _)); refine blk_put (cs := #[.int .i64 t174, .bool false, .slice none 0 0]) ?_ 1 _ rfl; (with_reducible repeat (first | refine blk_drewN ?_ _ | refine blk_drew ?_ | refine blk_alloc ?_ _)); refine blk_put (cs := #[.int .i64 0, .bool false, .slice none 0 0]) ?_ 0 _ rfl; (with_reducible repeat (first | refine blk_drewN ?_ _ | refine blk_drew ?_ | refine blk_alloc ?_ _)); exact BK180.out⟩, ⟨by repeat (first | (with_reducible first | exact HB.out | apply below_alloc | apply pw_below_drewN | apply below_drew1 | refine below_set ?_ GE180.out) | exact HB.out)⟩⟩
  case rest =>
    clear HC2
    try clear c1
    try clear p2
    try clear c8
    try clear c10
    try clear c10b0
    try clear c10b1
    try clear c11
    try clear c11b0
    try clear c11b1
    try clear hcz13_0
    try clear hcz13_1
    try clear hcz13_2
    try clear hcz15_0
    try clear hcz15_1
    try clear hcz15_2
    try clear hcz8_0
    try clear hcz8_1
    try clear hcz8_2
    try clear hfz13_0
    try clear hfz13_1
    try clear hfz13_2
    try clear hfz15_0
    try clear hfz15_1
    try clear hfz15_2
    try clear hfz8_0
    try clear hfz8_1
    try clear hfz8_2
    obtain ⟨kq, x21_1, rfl, HA, HJ1, HO_181002, BK180, HB⟩ := hcut
    cases kq with
    | zero => exact absurd HA.out (by simp [puncheonlaw16_awake.j0])
    | succ kj1 =>
      have H := HA.out
      clear HA
      simp only [puncheonlaw16_awake.j0] at H
      by_cases c16 : x21_1 = true
      · subst c16
        have H1 : (some false) = some r := by rw [if_pos rfl] at H; exact H
        clear H
        have H := H1
        clear H1
        obtain rfl := Option.some.inj H
        go_wp2
        go_ret
        exact ⟨by first | rfl | (simp [errW_none, errW_some] <;> rfl) | (simp [*, errW_none, errW_some] <;> rfl), by repeat (first | (with_reducible first | exact HB.out | apply below_alloc | apply pw_below_drewN | apply below_drew1 | refine below_set ?_ GE180.out) | exact HB.out)⟩
      · replace c16 := Bool.eq_false_iff.mpr c16
        subst c16
        have H1 : ((model_At.f kj1 t174 t175 t176 9).bind fun t182 => (if (t182.length : Int) = 256 then (if t174 = 5 then (if t175 = true then (if 7 < (t182.length : Int) then (if (rd t182 7) = 32 then ((model_Fits.f kj1 t174 t175 t176 (([7] : List Int))).bind fun t189 => (some t189)) else (some false)) else (none)) else (some false)) else (some false)) else (some false))) = some r := by rw [if_neg (show ¬ (false = true) by decide)] at H; exact H
        clear H
        have H := H1
        clear H1
        replace H := Option.bind_eq_some_iff.mp H
        obtain ⟨t182, A170, H⟩ := H
        replace H : (if (t182.length : Int) = 256 then (if t174 = 5 then (if t175 = true then (if 7 < (t182.length : Int) then (if (rd t182 7) = 32 then ((model_Fits.f kj1 t174 t175 t176 (([7] : List Int))).bind fun t189 => (some t189)) else (some false)) else (none)) else (some false)) else (some false)) else (some false)) = some r := H
        have A17 := Aside0.mk A170
        clear A170
        by_cases c18 : (t182.length : Int) = 256
        · rw [if_pos c18] at H
          have c18b0 : ((t182.length : Int) == 256) = true := beq_iff_eq.mpr c18
          have c18b1 : ((t182.length : Int) != 256) = false := bne_eq_false_iff_eq.mpr c18
          clear c18
          by_cases c19 : t174 = 5
          · rw [if_pos c19] at H
            have c19b0 : (t174 == 5) = true := beq_iff_eq.mpr c19
            have c19b1 : (t174 != 5) = false := bne_eq_false_iff_eq.mpr c19
            clear c19
            by_cases c20 : t175 = true
            · subst c20
              have H1 : (if 7 < (t182.length : Int) then (if (rd t182 7) = 32 then ((model_Fits.f kj1 t174 true t176 (([7] : List Int))).bind fun t189 => (some t189)) else (some false)) else (none)) = some r := by rw [if_pos rfl] at H; exact H
              clear H
              have H := H1
              clear H1
              by_cases c21 : 7 < (t182.length : Int)
              · rw [if_pos c21] at H
                have c21b0 : decide (7 < (t182.length : Int)) = true := decide_eq_true c21
                have c21b1 : decide (7 < t182.length) = true := decide_eq_true (by omega)
                clear c21
                by_cases c22 : (rd t182 7) = 32
                · rw [if_pos c22] at H
                  have c22b0 : ((rd t182 7) == 32) = true := beq_iff_eq.mpr c22
                  have c22b1 : ((rd t182 7) != 32) = false := bne_eq_false_iff_eq.mpr c22
                  clear c22
                  obtain ⟨y186, hy186⟩ : ∃ y_ : List Int, y_ = (([7] : List Int)) := ⟨_, rfl⟩
                  replace H : ((model_Fits.f kj1 t174 true t176 y186).bind fun t189 => (some t189)) = some r := by first | (rw [hy186]; with_reducible exact H) | (have H2_ := (Option.bind_some _ _).symm.trans H; rw [hy186]; with_reducible exact H2_) | (have H2_ := (Option.bind_some _ _).symm.trans H; with_reducible exact H2_) | with_reducible exact H | (rw [hy186]; exact H) | exact H
                  have Ny186 := Aside0.mk hy186
                  clear hy186
                  replace H := Option.bind_eq_some_iff.mp H
                  obtain ⟨t189, A230, H⟩ := H
                  replace H : (some t189) = some r := H
                  have A23 := Aside0.mk A230
                  clear A230
                  obtain rfl := Option.some.inj H
                  have hcz24_0 : wc.cell? ⟨gb180, 0, none⟩ = some (.int .i64 t174) := (blk_cell BK180.out 0).trans rfl
                  have hcz24_1 : wc.cell? ⟨gb180, 1, none⟩ = some (.bool true) := (blk_cell BK180.out 1).trans rfl
                  have hcz24_2 : wc.cell? ⟨gb180, 2, none⟩ = some (.slice Ao9 t176.length co9) := (blk_cell BK180.out 2).trans rfl
                  have hfz24_0 := blk_frozen BK180.out 0
                  have hfz24_1 := blk_frozen BK180.out 1
                  have hfz24_2 := blk_frozen BK180.out 2
                  go_wp2_with (first | ((with_reducible refine gate_callee (f := 13) rfl ?_); refine goesL_ (some 23) rfl rfl Try.func13 (by kernel_rfl) rfl #[.agg #[.int .i64 t174, .bool true, .slice Ao9 t176.length co9], .int .i64 9] rfl (by (try simp only [List.map_toArray, List.map_cons, List.map_nil]); first | done | rfl | (simp only [List.length_drop, List.length_take]; rfl)) ?_; (with_reducible refine (model_At.calls kj1 t174 true _ _ t176 9 t182 _ ?side1 ?side2 A17.out).mono ?_); (case side1 => repeat (first | exact (Kd.N_reads' HO_181002.out).2.2 | (with_reducible refine Kd.C_alloc ?_ _) | (with_reducible refine Kd.C_drewN ?_ _) | (with_reducible refine Kd.C_drew ?_))); (case side2 => exact (Kd.N_reads' HO_181002.out).2.1); rintro e w25 ⟨v183, rfl, ho0, hb⟩; refine ⟨_, rfl, ?_⟩; have n0_ := Aside0.mk (Kd.N_elder' (by (with_reducible repeat (first | apply Kd.N_alloc | apply Kd.N_drewN | apply Kd.N_drew)); exact HO_181002.out) (Kd.R_base ho0) hb); have n1_ := Aside0.mk (Kd.R_lower ho0 (below_size (by repeat (first | (with_reducible first | exact HB.out | apply below_alloc | apply pw_below_drewN | apply below_drew1 | refine below_set ?_ GE180.out) | exact HB.out)))); have n2_ := Aside0.mk (blk_below (g := gb180) (o := .cells #[.int .i64 t174, .bool true, .slice Ao9 t176.length co9] 24 (0, 0)) (by (with_reducible repeat (first | refine blk_drewN ?_ _ | refine blk_drew ?_ | refine blk_alloc ?_ _)); exact BK180.out) hb); have n3_ := Aside0.mk (below_step (by repeat (first | (with_reducible first | exact HB.out | apply below_alloc | apply pw_below_drewN | apply below_drew1 | refine below_set ?_ GE180.out) | exact HB.out)) hb); clear HO_181002; clear BK180; clear HB; have HO_181002 := n0_; have HO184 := n1_; have BK180 := n2_; have HB := n3_; clear n0_ n1_ n2_ n3_; (try clear hb); (try clear hb2); (try clear hk); (try clear hi); (try clear ho0); obtain ⟨Ao26, co26, eo26⟩ := Kd.R_slice HO184.out; subst eo26; have hcz27_0 : w25.cell? ⟨gb180, 0, none⟩ = some (.int .i64 t174) := (blk_cell BK180.out 0).trans rfl; have hcz27_1 : w25.cell? ⟨gb180, 1, none⟩ = some (.bool true) := (blk_cell BK180.out 1).trans rfl; have hcz27_2 : w25.cell? ⟨gb180, 2, none⟩ = some (.slice Ao9 t176.length co9) := (blk_cell BK180.out 2).trans rfl; have hfz27_0 := blk_frozen BK180.out 0; have hfz27_1 := blk_frozen BK180.out 1; have hfz27_2 := blk_frozen BK180.out 2; have p185 : 0 ≤ (7 : Int) := (by omega); have q185 : 7 < (t182.length : Int) := of_decide_eq_true (by first | (with_reducible assumption) | assumption); obtain ⟨ad185, e185, hx185_0⟩ := Kd.at_int (Kd.R_reads' HO184.out).2.2 7 p185 q185; cases e185; (try simp only [show (7 : Int).toNat = 7 from rfl, Nat.reduceMul, Nat.reduceEqDiff, Go.Addr.add, ↓reduceIte] at hx185_0); have qi185 : (7 < t182.length) = True := eq_true (by omega); (try rw [show ((7 : Int)).toNat = 7 from rfl] at hx185_0); replace p185 := eq_true p185; replace q185 := eq_true q185) | ((with_reducible refine gate_dst (N := 42) rfl ?_); (try (refine gate_guard (by rfl) ?_; dsimp only)); refine Kd.R_lit (Kd.int .u8) _ 5 ?hg (N := 42) ?hd (xs := ([7] : List Int)) (inner := [.int .u8 7]) (ok := fun _ => True) (okp := fun _ => True) ?hr ?hp (fun _ hk => hk) trivial (Below.refl _ _) (Nat.le_refl _) (by simp) ?_; (case hd => rfl); (case hg => rfl); (case hr => first | (go_simp; done) | (go_simp; rfl)); (case hp => exact (Reps.one (show Kd.M (Kd.int .u8) _ _ _ 7 [.int .u8 7] from rfl) (Reps.none _ _))); intro v187 w28 ho29 hb hg_ hnew_; clear hg_ hnew_; (first | rw [← Ny186.out] at ho29 | (simp only [Int.reduceToNat] at ho29; rw [← Ny186.out] at ho29)); have n0_ := Aside0.mk (Kd.N_elder' (by (with_reducible repeat (first | apply Kd.N_alloc | apply Kd.N_drewN | apply Kd.N_drew)); exact HO_181002.out) (Kd.R_base ho29) hb); have n1_ := Aside0.mk (Kd.R_below (by (with_reducible repeat (first | apply Kd.R_alloc | apply Kd.R_drewN | apply Kd.R_drew)); exact HO184.out) hb); have n2_ := Aside0.mk (Kd.R_lower ho29 (below_size (by repeat (first | (with_reducible first | exact HB.out | apply below_alloc | apply pw_below_drewN | apply below_drew1 | refine below_set ?_ GE180.out) | exact HB.out)))); have n3_ := Aside0.mk (blk_below (g := gb180) (o := .cells #[.int .i64 t174, .bool true, .slice Ao9 t176.length co9] 24 (0, 0)) (by (with_reducible repeat (first | refine blk_drewN ?_ _ | refine blk_drew ?_ | refine blk_alloc ?_ _)); exact BK180.out) hb); have n4_ := Aside0.mk (below_step (by repeat (first | (with_reducible first | exact HB.out | apply below_alloc | apply pw_below_drewN | apply below_drew1 | refine below_set ?_ GE180.out) | exact HB.out)) hb); clear HO_181002; clear HO184; clear BK180; clear HB; have HO_181002 := n0_; have HO184 := n1_; have HO188 := n2_; have BK180 := n3_; have HB := n4_; clear n0_ n1_ n2_ n3_ n4_; clear hb ho29; obtain ⟨Ao30, co30, eo30⟩ := Kd.R_slice HO188.out; subst eo30) | (go_at_call 15; (with_reducible refine (model_Fits.calls kj1 t174 true _ _ t176 _ _ y186 t189 _ ?side1 ?side2 ?side3 ?side4 A23.out).mono ?_); (case side1 => repeat (first | exact (Kd.N_reads' HO_181002.out).2.2 | (with_reducible refine Kd.C_alloc ?_ _) | (with_reducible refine Kd.C_drewN ?_ _) | (with_reducible refine Kd.C_drew ?_))); (case side2 => exact (Kd.N_reads' HO_181002.out).2.1); (case side3 => repeat (first | exact (Kd.R_reads' HO188.out).2.2 | (with_reducible refine Kd.C_alloc ?_ _) | (with_reducible refine Kd.C_drewN ?_ _) | (with_reducible refine Kd.C_drew ?_))); (case side4 => exact (Kd.R_reads' HO188.out).2.1); rintro e w31 ⟨rfl, hb⟩; have n0_ := Aside0.mk (Kd.N_below (by (with_reducible repeat (first | apply Kd.N_alloc | apply Kd.N_drewN | apply Kd.N_drew)); exact HO_181002.out) hb); have n1_ := Aside0.mk (Kd.R_below (by (with_reducible repeat (first | apply Kd.R_alloc | apply Kd.R_drewN | apply Kd.R_drew)); exact HO184.out) hb); have n2_ := Aside0.mk (Kd.R_below (by (with_reducible repeat (first | apply Kd.R_alloc | apply Kd.R_drewN | apply Kd.R_drew)); exact HO188.out) hb); have n3_ := Aside0.mk (blk_below (g := gb180) (o := .cells #[.int .i64 t174, .bool true, .slice Ao9 t176.length co9] 24 (0, 0)) (by (with_reducible repeat (first | refine blk_drewN ?_ _ | refine blk_drew ?_ | refine blk_alloc ?_ _)); exact BK180.out) hb); have n4_ := Aside0.mk (below_step (by repeat (first | (with_reducible first | exact HB.out | apply below_alloc | apply pw_below_drewN | apply below_drew1 | refine below_set ?_ GE180.out) | exact HB.out)) hb); clear HO_181002; clear HO184; clear HO188; clear BK180; clear HB; have HO_181002 := n0_; have HO184 := n1_; have HO188 := n2_; have BK180 := n3_; have HB := n4_; clear n0_ n1_ n2_ n3_ n4_; (try clear hb); (try clear hb2); (try clear hk); (try clear hi)))
                  go_ret
                  exact ⟨by first | rfl | (simp [errW_none, errW_some] <;> rfl) | (simp [*, errW_none, errW_some] <;> rfl), by repeat (first | (with_reducible first | exact HB.out | apply below_alloc | apply pw_below_drewN | apply below_drew1 | refine below_set ?_ GE180.out) | exact HB.out)⟩
                · rw [if_neg c22] at H
                  have c22b0 : ((rd t182 7) == 32) = false := beq_eq_false_iff_ne.mpr c22
                  have c22b1 : ((rd t182 7) != 32) = true := bne_iff_ne.mpr c22
                  obtain rfl := Option.some.inj H
                  have hcz32_0 : wc.cell? ⟨gb180, 0, none⟩ = some (.int .i64 t174) := (blk_cell BK180.out 0).trans rfl
                  have hcz32_1 : wc.cell? ⟨gb180, 1, none⟩ = some (.bool true) := (blk_cell BK180.out 1).trans rfl
                  have hcz32_2 : wc.cell? ⟨gb180, 2, none⟩ = some (.slice Ao9 t176.length co9) := (blk_cell BK180.out 2).trans rfl
                  have hfz32_0 := blk_frozen BK180.out 0
                  have hfz32_1 := blk_frozen BK180.out 1
                  have hfz32_2 := blk_frozen BK180.out 2
                  go_wp2_with (first | ((with_reducible refine gate_callee (f := 13) rfl ?_); refine goesL_ (some 23) rfl rfl Try.func13 (by kernel_rfl) rfl #[.agg #[.int .i64 t174, .bool true, .slice Ao9 t176.length co9], .int .i64 9] rfl (by (try simp only [List.map_toArray, List.map_cons, List.map_nil]); first | done | rfl | (simp only [List.length_drop, List.length_take]; rfl)) ?_; (with_reducible refine (model_At.calls kj1 t174 true _ _ t176 9 t182 _ ?side1 ?side2 A17.out).mono ?_); (case side1 => repeat (first | exact (Kd.N_reads' HO_181002.out).2.2 | (with_reducible refine Kd.C_alloc ?_ _) | (with_reducible refine Kd.C_drewN ?_ _) | (with_reducible refine Kd.C_drew ?_))); (case side2 => exact (Kd.N_reads' HO_181002.out).2.1); rintro e w33 ⟨v183, rfl, ho0, hb⟩; refine ⟨_, rfl, ?_⟩; have n0_ := Aside0.mk (Kd.N_elder' (by (with_reducible repeat (first | apply Kd.N_alloc | apply Kd.N_drewN | apply Kd.N_drew)); exact HO_181002.out) (Kd.R_base ho0) hb); have n1_ := Aside0.mk (Kd.R_lower ho0 (below_size (by repeat (first | (with_reducible first | exact HB.out | apply below_alloc | apply pw_below_drewN | apply below_drew1 | refine below_set ?_ GE180.out) | exact HB.out)))); have n2_ := Aside0.mk (blk_below (g := gb180) (o := .cells #[.int .i64 t174, .bool true, .slice Ao9 t176.length co9] 24 (0, 0)) (by (with_reducible repeat (first | refine blk_drewN ?_ _ | refine blk_drew ?_ | refine blk_alloc ?_ _)); exact BK180.out) hb); have n3_ := Aside0.mk (below_step (by repeat (first | (with_reducible first | exact HB.out | apply below_alloc | apply pw_below_drewN | apply below_drew1 | refine below_set ?_ GE180.out) | exact HB.out)) hb); clear HO_181002; clear BK180; clear HB; have HO_181002 := n0_; have HO184 := n1_; have BK180 := n2_; have HB := n3_; clear n0_ n1_ n2_ n3_; (try clear hb); (try clear hb2); (try clear hk); (try clear hi); (try clear ho0); obtain ⟨Ao34, co34, eo34⟩ := Kd.R_slice HO184.out; subst eo34; have hcz35_0 : w33.cell? ⟨gb180, 0, none⟩ = some (.int .i64 t174) := (blk_cell BK180.out 0).trans rfl; have hcz35_1 : w33.cell? ⟨gb180, 1, none⟩ = some (.bool true) := (blk_cell BK180.out 1).trans rfl; have hcz35_2 : w33.cell? ⟨gb180, 2, none⟩ = some (.slice Ao9 t176.length co9) := (blk_cell BK180.out 2).trans rfl; have hfz35_0 := blk_frozen BK180.out 0; have hfz35_1 := blk_frozen BK180.out 1; have hfz35_2 := blk_frozen BK180.out 2; have p185 : 0 ≤ (7 : Int) := (by omega); have q185 : 7 < (t182.length : Int) := of_decide_eq_true (by first | (with_reducible assumption) | assumption); obtain ⟨ad185, e185, hx185_0⟩ := Kd.at_int (Kd.R_reads' HO184.out).2.2 7 p185 q185; cases e185; (try simp only [show (7 : Int).toNat = 7 from rfl, Nat.reduceMul, Nat.reduceEqDiff, Go.Addr.add, ↓reduceIte] at hx185_0); have qi185 : (7 < t182.length) = True := eq_true (by omega); (try rw [show ((7 : Int)).toNat = 7 from rfl] at hx185_0); replace p185 := eq_true p185; replace q185 := eq_true q185))
                  go_ret
                  exact ⟨by first | rfl | (simp [errW_none, errW_some] <;> rfl) | (simp [*, errW_none, errW_some] <;> rfl), by repeat (first | (with_reducible first | exact HB.out | apply below_alloc | apply pw_below_drewN | apply below_drew1 | refine below_set ?_ GE180.out) | exact HB.out)⟩
              · rw [if_neg c21] at H
                exact absurd H (by simp)
            · replace c20 := Bool.eq_false_iff.mpr c20
              subst c20
              have H1 : (some false) = some r := by rw [if_neg (show ¬ (false = true) by decide)] at H; exact H
              clear H
              have H := H1
              clear H1
              obtain rfl := Option.some.inj H
              have hcz36_0 : wc.cell? ⟨gb180, 0, none⟩ = some (.int .i64 t174) := (blk_cell BK180.out 0).trans rfl
              have hcz36_1 : wc.cell? ⟨gb180, 1, none⟩ = some (.bool false) := (blk_cell BK180.out 1).trans rfl
              have hcz36_2 : wc.cell? ⟨gb180, 2, none⟩ = some (.slice Ao9 t176.length co9) := (blk_cell BK180.out 2).trans rfl
              have hfz36_0 := blk_frozen BK180.out 0
              have hfz36_1 := blk_frozen BK180.out 1
              have hfz36_2 := blk_frozen BK180.out 2
              go_wp2_with (first | ((with_reducible refine gate_callee (f := 13) rfl ?_); refine goesL_ (some 23) rfl rfl Try.func13 (by kernel_rfl) rfl #[.agg #[.int .i64 t174, .bool false, .slice Ao9 t176.length co9], .int .i64 9] rfl (by (try simp only [List.map_toArray, List.map_cons, List.map_nil]); first | done | rfl | (simp only [List.length_drop, List.length_take]; rfl)) ?_; (with_reducible refine (model_At.calls kj1 t174 false _ _ t176 9 t182 _ ?side1 ?side2 A17.out).mono ?_); (case side1 => repeat (first | exact (Kd.N_reads' HO_181002.out).2.2 | (with_reducible refine Kd.C_alloc ?_ _) | (with_reducible refine Kd.C_drewN ?_ _) | (with_reducible refine Kd.C_drew ?_))); (case side2 => exact (Kd.N_reads' HO_181002.out).2.1); rintro e w37 ⟨v183, rfl, ho0, hb⟩; refine ⟨_, rfl, ?_⟩; have n0_ := Aside0.mk (Kd.N_elder' (by (with_reducible repeat (first | apply Kd.N_alloc | apply Kd.N_drewN | apply Kd.N_drew)); exact HO_181002.out) (Kd.R_base ho0) hb); have n1_ := Aside0.mk (Kd.R_lower ho0 (below_size (by repeat (first | (with_reducible first | exact HB.out | apply below_alloc | apply pw_below_drewN | apply below_drew1 | refine below_set ?_ GE180.out) | exact HB.out)))); have n2_ := Aside0.mk (blk_below (g := gb180) (o := .cells #[.int .i64 t174, .bool false, .slice Ao9 t176.length co9] 24 (0, 0)) (by (with_reducible repeat (first | refine blk_drewN ?_ _ | refine blk_drew ?_ | refine blk_alloc ?_ _)); exact BK180.out) hb); have n3_ := Aside0.mk (below_step (by repeat (first | (with_reducible first | exact HB.out | apply below_alloc | apply pw_below_drewN | apply below_drew1 | refine below_set ?_ GE180.out) | exact HB.out)) hb); clear HO_181002; clear BK180; clear HB; have HO_181002 := n0_; have HO184 := n1_; have BK180 := n2_; have HB := n3_; clear n0_ n1_ n2_ n3_; (try clear hb); (try clear hb2); (try clear hk); (try clear hi); (try clear ho0); obtain ⟨Ao38, co38, eo38⟩ := Kd.R_slice HO184.out; subst eo38; have hcz39_0 : w37.cell? ⟨gb180, 0, none⟩ = some (.int .i64 t174) := (blk_cell BK180.out 0).trans rfl; have hcz39_1 : w37.cell? ⟨gb180, 1, none⟩ = some (.bool false) := (blk_cell BK180.out 1).trans rfl; have hcz39_2 : w37.cell? ⟨gb180, 2, none⟩ = some (.slice Ao9 t176.length co9) := (blk_cell BK180.out 2).trans rfl; have hfz39_0 := blk_frozen BK180.out 0; have hfz39_1 := blk_frozen BK180.out 1; have hfz39_2 := blk_frozen BK180.out 2))
              go_ret
              exact ⟨by first | rfl | (simp [errW_none, errW_some] <;> rfl) | (simp [*, errW_none, errW_some] <;> rfl), by repeat (first | (with_reducible first | exact HB.out | apply below_alloc | apply pw_below_drewN | apply below_drew1 | refine below_set ?_ GE180.out) | exact HB.out)⟩
          · rw [if_neg c19] at H
            have c19b0 : (t174 == 5) = false := beq_eq_false_iff_ne.mpr c19
            have c19b1 : (t174 != 5) = true := bne_iff_ne.mpr c19
            obtain rfl := Option.some.inj H
            have hcz40_0 : wc.cell? ⟨gb180, 0, none⟩ = some (.int .i64 t174) := (blk_cell BK180.out 0).trans rfl
            have hcz40_1 : wc.cell? ⟨gb180, 1, none⟩ = some (.bool t175) := (blk_cell BK180.out 1).trans rfl
            have hcz40_2 : wc.cell? ⟨gb180, 2, none⟩ = some (.slice Ao9 t176.length co9) := (blk_cell BK180.out 2).trans rfl
            have hfz40_0 := blk_frozen BK180.out 0
            have hfz40_1 := blk_frozen BK180.out 1
            have hfz40_2 := blk_frozen BK180.out 2
            go_wp2_with (first | ((with_reducible refine gate_callee (f := 13) rfl ?_); refine goesL_ (some 23) rfl rfl Try.func13 (by kernel_rfl) rfl #[.agg #[.int .i64 t174, .bool t175, .slice Ao9 t176.length co9], .int .i64 9] rfl (by (try simp only [List.map_toArray, List.map_cons, List.map_nil]); first | done | rfl | (simp only [List.length_drop, List.length_take]; rfl)) ?_; (with_reducible refine (model_At.calls kj1 t174 t175 _ _ t176 9 t182 _ ?side1 ?side2 A17.out).mono ?_); (case side1 => repeat (first | exact (Kd.N_reads' HO_181002.out).2.2 | (with_reducible refine Kd.C_alloc ?_ _) | (with_reducible refine Kd.C_drewN ?_ _) | (with_reducible refine Kd.C_drew ?_))); (case side2 => exact (Kd.N_reads' HO_181002.out).2.1); rintro e w41 ⟨v183, rfl, ho0, hb⟩; refine ⟨_, rfl, ?_⟩; have n0_ := Aside0.mk (Kd.N_elder' (by (with_reducible repeat (first | apply Kd.N_alloc | apply Kd.N_drewN | apply Kd.N_drew)); exact HO_181002.out) (Kd.R_base ho0) hb); have n1_ := Aside0.mk (Kd.R_lower ho0 (below_size (by repeat (first | (with_reducible first | exact HB.out | apply below_alloc | apply pw_below_drewN | apply below_drew1 | refine below_set ?_ GE180.out) | exact HB.out)))); have n2_ := Aside0.mk (blk_below (g := gb180) (o := .cells #[.int .i64 t174, .bool t175, .slice Ao9 t176.length co9] 24 (0, 0)) (by (with_reducible repeat (first | refine blk_drewN ?_ _ | refine blk_drew ?_ | refine blk_alloc ?_ _)); exact BK180.out) hb); have n3_ := Aside0.mk (below_step (by repeat (first | (with_reducible first | exact HB.out | apply below_alloc | apply pw_below_drewN | apply below_drew1 | refine below_set ?_ GE180.out) | exact HB.out)) hb); clear HO_181002; clear BK180; clear HB; have HO_181002 := n0_; have HO184 := n1_; have BK180 := n2_; have HB := n3_; clear n0_ n1_ n2_ n3_; (try clear hb); (try clear hb2); (try clear hk); (try clear hi); (try clear ho0); obtain ⟨Ao42, co42, eo42⟩ := Kd.R_slice HO184.out; subst eo42; have hcz43_0 : w41.cell? ⟨gb180, 0, none⟩ = some (.int .i64 t174) := (blk_cell BK180.out 0).trans rfl; have hcz43_1 : w41.cell? ⟨gb180, 1, none⟩ = some (.bool t175) := (blk_cell BK180.out 1).trans rfl; have hcz43_2 : w41.cell? ⟨gb180, 2, none⟩ = some (.slice Ao9 t176.length co9) := (blk_cell BK180.out 2).trans rfl; have hfz43_0 := blk_frozen BK180.out 0; have hfz43_1 := blk_frozen BK180.out 1; have hfz43_2 := blk_frozen BK180.out 2))
            go_ret
            exact ⟨by first | rfl | (simp [errW_none, errW_some] <;> rfl) | (simp [*, errW_none, errW_some] <;> rfl), by repeat (first | (with_reducible first | exact HB.out | apply below_alloc | apply pw_below_drewN | apply below_drew1 | refine below_set ?_ GE180.out) | exact HB.out)⟩
        · rw [if_neg c18] at H
          have c18b0 : ((t182.length : Int) == 256) = false := beq_eq_false_iff_ne.mpr c18
          have c18b1 : ((t182.length : Int) != 256) = true := bne_iff_ne.mpr c18
          obtain rfl := Option.some.inj H
          have hcz44_0 : wc.cell? ⟨gb180, 0, none⟩ = some (.int .i64 t174) := (blk_cell BK180.out 0).trans rfl
          have hcz44_1 : wc.cell? ⟨gb180, 1, none⟩ = some (.bool t175) := (blk_cell BK180.out 1).trans rfl
          have hcz44_2 : wc.cell? ⟨gb180, 2, none⟩ = some (.slice Ao9 t176.length co9) := (blk_cell BK180.out 2).trans rfl
          have hfz44_0 := blk_frozen BK180.out 0
          have hfz44_1 := blk_frozen BK180.out 1
          have hfz44_2 := blk_frozen BK180.out 2
          go_wp2_with (first | ((with_reducible refine gate_callee (f := 13) rfl ?_); refine goesL_ (some 23) rfl rfl Try.func13 (by kernel_rfl) rfl #[.agg #[.int .i64 t174, .bool t175, .slice Ao9 t176.length co9], .int .i64 9] rfl (by (try simp only [List.map_toArray, List.map_cons, List.map_nil]); first | done | rfl | (simp only [List.length_drop, List.length_take]; rfl)) ?_; (with_reducible refine (model_At.calls kj1 t174 t175 _ _ t176 9 t182 _ ?side1 ?side2 A17.out).mono ?_); (case side1 => repeat (first | exact (Kd.N_reads' HO_181002.out).2.2 | (with_reducible refine Kd.C_alloc ?_ _) | (with_reducible refine Kd.C_drewN ?_ _) | (with_reducible refine Kd.C_drew ?_))); (case side2 => exact (Kd.N_reads' HO_181002.out).2.1); rintro e w45 ⟨v183, rfl, ho0, hb⟩; refine ⟨_, rfl, ?_⟩; have n0_ := Aside0.mk (Kd.N_elder' (by (with_reducible repeat (first | apply Kd.N_alloc | apply Kd.N_drewN | apply Kd.N_drew)); exact HO_181002.out) (Kd.R_base ho0) hb); have n1_ := Aside0.mk (Kd.R_lower ho0 (below_size (by repeat (first | (with_reducible first | exact HB.out | apply below_alloc | apply pw_below_drewN | apply below_drew1 | refine below_set ?_ GE180.out) | exact HB.out)))); have n2_ := Aside0.mk (blk_below (g := gb180) (o := .cells #[.int .i64 t174, .bool t175, .slice Ao9 t176.length co9] 24 (0, 0)) (by (with_reducible repeat (first | refine blk_drewN ?_ _ | refine blk_drew ?_ | refine blk_alloc ?_ _)); exact BK180.out) hb); have n3_ := Aside0.mk (below_step (by repeat (first | (with_reducible first | exact HB.out | apply below_alloc | apply pw_below_drewN | apply below_drew1 | refine below_set ?_ GE180.out) | exact HB.out)) hb); clear HO_181002; clear BK180; clear HB; have HO_181002 := n0_; have HO184 := n1_; have BK180 := n2_; have HB := n3_; clear n0_ n1_ n2_ n3_; (try clear hb); (try clear hb2); (try clear hk); (try clear hi); (try clear ho0); obtain ⟨Ao46, co46, eo46⟩ := Kd.R_slice HO184.out; subst eo46))
          go_ret
          exact ⟨by first | rfl | (simp [errW_none, errW_some] <;> rfl) | (simp [*, errW_none, errW_some] <;> rfl), by repeat (first | (with_reducible first | exact HB.out | apply below_alloc | apply pw_below_drewN | apply below_drew1 | refine below_set ?_ GE180.out) | exact HB.out)⟩

end Go.Proofs.Ytcffmmdgjifaaaa.PPr
