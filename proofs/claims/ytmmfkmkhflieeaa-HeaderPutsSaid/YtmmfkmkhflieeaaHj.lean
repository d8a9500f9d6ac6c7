/- The reference of the layer header in plain: what it puts. The reference of the layer header: what its Put answers. The layer header's laws: HeaderPuts. -/
import Derived.Test.YtmmfkmkhflieeaaHh
namespace Go.Proofs.Ytmmfkmkhflieeaa
open Go.RowKit Go.Proofs.YtmmfkmkhflieeaaW.PrintWords Go.Proofs.YtmmfkmkhflieeaaW.PrintLast Go.Proofs.YtmmfkmkhflieeaaW.PrintMore PPr
set_option linter.unusedSimpArgs false
set_option linter.unusedVariables false
theorem rput01_ev (l : List Bool) (v : Int) (j : Nat) (h0 : 0 ≤ v) (h1 : v < 4294967296) (h2 : j ≤ 64) (h3 : l.length ≤ 100000000000) : Ev (fun k => puncheonref01_Put.f k l v (j : Int)) (l ++ bitsN v j) :=
  Ev.of (fun k => puncheonref01_Put.mono l v (j : Int) k) (put01_f l v j h0 h1 h2 h3)
theorem rput14_ev : ∀ (m : Nat), m ≤ 255 → ∀ l : List Bool, l.length + 2 * m ≤ 10000000000 → Ev (fun k => puncheonref14_Put.f k l (m : Int)) (l ++ runBits m) := by
  intro m
  induction m using Nat.strongRecOn with
  | _ m ih =>
  intro hm l hl
  refine Ev.step (f := fun k => if (m : Int) < 0 then puncheonref14_Put.j0 k l (m : Int) true else puncheonref14_Put.j0 k l (m : Int) (decide ((m : Int) > 255))) (fun k => by rw [puncheonref14_Put.f]) (ev_neg (by omega) ?_)
  rw [show decide ((m : Int) > 255) = false from decide_eq_false (by omega)]
  refine Ev.step (f := fun k => if (m : Int) ≥ 3 then ((puncheonref01_Put.f k l 3 2).bind fun t163 => ((puncheonref14_Put.f k t163 (wrap64 ((m : Int) - 3))).bind fun t166 => (some t166))) else ((puncheonref01_Put.f k l (((m : Int)) % 4294967296) 2).bind fun t169 => (some t169))) (fun k => by rw [puncheonref14_Put.j0, if_neg (by simp)]) ?_
  rcases Nat.lt_or_ge m 3 with h3 | h3
  · refine ev_neg (by omega) ?_
    rw [show (m : Int) % 4294967296 = m by omega, ← bitsN_small m h3]
    exact Ev.bind (rput01_ev l (m : Int) 2 (by omega) (by omega) (by omega) (by omega)) (Ev.now _)
  · obtain ⟨n, rfl⟩ : ∃ n, m = n + 3 := ⟨m - 3, by omega⟩
    refine ev_pos (by omega) (Ev.bind (rput01_ev l 3 2 (by omega) (by omega) (by omega) (by omega)) ?_)
    rw [show wrap64 (((n + 3 : Nat) : Int) - 3) = (n : Int) from w64' (by omega) (by omega) (by omega), bitsN_three]
    refine ev_eq (Ev.bind (ih n (by omega) (by omega) (l ++ [true, true]) (by rw [List.length_append]; simp; omega)) (Ev.now _)) ?_
    simp [runBits]
theorem rwidth_from : ∀ (d : Nat) (x : Int) (n : Nat), x.toNat = d → x ≤ 4611686018427387000 → n + d ≤ 4611686018427387000 → Ev (fun k => puncheonref07_Width.l0 k x (n : Int)) ((n : Int) + wid x) := by
  intro d
  induction d using Nat.strongRecOn with
  | _ d ih =>
  intro x n hx hb hn
  refine Ev.step (fun _ => rfl) ?_
  by_cases h : x > 0
  · refine ev_pos h ?_
    have e2 : Int.tdiv x 2 = x / 2 := Int.tdiv_eq_ediv_of_nonneg (by omega)
    rw [e2, show wrap64 (x / 2) = x / 2 from w64' rfl (by omega) (by omega), wnext n (by omega), wid_half x h (by omega)]
    exact ev_eq (ih (x / 2).toNat (by omega) (x / 2) (n + 1) rfl (by omega) (by omega)) (by omega)
  · exact ev_neg h (ev_eq (Ev.now _) (by rw [wid_neg x (by omega)]; omega))
theorem rwidth_ev (x : Int) (h : x ≤ 4096) : Ev (fun k => puncheonref07_Width.f k x) (wid x) := by
  unfold puncheonref07_Width.f
  exact ev_eq (rwidth_from x.toNat x 0 rfl (by omega) (by omega)) (by omega)
theorem rput13_ev (l : List Bool) (v left : Int) (hc : canB v left) (hl : l.length ≤ 1000000000) : Ev (fun k => puncheonref13_Put.f k l v left) (l ++ bitsN v (widN left)) := by
  obtain ⟨h1, h2, h3, h4⟩ := hc
  obtain ⟨b1, b2, b3, _, _⟩ := widN_bd h1 h2
  unfold puncheonref13_Put.f
  refine ev_obind (b := true) ?_ (ev_pos rfl ?_)
  · unfold puncheonref13_Can.f
    rw [if_pos h1, if_pos h2, if_pos h3, decide_eq_true h4]
  · refine Ev.bind (rwidth_ev left h2) ?_
    rw [b1, show v % 4294967296 = v by omega]
    exact Ev.bind (rput01_ev l v (widN left) h3 (by omega) (by omega) (by omega)) (Ev.now _)
theorem rskip_ev (q : List Int) (hl : q.length = 256) (left : Int) (bs : List Bool) (hb : bs.length ≤ 1000000) {R : List Bool} : ∀ (d s n : Nat), zr q s = d → s + d < 256 → n + d ≤ 255 → Ev (fun k => puncheonref15_Put.l0 k (bs ++ runBits (n + d)) q left ((s + d : Nat) : Int)) R → Ev (fun k => puncheonref15_Put.l1 k bs q left (s : Int) (n : Int)) R
  | 0, s, n, hz, hs, hn, h => by
    rw [zr, if_pos (by omega)] at hz
    have hne : ¬ q.getD s 0 = 0 := by
      intro c
      rw [if_pos c] at hz
      omega
    refine Ev.step (fun k => by rw [puncheonref15_Put.l1]) (ev_pos (by omega) (ev_pos (by rw [hl]; omega) ?_))
    rw [rd_nat]
    exact ev_neg hne (Ev.bind (rput14_ev n (by omega) bs (by omega)) h)
  | d + 1, s, n, hz, hs, hn, h => by
    rw [zr, if_pos (by omega)] at hz
    have hne : q.getD s 0 = 0 := by
      refine Decidable.byContradiction fun c => ?_
      rw [if_neg c] at hz
      omega
    rw [if_pos hne] at hz
    refine Ev.step (fun k => by rw [puncheonref15_Put.l1]) (ev_pos (by omega) (ev_pos (by rw [hl]; omega) ?_))
    rw [rd_nat]
    refine ev_pos hne ?_
    rw [wnext s (by omega), wnext n (by omega)]
    exact rskip_ev q hl left bs hb d (s + 1) (n + 1) (by omega) (by omega) (by omega) (by rw [show n + 1 + d = n + (d + 1) by omega, show s + 1 + d = s + (d + 1) by omega]; exact h)
theorem rput15_from (q : List Int) (hl : q.length = 256) (hn : ∀ x, x ∈ q → 0 ≤ x) (hs4 : q.sum ≤ 4096) : ∀ (d s : Nat), s + d = 256 → ∀ (bs : List Bool), bs.length + 16 * d ≤ 900000 → Ev (fun k => puncheonref15_Put.l0 k bs q (rs q s) (s : Int)) (bs ++ hdb q s) := by
  intro d
  induction d using Nat.strongRecOn with
  | _ d ih =>
  intro s hsd bs hb
  have hle := rs_le q hn s
  rw [hdb]
  by_cases c1 : rs q s ≤ 0
  · rw [if_pos c1, List.append_nil]
    exact Ev.step (fun k => by rw [puncheonref15_Put.l0]) (ev_neg (by omega) (Ev.now _))
  · have c2 : s < 256 := by
      rcases Nat.lt_or_ge s 256 with h | h
      · exact h
      · rw [rs_end q hl s h] at c1; omega
    rw [if_neg c1, dif_neg (by omega)]
    obtain ⟨q0, q1, q2⟩ := getD_le_rs q hl hn s c2
    obtain ⟨b1, b2, b3, _, _⟩ := widN_bd (show 1 ≤ rs q s by omega) (show rs q s ≤ 4096 by omega)
    refine Ev.step (fun k => by rw [puncheonref15_Put.l0]) (ev_pos (by omega) (ev_pos (by omega) (ev_pos (by rw [hl]; omega) ?_)))
    rw [rd_nat]
    refine Ev.bind (rput13_ev bs (q.getD s 0) (rs q s) ⟨by omega, by omega, q0, q1⟩ (by omega)) ?_
    rw [wnext s (by omega), show wrap64 (((s + 1 : Nat) : Int) - 1) = (s : Int) from w64' (by omega) (by omega) (by omega), show wrap64 (rs q s - q.getD s 0) = rs q (s + 1) from w64' q2.symm (by omega) (by omega)]
    refine ev_pos (by omega) (ev_pos (by rw [hl]; omega) ?_)
    rw [rd_nat]
    by_cases cv : q.getD s 0 = 0
    · rw [if_pos cv]
      obtain ⟨z1, z2, z3⟩ := rs_zeros q hl (256 - (s + 1)) (s + 1) (by omega) (by omega)
      have hrl := runBits_len (zr q (s + 1))
      refine ev_neg (by omega) (rskip_ev q hl _ _ (by rw [List.length_append, bitsN_len]; omega) (zr q (s + 1)) (s + 1) 0 rfl (by omega) (by omega) ?_)
      rw [Nat.zero_add, ← z3]
      refine ev_eq (ih (256 - (s + 1 + zr q (s + 1))) (by omega) (s + 1 + zr q (s + 1)) (by omega) _ ?_) ?_
      · rw [List.length_append, List.length_append, bitsN_len]
        omega
      · simp [List.append_assoc]
    · rw [if_neg cv]
      refine ev_pos (by omega) (ev_eq (ih (256 - (s + 1)) (by omega) (s + 1) (by omega) _ ?_) (by rw [List.append_assoc]))
      rw [List.length_append, bitsN_len]
      omega
theorem rput15_ev {q : List Int} {r : Nat} (hN : IsN q r) : Ev (fun k => puncheonref15_Put.f k [] q) (hdb q 0) := by
  obtain ⟨hl, hnn, _⟩ := (rightB_iff q).1 hN.R
  have hsm : q.sum = p2 r := by rw [hN.sm]; unfold p2; simp
  have r0 := hN.r0
  have r1 := hN.r1
  have hp := p2_mono r1
  rw [show p2 12 = 4096 by decide] at hp
  have hr := rlog_ev q (by rw [hl]; decide)
  rw [hN.lg] at hr
  unfold puncheonref15_Put.f
  refine Ev.bind hr (ev_neg (show ¬ ((r : Int) = 0) by omega) (ev_pos (show 0 ≤ (r : Int) by omega) ?_))
  rw [show shl .i64 1 (r : Int) = rs q 0 by rw [shlE 1 (r : Int) (by omega) (by omega) (by omega), Int.one_mul, Int.toNat_natCast, ← hN.sm]; unfold rs; rw [List.drop_zero]]
  exact ev_eq (rput15_from q hl hnn (by omega) 256 0 rfl [] (by simp)) (by rw [List.nil_append])
theorem rput15_no {q : List Int} (hl : q.length ≤ 4611686018427387000) (hN : lg (totZ q) 12 1 = (0, false)) : Ev (fun k => puncheonref15_Put.f k [] q) [] := by
  have hr := rlog_ev q hl
  rw [hN] at hr
  unfold puncheonref15_Put.f
  exact Ev.bind hr (ev_pos rfl (Ev.now _))
end Go.Proofs.Ytmmfkmkhflieeaa
namespace Go.Proofs.Ytmmfkmkhflieeaa
open Go.RowKit Go.Proofs.YtmmfkmkhflieeaaW.PrintWords Go.Proofs.YtmmfkmkhflieeaaW.PrintLast Go.Proofs.YtmmfkmkhflieeaaW.PrintMore PPr
set_option linter.unusedSimpArgs false
set_option linter.unusedVariables false
theorem C_readsB {w : World} {A : Option Addr} {n : Nat} {l : List Bool} (h : Kd.C Kd.bool w A n l) : ReadsB w A n l := by
  refine ⟨h.1, h.2.1, fun hn => ?_⟩
  obtain ⟨ad, e, hc⟩ := h.2.2 hn
  refine ⟨ad, e, fun j hj => ?_⟩
  have hl := h.1
  obtain ⟨cs, h1, h2, h3⟩ := hc j (l.getD j false) (by rw [List.getD_eq_getElem?_getD, List.getElem?_eq_getElem (by omega)]; rfl)
  cases h2
  have := h3 0 (.bool (l.getD j false)) rfl
  rw [show Kd.bool.sz = 1 from rfl, Nat.mul_one] at this
  simpa using this
theorem rput15_w {W : World} {A : Option Addr} {c : Nat} {q : List Int} {bs : List Bool} (hE : Ev (fun k => puncheonref15_Put.f k [] q) bs) (hq : Kd.C (Kd.int .i64) W A q.length q) (hc : q.length ≤ c) :
    Calls Try.prog 11 #[.slice none 0 0, .slice A q.length c] W fun e w' => ∃ B c2, e = .returned (.slice B bs.length c2) ∧ bs.length ≤ c2 ∧ ReadsB w' B bs.length bs ∧ Below W.heap.size W w' := by
  obtain ⟨k, hk⟩ := hE.rounds
  refine (puncheonref15_Put.calls k (fun _ => False) (.slice none 0 0) [] A c q bs W W (Below.refl _ _) (Kd.R_nil Kd.bool _ _ _ _) (fun W' h => ?_) hc hk).mono ?_
  · exact Kd.C_kept_came (Kd.heap_int .i64) hq (Below.refl _ _) (fun k h => h.elim) W' h
  · rintro e w' ⟨v, rfl, hR, hb, _⟩
    obtain ⟨B, c2, rfl, hle, hC⟩ := Kd.R_reads hR
    exact ⟨B, c2, rfl, hle, C_readsB hC, hb⟩
end Go.Proofs.Ytmmfkmkhflieeaa
namespace Go.Proofs.Ytmmfkmkhflieeaa
open Go.RowKit Go.Proofs.YtmmfkmkhflieeaaW.PrintWords Go.Proofs.YtmmfkmkhflieeaaW.PrintLast Go.Proofs.YtmmfkmkhflieeaaW.PrintMore PPr
attribute [local go_sem] max2_int min2_int max_two min_two max_three min_three max_four min_four
set_option linter.unusedSimpArgs false
set_option linter.unusedVariables false
set_option maxRecDepth 20000 in
set_option maxHeartbeats 4000000 in
theorem hdputs_walk (a : Option Addr) (len cap : Nat) (zs : List Int) (w : World) (h : IsRow .i64 w a len cap zs) (y : len * 8 ≤ 140737488351232) :
    Calls Try.prog 3 #[.slice a len cap] w fun e w' => e = .returned (.bool true) ∧ Below w.heap.size w w' := by
  obtain ⟨q, rfl, hr, hcap, hwf⟩ := h.reads (by omega)
  have R0 := Lib.hid hr
  have H := Lib.hid (Hold.start w)
  have hC : ∀ W, Below w.heap.size w W → Kd.C (Kd.int .i64) W a q.length q := fun W hb => Kd.C_of_reads (readsInt_of.1 (hr.below hb))
  have HC := Lib.hid hC
  have HCAP := Lib.hid hcap
  clear h hr hwf y hC hcap
  by_cases hs : q.length ≤ 300
  · obtain ⟨bs, b, hE, hbl, hPut, hCost, hbb⟩ : ∃ bs b, Ev (fun k => puncheonref15_Put.f k [] q) bs ∧ bs.length ≤ 100000 ∧
        (∀ W g os, Hold w W (wrO g [] :: os) → Calls Try.prog 10 #[.pointer (some ⟨g, 0, none⟩), .slice a q.length cap] W fun e w' => e = .returned (.bool b) ∧ Hold w w' (wrO g bs :: os)) ∧
        (∀ W os, Hold w W os → Calls Try.prog 16 #[.slice a q.length cap] W fun e w' => e = .returned (.int .i64 (bs.length : Int)) ∧ Hold w w' os) ∧ b = decide (0 < (bs.length : Int)) := by
      rcases isN_or q with ⟨r, hN, _⟩ | hN
      · refine ⟨hdb q 0, true, rput15_ev hN, ?_, fun W g os h => ?_, fun W os h => hCost_hd h hN HCAP.out (fun W o h => HC.out W h.B), ?_⟩
        · have hl := ((rightB_iff q).1 hN.R).1
          have hnn := ((rightB_iff q).1 hN.R).2.1
          have hsm : q.sum = p2 r := by rw [hN.sm]; unfold p2; simp
          have hp := p2_mono hN.r1
          rw [show p2 12 = 4096 by decide] at hp
          have := hdb_len q hl hnn (by omega) 256 0 rfl
          omega
        · have := hPut_hd h (by simp) hN HCAP.out (fun W bs h => HC.out W h.B)
          rwa [List.nil_append] at this
        · have hl := ((rightB_iff q).1 hN.R).1
          have h0 : ¬ rs q 0 ≤ 0 := by
            have hsm : q.sum = p2 r := by rw [hN.sm]; unfold p2; simp
            have hp := p2_pos r
            unfold rs
            rw [List.drop_zero]
            omega
          have hle : rs q 0 ≤ 4096 := by
            have hsm : q.sum = p2 r := by rw [hN.sm]; unfold p2; simp
            have hp := p2_mono hN.r1
            rw [show p2 12 = 4096 by decide] at hp
            unfold rs
            rw [List.drop_zero]
            omega
          obtain ⟨_, b2, _⟩ := widN_bd (show 1 ≤ rs q 0 by omega) hle
          symm
          apply decide_eq_true
          rw [hdb, if_neg h0, dif_neg (by omega), List.length_append, bitsN_len]
          omega
      · refine ⟨[], false, rput15_no (by omega) hN, by simp, fun W g os h => hPutN_hd h (by omega) hN HCAP.out (HC.out W h.B), fun W os h => hCostN_hd h (by omega) hN HCAP.out (fun W o h => HC.out W h.B), by simp⟩
    have HE := Lib.hid hE
    have HP := Lib.hid hPut
    have HCO := Lib.hid hCost
    have BO := Lib.hid (bytesOf'_ok bs)
    have z1 : decide (0 < (bs.length : Int)) = b := hbb.symm
    have z2 : decide (0 < bs.length) = b := by rw [hbb]; exact decide_eq_decide.2 (by omega)
    clear hE hPut hCost hbb
    cases b
    all_goals
      go_enter Try.func3, Try.ntmps3
      go_wp2_with (first
        | (go_at_call 8; (with_reducible refine (awake15 _).mono ?_); rintro e w1 ⟨rfl, hb⟩; replace H := Lib.hid (H.out.below hb); clear hb)
        | (go_at_call 9; (with_reducible refine (hNew_w H.out).mono ?_); rintro e w1 ⟨g, rfl, h⟩; replace H := Lib.hid h; clear h)
        | (go_at_call 10; (with_reducible refine (HP.out _ _ _ H.out).mono ?_); rintro e w1 ⟨rfl, h⟩; replace H := Lib.hid h; clear h)
        | (go_at_call 11; (with_reducible refine (rput15_w HE.out (HC.out _ H.out.B) HCAP.out).mono ?_); rintro e w1 ⟨B, c2, rfl, hc2, hrb, hb⟩; replace H := Lib.hid (H.out.below hb); have RB := Lib.hid hrb; have C2 := Lib.hid hc2; clear hb hrb hc2)
        | (go_at_call 12; (with_reducible refine (hBits_w H.out).mono ?_); rintro e w1 ⟨rfl, rfl⟩)
        | (go_at_call 14; (with_reducible refine (hBytes_w H.out (by omega)).mono ?_); rintro e w1 ⟨A2, c3, rfl, hr, _, _, hb⟩; replace H := Lib.hid (H.out.below hb); have P1 := Lib.hid hr; replace RB := Lib.hid (RB.out.below hb); clear hb hr)
        | (go_at_call 15; (with_reducible refine (bytes_any _ _ bs _ _ rfl RB.out (by omega)).mono ?_); rintro e w1 ⟨v_, rfl, ho, hb⟩; obtain ⟨A3, c3, rfl, hle, hr⟩ := own_reads' ho; replace H := Lib.hid (H.out.below hb); have P2 := Lib.hid hr; replace P1 := Lib.hid (P1.out.below hb); clear hb hr ho hle)
        | (go_at_call 13; (with_reducible refine (same_any _ _ _ _ _ _ _ _ _ P1.out P2.out BO.out BO.out).mono ?_); rintro e w1 ⟨rfl, rfl⟩; rw [eqB_self])
        | (go_at_call 16; (with_reducible refine (HCO.out _ _ H.out).mono ?_); rintro e w1 ⟨rfl, h⟩; replace H := Lib.hid h; clear h))
      go_ret
      exact ⟨rfl, H.out.B⟩
  · go_enter Try.func3, Try.ntmps3
    go_wp2_with (go_at_call 8; (with_reducible refine (awake15 _).mono ?_); rintro e w1 ⟨rfl, hb⟩; replace H := Lib.hid (H.out.below hb); clear hb)
    go_ret
    exact ⟨rfl, H.out.B⟩
end Go.Proofs.Ytmmfkmkhflieeaa
