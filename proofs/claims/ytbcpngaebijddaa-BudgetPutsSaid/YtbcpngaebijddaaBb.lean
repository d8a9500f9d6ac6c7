/- The layer budget's laws: BudgetPuts. -/
import Derived.Test.YtbcpngaebijddaaBa
import Derived.Test.YtbcpngaebijddaaBc
import Derived.Deep.RegionHeld3
import Derived.Test.YtbcpngaebijddaaOp
namespace Go.Proofs.Ytbcpngaebijddaa
open Go.RowKit Go.Proofs.YtbcpngaebijddaaW.PrintWords Go.Proofs.YtbcpngaebijddaaW.PrintLast Go.Proofs.YtbcpngaebijddaaW.PrintMore
attribute [local go_sem] max2_int min2_int max_two min_two max_three min_three max_four min_four
set_option linter.unusedSimpArgs false
set_option linter.unusedVariables false
theorem pairs_cells {k0 k1 : IntKind} {w : World} {a : Option Addr} {len cap : Nat} {zs : List (Int × Int)} (h : IsPairs k0 k1 w a len cap zs) (i : Nat) (hi : i < len) : ∃ ad, a = some ad ∧ ∀ wr, Below w.heap.size w wr → wr.cell? (ad.add (i * 2)) = some (.int k0 (zs.getD i (0, 0)).1) ∧ wr.cell? ⟨(ad.add (i * 2)).block, (ad.add (i * 2)).off + 1, none⟩ = some (.int k1 (zs.getD i (0, 0)).2) := by
  obtain ⟨x, e, hc⟩ := h.2.2.2 (by omega)
  refine ⟨x, e, fun wr hb => ?_⟩
  obtain ⟨h0, h1⟩ := hc i hi
  rw [← add_lit _ 1 (by omega), Addr.add_add]
  exact ⟨pw_cell_below hb h0, pw_cell_below hb h1⟩
set_option maxRecDepth 20000 in
set_option maxHeartbeats 4000000 in
theorem buputs_walk (b : Option Addr) (len2 cap2 : Nat) (zs2 : List (Int × Int)) (w : World) (h' : IsPairs .i64 .i64 w b len2 cap2 zs2) (y' : len2 * 16 ≤ 140737488351232) :
    Calls Try.prog 3 #[.slice b len2 cap2] w fun e w' => e = .returned (.bool true) ∧ Below w.heap.size w w' := by
  obtain rfl := h'.1
  have R1 := Lib.hid h'
  have H := Lib.hid (Hold.start w)
  clear h' y'
  generalize zs2 = m at *
  by_cases hs2 : m.length ≤ 40
  · go_enter Try.func3, Try.ntmps3
    go_wp2_with (first
      | (go_at_call 8; (with_reducible refine (awake13 _).mono ?_); rintro e w1 ⟨rfl, hb⟩; replace H := Lib.hid (H.out.below hb); clear hb)
      | (go_at_call 9; (with_reducible refine (hNew_w H.out).mono ?_); rintro e w1 ⟨g, rfl, h⟩; replace H := Lib.hid h.nilB.swap; clear h))
    go_loopg [5, 6] m.length (fun k v q wr => ∃ (i : Nat) (A : Option Addr) (n c : Nat) (bs : List Bool), i ≤ m.length ∧ k = m.length - i ∧ v = .slice A n c ∧ q = .int .i64 i ∧ n ≤ c ∧ n ≤ 13 * i ∧ Hid (bs.length = n) ∧ Hid (Hold w wr [wrO g bs, bitO A n bs]))
    case atStart => exact ⟨0, none, 0, 0, [], by omega, rfl, rfl, rfl, by omega, by omega, Lib.hid rfl, H⟩
    case round =>
      obtain ⟨i, A, n, c, bs, hi, hk, rfl, rfl, hnc, hn, HN, hT⟩ := hrel
      have HK := Lib.hid hk
      clear H
      have H := hT
      clear hk hT
      by_cases hi2 : i < m.length
      · have i1 : (i : Int) < (m.length : Int) := by omega
        obtain ⟨ad, hA, hcl⟩ := pairs_cells R1.out i hi2
        subst hA
        have HCL := Lib.hid hcl
        clear hcl
        have HLM := Lib.hid (show (m.getD i (0, 0)).2 ≤ 9223372036854775807 by
          rw [List.getD_eq_getElem?_getD, List.getElem?_eq_getElem hi2]; exact (bounds_i64 (R1.out.2.2.1 _ (List.getElem_mem hi2)).2).2)
        generalize (m.getD i (0, 0)).1 = V at HCL
        generalize (m.getD i (0, 0)).2 = L at HCL HLM
        obtain ⟨hc0, hc1⟩ := HCL.out _ H.out.B
        by_cases hx : canB V L
        · have HC := Lib.hid (fun w => can_yes V L w hx)
          have hbl := HN.out
          have HP := Lib.hid (fun W os (h : Hold w W (bitO A n bs :: os)) => hPut_q13 h hnc (by omega) hx)
          have HQ := Lib.hid (fun W os (h : Hold w W (wrO g bs :: os)) => hPut_bu h (by omega) hx)
          have HCO := Lib.hid (fun W => cost_any V L W (by have := hx.2.1; omega))
          obtain ⟨b1, b2, b3, _, _⟩ := widN_bd hx.1 hx.2.1
          rw [show costZ V L = (widN L : Int) by unfold costZ; rw [if_pos hx, b1]] at HCO
          have HLN := Lib.hid (show (bs ++ bitsN V (widN L)).length = n + widN L by rw [List.length_append, bitsN_len, hbl])
          clear hx hbl b1
          generalize bs ++ bitsN V (widN L) = bs2 at *
          generalize widN L = K at *
          have q3 : IntKind.i64.wrap (((n + K : Nat) : Int) - (n : Int)) = (K : Int) := by rw [IntWalk.i64_in _ (by omega)]; omega
          have q4 : IntKind.i64.wrap ((n : Int) + (K : Int) - (n : Int)) = (K : Int) := by rw [IntWalk.i64_in _ (by omega)]; omega
          go_wp2
          go_region_held3 (fun W => W.cell? (ad.add (i * 2)) = some (.int .i64 V) ∧ W.cell? ⟨(ad.add (i * 2)).block, (ad.add (i * 2)).off + 1, none⟩ = some (.int .i64 L)) (exact ⟨hc0, hc1⟩) (first
            | (go_at_call 10; (with_reducible refine (HC.out _).mono ?_); rintro e w1 ⟨rfl, rfl⟩))
          go_wp2
          replace H := Lib.hid (Hold.drew H.out)
          go_region_held3 (fun W => W.cell? (ad.add (i * 2)) = some (.int .i64 V) ∧ W.cell? ⟨(ad.add (i * 2)).block, (ad.add (i * 2)).off + 1, none⟩ = some (.int .i64 L)) (exact HCL.out _ (by first | exact H.out.B | exact (Hold.drew H.out).B)) (first
            | (go_at_call 11; (with_reducible refine (HP.out _ _ H.out.swap.drew).mono ?_); rintro e w1 ⟨A1, c1, rfl, hle, h⟩; have HLE := Lib.hid hle; replace H := Lib.hid h.swap; clear h hle))
          go_wp2
          go_region_held3 (fun W => W.cell? (ad.add (i * 2)) = some (.int .i64 V) ∧ W.cell? ⟨(ad.add (i * 2)).block, (ad.add (i * 2)).off + 1, none⟩ = some (.int .i64 L)) (exact HCL.out _ (by first | exact H.out.B | exact (Hold.drew H.out).B)) (first
            | (go_at_call 12; (with_reducible refine (HQ.out _ _ H.out.drew).mono ?_); rintro e w1 ⟨rfl, h⟩; replace H := Lib.hid h; clear h)
            | (go_at_call 13; (with_reducible refine (HCO.out _).mono ?_); rintro e w1 ⟨rfl, hb⟩; replace H := Lib.hid (H.out.below hb); clear hb)
            | (go_at_call 14; (with_reducible refine (hBits_w H.out).mono ?_); rintro e w1 ⟨rfl, rfl⟩; rw [HLN.out]))
          go_wp2
          go_roundg (m.length - (i + 1))
          case measure => have := HK.out; omega
          case rel => exact ⟨i + 1, _, _, _, _, by omega, rfl, rfl, by go_num, HLE.out, by omega, HLN, H⟩
        · have HC := Lib.hid (fun w => can_no V L w hx)
          have HP := Lib.hid (fun w => put13_no (.slice A n c) V L w hx)
          have HQ := Lib.hid (fun W os (h : Hold w W os) => hPutN_bu (g := g) h HLM.out hx)
          have HCO := Lib.hid (fun W => cost_any V L W HLM.out)
          rw [show costZ V L = 0 by unfold costZ; rw [if_neg hx]] at HCO
          clear hx
          have q3 : IntKind.i64.wrap ((n : Int) - (n : Int)) = 0 := by rw [IntWalk.i64_in _ (by omega)]; omega
          have q4 : IntKind.i64.wrap 0 = 0 := rfl
          go_wp2
          go_region_held3 (fun W => W.cell? (ad.add (i * 2)) = some (.int .i64 V) ∧ W.cell? ⟨(ad.add (i * 2)).block, (ad.add (i * 2)).off + 1, none⟩ = some (.int .i64 L)) (exact HCL.out _ (by first | exact H.out.B | exact (Hold.drew H.out).B)) (first
            | (go_at_call 10; (with_reducible refine (HC.out _).mono ?_); rintro e w1 ⟨rfl, rfl⟩))
          go_wp2
          replace H := Lib.hid (Hold.drew H.out)
          go_region_held3 (fun W => W.cell? (ad.add (i * 2)) = some (.int .i64 V) ∧ W.cell? ⟨(ad.add (i * 2)).block, (ad.add (i * 2)).off + 1, none⟩ = some (.int .i64 L)) (exact HCL.out _ (by first | exact H.out.B | exact (Hold.drew H.out).B)) (first
            | (go_at_call 11; (with_reducible refine (HP.out _).mono ?_); rintro e w1 ⟨rfl, rfl⟩))
          replace H := Lib.hid (Hold.drew H.out)
          go_wp2
          go_region_held3 (fun W => W.cell? (ad.add (i * 2)) = some (.int .i64 V) ∧ W.cell? ⟨(ad.add (i * 2)).block, (ad.add (i * 2)).off + 1, none⟩ = some (.int .i64 L)) (exact HCL.out _ (by first | exact H.out.B | exact (Hold.drew H.out).B)) (first
            | (go_at_call 12; (with_reducible refine (HQ.out _ _ H.out.drew).mono ?_); rintro e w1 ⟨rfl, h⟩; replace H := Lib.hid h; clear h)
            | (go_at_call 13; (with_reducible refine (HCO.out _).mono ?_); rintro e w1 ⟨rfl, hb⟩; replace H := Lib.hid (H.out.below hb); clear hb)
            | (go_at_call 14; (with_reducible refine (hBits_w H.out).mono ?_); rintro e w1 ⟨rfl, rfl⟩; rw [HN.out]))
          go_wp2
          go_roundg (m.length - (i + 1))
          case measure => have := HK.out; omega
          case rel => exact ⟨i + 1, _, _, _, _, by omega, rfl, rfl, by go_num, hnc, by omega, HN, H⟩
      · have i1 : ¬ (i : Int) < (m.length : Int) := by omega
        have hbl := HN.out
        have HM := Lib.hid (show bs.length ≤ 1000000000000 by omega)
        have BO := Lib.hid (bytesOf'_ok bs)
        clear hbl
        go_wp2_with (first
          | (go_at_call 16; (with_reducible refine (hBytes_w H.out HM.out).mono ?_); rintro e w1 ⟨A2, c2, rfl, hr, _, _, hb⟩; replace H := Lib.hid (H.out.below hb); have P1 := Lib.hid hr; clear hb hr)
          | (go_at_call 17; (with_reducible refine (bytes_any _ _ bs _ _ HN.out H.out.swap.rowB (by omega)).mono ?_); rintro e w1 ⟨v_, rfl, ho, hb⟩; obtain ⟨A3, c3, rfl, hle, hr⟩ := own_reads' ho; replace H := Lib.hid (H.out.below hb); have P2 := Lib.hid hr; replace P1 := Lib.hid (P1.out.below hb); clear hb hr ho hle)
          | (go_at_call 15; (with_reducible refine (same_any _ _ _ _ _ _ _ _ _ P1.out P2.out BO.out BO.out).mono ?_); rintro e w1 ⟨rfl, rfl⟩; rw [eqB_self]))
        go_ret
        exact ⟨rfl, H.out.B⟩
  · go_enter Try.func3, Try.ntmps3
    go_wp2_with (go_at_call 8; (with_reducible refine (awake13 _).mono ?_); rintro e w1 ⟨rfl, hb⟩; replace H := Lib.hid (H.out.below hb); clear hb)
    go_ret
    exact ⟨rfl, H.out.B⟩
end Go.Proofs.Ytbcpngaebijddaa
