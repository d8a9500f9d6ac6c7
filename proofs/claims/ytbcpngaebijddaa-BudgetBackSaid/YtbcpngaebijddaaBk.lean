/- The layer budget's laws: BudgetBack. -/
import Derived.Test.YtbcpngaebijddaaBa
import Derived.Test.YtbcpngaebijddaaRz
import Derived.Deep.RegionHeld3
import Derived.Test.YtbcpngaebijddaaOp
namespace Go.Proofs.Ytbcpngaebijddaa
open Go.RowKit Go.Proofs.YtbcpngaebijddaaW.PrintWords Go.Proofs.YtbcpngaebijddaaW.PrintLast Go.Proofs.YtbcpngaebijddaaW.PrintMore
attribute [local go_sem] max2_int min2_int max_two min_two max_three min_three max_four min_four
set_option linter.unusedSimpArgs false
set_option linter.unusedVariables false
theorem pairs_cells {k0 k1 : IntKind} {w : World} {a : Option Addr} {len cap : Nat} {zs : List (Int × Int)} (h : IsPairs k0 k1 w a len cap zs) (i : Nat) (hi : i < len) : ∃ ad, a = some ad ∧ ∀ wr, Below w.heap.size w wr → wr.cell? (ad.add (i * 2)) = some (.int k0 (zs.getD i (0, 0)).1) ∧ wr.cell? ⟨(ad.add (i * 2)).block, (ad.add (i * 2)).off + 1, none⟩ = some (.int k1 (zs.getD i (0, 0)).2) := by
  obtain ⟨x, e, hc⟩ := h.2.2.2 (by omega)
  refine ⟨x, e, fun wr hb => ?_⟩
  obtain ⟨h0, h1⟩ := hc i hi
  rw [← add_lit _ 1 (by omega), Addr.add_add]
  exact ⟨pw_cell_below hb h0, pw_cell_below hb h1⟩
/-! pairs that are put -/
def bp (ps : List (Int × Int)) : List Bool := ps.flatMap fun p => bitsN p.1 (widN p.2)
theorem bp_snoc (ps : List (Int × Int)) (p : Int × Int) : bp (ps ++ [p]) = bp ps ++ bitsN p.1 (widN p.2) := by simp [bp]
theorem bp_len : ∀ (ps : List (Int × Int)), (∀ p, p ∈ ps → canB p.1 p.2) → (bp ps).length ≤ 13 * ps.length
  | [], _ => by simp [bp]
  | p :: ps, h => by
    have hp := h p (by simp)
    obtain ⟨_, _, b3, _, _⟩ := widN_bd hp.1 hp.2.1
    have ih := bp_len ps (fun q hq => h q (by simp [hq]))
    have e : bp (p :: ps) = bitsN p.1 (widN p.2) ++ bp ps := rfl
    rw [e, List.length_append, bitsN_len, List.length_cons]
    omega
theorem bp_take (ps : List (Int × Int)) (j : Nat) (h : j < ps.length) : bp (ps.take (j + 1)) = bp (ps.take j) ++ bitsN (ps.getD j (0, 0)).1 (widN (ps.getD j (0, 0)).2) := by
  rw [List.take_succ_eq_append_getElem h, bp_snoc, List.getD_eq_getElem?_getD, List.getElem?_eq_getElem h]
  rfl
theorem bp_drop (ps : List (Int × Int)) (j : Nat) (h : j < ps.length) : (bp ps).drop (bp (ps.take j)).length = bitsN (ps.getD j (0, 0)).1 (widN (ps.getD j (0, 0)).2) ++ bp (ps.drop (j + 1)) := by
  have e : bp ps = bp (ps.take j) ++ (bitsN (ps.getD j (0, 0)).1 (widN (ps.getD j (0, 0)).2) ++ bp (ps.drop (j + 1))) := by
    rw [← List.append_assoc, ← bp_take ps j h]
    unfold bp
    rw [← List.flatMap_append, List.take_append_drop]
  rw [e, List.drop_left]
theorem bp_le (ps : List (Int × Int)) (j : Nat) : (bp (ps.take j)).length ≤ (bp ps).length := by
  have e : bp ps = bp (ps.take j) ++ bp (ps.drop j) := by
    unfold bp; rw [← List.flatMap_append, List.take_append_drop]
  rw [e, List.length_append]; omega
/-! pairs as cells -/
def pcells (ps : List (Int × Int)) : List Value := ps.flatMap fun p => [.int .i64 p.1, .int .i64 p.2]
theorem pcells_snoc (ps : List (Int × Int)) (p : Int × Int) : pcells (ps ++ [p]) = pcells ps ++ [.int .i64 p.1, .int .i64 p.2] := by simp [pcells]
theorem pcells_get : ∀ (ps : List (Int × Int)) (j : Nat), j < ps.length → (pcells ps)[j * 2]? = some (.int .i64 (ps.getD j (0, 0)).1) ∧ (pcells ps)[j * 2 + 1]? = some (.int .i64 (ps.getD j (0, 0)).2)
  | p :: ps, 0, _ => ⟨rfl, rfl⟩
  | p :: ps, j + 1, h => by
    have ih := pcells_get ps j (by simpa using h)
    have e : pcells (p :: ps) = .int .i64 p.1 :: .int .i64 p.2 :: pcells ps := rfl
    rw [e, show (j + 1) * 2 = j * 2 + 1 + 1 by omega]
    simpa using ih
theorem info_pair : (Try.prog.info? 29).map (fun i => (i.zero, i.size, i.bytes)) = some (some (.agg #[.int .i64 0, .int .i64 0]), 2, 16) := by kernel_rfl
section
variable {w0 W : World} {os : List Ob}
theorem Hold.own {e size : Nat} {v : Value} {n : Nat} {xs : List Value} (H : Hold w0 W (owO e size v n xs :: os)) : W.ownsRow 0 e size v n xs := by
  obtain ⟨F, h⟩ := H.head
  exact h.1
theorem Hold.appended {e size : Nat} {v v1 : Value} {n n1 : Nat} {xs xs1 : List Value} {w1 : World} (H : Hold w0 W (owO e size v n xs :: os)) (ho : w1.ownsRow 0 e size v1 n1 xs1) (hg : W.grownBy w1 v.ownBlock) (hat : v1.ownBlock = v.ownBlock ∨ ∃ b, v1.ownBlock = some b ∧ W.heap.size ≤ b) : Hold w0 w1 (owO e size v1 n1 xs1 :: os) :=
  H.turn fun F ⟨h1, h2⟩ => ⟨_, ⟨ho, rfl⟩, Chg.of_grown hg (fun k e => by rw [h2]; exact e), fun k hk => by
    rcases hat with h | ⟨b, h, hb⟩
    · left; rw [h2]; exact h ▸ hk
    · right; have : b = k := by rw [h] at hk; injection hk
      omega⟩
theorem Hold.nilO (H : Hold w0 W os) (e size : Nat) : Hold w0 W (owO e size (.slice none 0 0) 0 [] :: os) := H.new (Below.refl _ _) ⟨World.ownsRow_nil _ _ _ _, rfl⟩ (fun k hk => by simp [Value.ownBlock] at hk)
theorem pr_form {e : Nat} {v : Value} {ps : List (Int × Int)} (H : Hold w0 W (owO e 2 v ps.length (pcells ps) :: os)) : ∃ A c, v = .slice A ps.length c := by
  rcases H.own.2 with ⟨h, h0⟩ | ⟨g, cap, cur, h, _⟩
  · exact ⟨none, 0, by rw [h, h0]⟩
  · exact ⟨_, _, h⟩
theorem pr_some {e : Nat} {A : Option Addr} {c : Nat} {ps : List (Int × Int)} (H : Hold w0 W (owO e 2 (.slice A ps.length c) ps.length (pcells ps) :: os)) (h : 0 < ps.length) : ∃ ad, A = some ad := by
  rcases H.own.2 with ⟨h1, h0⟩ | ⟨g, cap, cur, h1, _⟩
  · omega
  · injection h1 with h1; exact ⟨_, h1⟩
theorem pr_cells {e : Nat} {ad : Addr} {c : Nat} {ps : List (Int × Int)} (H : Hold w0 W (owO e 2 (.slice (some ad) ps.length c) ps.length (pcells ps) :: os)) (j : Nat) (hj : j < ps.length) : W.cell? (ad.add (j * 2)) = some (.int .i64 (ps.getD j (0, 0)).1) ∧ W.cell? ⟨(ad.add (j * 2)).block, (ad.add (j * 2)).off + 1, none⟩ = some (.int .i64 (ps.getD j (0, 0)).2) := by
  have ho := H.own
  rcases ho.2 with ⟨h1, _⟩ | ⟨g, cap, cur, h1, _⟩
  · cases h1
  · injection h1 with h1
    cases h1
    obtain ⟨c0, c1⟩ := pcells_get ps j hj
    rw [← add_lit _ 1 (by omega), Addr.add_add]
    exact ⟨ho.cells rfl _ _ c0, ho.cells rfl _ _ c1⟩
end
set_option maxRecDepth 20000 in
set_option maxHeartbeats 4000000 in
theorem buback_walk (b : Option Addr) (len2 cap2 : Nat) (zs2 : List (Int × Int)) (w : World) (h' : IsPairs .i64 .i64 w b len2 cap2 zs2) (y' : len2 * 16 ≤ 140737488351232) :
    Calls Try.prog 7 #[.slice b len2 cap2] w fun e w' => e = .returned (.bool true) ∧ Below w.heap.size w w' := by
  obtain rfl := h'.1
  have R1 := Lib.hid h'
  have H := Lib.hid (Hold.start w)
  clear h' y'
  generalize zs2 = m at *
  by_cases hs2 : m.length ≤ 40
  · go_enter Try.func7, Try.ntmps7
    go_wp2_with (first
      | (go_at_call 8; (with_reducible refine (awake13 _).mono ?_); rintro e w1 ⟨rfl, hb⟩; replace H := Lib.hid (H.out.below hb); clear hb)
      | (go_at_call 9; (with_reducible refine (hNew_w H.out).mono ?_); rintro e w1 ⟨g, rfl, h⟩; replace H := Lib.hid (h.nilO 29 2).swap; clear h))
    go_loopg [5, 6] m.length (fun k v q wr => ∃ (i : Nat) (ps : List (Int × Int)), i ≤ m.length ∧ k = m.length - i ∧ q = .int .i64 i ∧ ps.length ≤ i ∧ Hid (∀ p, p ∈ ps → canB p.1 p.2) ∧ Hid (Hold w wr [wrO g (bp ps), owO 29 2 v ps.length (pcells ps)]))
    case atStart => exact ⟨0, [], by omega, rfl, rfl, by simp, Lib.hid (fun p hp => by simp at hp), H⟩
    case round =>
      obtain ⟨i, ps, hi, hk, rfl, hps, HPS, hT⟩ := hrel
      have HK := Lib.hid hk
      clear H
      have H := hT
      clear hk hT
      by_cases hi2 : i < m.length
      · have i1 : (i : Int) < (m.length : Int) := by omega
        obtain ⟨ad, hA, hcl⟩ := pairs_cells R1.out i hi2
        subst hA
        have HCL := Lib.hid hcl
        clear hcl
        have HLM := Lib.hid (show (m.getD i (0, 0)).2 ≤ 9223372036854775807 by
          rw [List.getD_eq_getElem?_getD, List.getElem?_eq_getElem hi2]; exact (bounds_i64 (R1.out.2.2.1 _ (List.getElem_mem hi2)).2).2)
        generalize (m.getD i (0, 0)).1 = V at HCL
        generalize (m.getD i (0, 0)).2 = L at HCL HLM
        obtain ⟨hc0, hc1⟩ := HCL.out _ H.out.B
        by_cases hx : canB V L
        · have HX := Lib.hid hx
          have hbl := bp_len ps HPS.out
          have HQ := Lib.hid (fun W os (h : Hold w W (wrO g (bp ps) :: os)) => hPut_bu h (by omega) hx)
          rw [← bp_snoc ps (V, L)] at HQ
          have HP2 := Lib.hid (show ∀ p, p ∈ ps ++ [(V, L)] → canB p.1 p.2 from fun p hp => by
            rcases List.mem_append.1 hp with h | h
            · exact HPS.out p h
            · simp at h; subst h; exact hx)
          have HC2 := Lib.hid (pcells_snoc ps (V, L))
          have HL2 := Lib.hid (show (ps ++ [(V, L)]).length = ps.length + 1 by simp)
          clear hx hbl
          generalize bp ps = bs1 at *
          generalize pcells ps = xs1 at *
          generalize ps.length = n at *
          generalize ps ++ [(V, L)] = ps2 at *
          go_wp2
          go_region_held3 (fun W => W.cell? (ad.add (i * 2)) = some (.int .i64 V) ∧ W.cell? ⟨(ad.add (i * 2)).block, (ad.add (i * 2)).off + 1, none⟩ = some (.int .i64 L)) (exact ⟨hc0, hc1⟩) (first
            | (go_at_call 12; (with_reducible refine (HQ.out _ _ H.out.drew).mono ?_); rintro e w1 ⟨rfl, h⟩; replace H := Lib.hid h; clear h hc0 hc1; obtain ⟨hc0, hc1⟩ := HCL.out _ H.out.B))
          go_wp2_with (at_builtin; refine print_append_cells (w0 := _) 0 rfl (.tmp 40) (.tmp 45) 22 29 _ 2 16 rfl Try.underlying22 info_pair rfl (by decide) (by decide) _ n xs1 [.int .i64 V, .int .i64 L] rfl rfl rfl (by intro u hu; simp at hu; rcases hu with rfl | rfl <;> rfl) H.out.swap.own (Below.refl 0 _) (Nat.zero_le _) (by omega) ?_; intro v1 w1 ho hb hg hat; rw [← HC2.out] at ho; replace H := Lib.hid (H.out.swap.appended ho hg hat).swap; clear ho hb hg hat)
          rw [← HL2.out] at H
          go_roundg (m.length - (i + 1))
          case measure => have := HK.out; omega
          case rel => exact ⟨i + 1, ps2, by omega, rfl, by go_num, by rw [HL2.out]; omega, HP2, H⟩
        · have HQ := Lib.hid (fun W os (h : Hold w W os) => hPutN_bu (g := g) h HLM.out hx)
          clear hx
          go_wp2
          go_region_held3 (fun W => W.cell? (ad.add (i * 2)) = some (.int .i64 V) ∧ W.cell? ⟨(ad.add (i * 2)).block, (ad.add (i * 2)).off + 1, none⟩ = some (.int .i64 L)) (exact ⟨hc0, hc1⟩) (first
            | (go_at_call 12; (with_reducible refine (HQ.out _ _ H.out.drew).mono ?_); rintro e w1 ⟨rfl, h⟩; replace H := Lib.hid h; clear h hc0 hc1; obtain ⟨hc0, hc1⟩ := HCL.out _ H.out.B))
          go_wp2
          go_roundg (m.length - (i + 1))
          case measure => have := HK.out; omega
          case rel => exact ⟨i + 1, ps, by omega, rfl, by go_num, by omega, HPS, H⟩
      · have i1 : ¬ (i : Int) < (m.length : Int) := by omega
        obtain ⟨A3, c3, hform⟩ := pr_form H.out.swap
        subst hform
        have HBL := Lib.hid (show (bp ps).length ≤ 520 by have := bp_len ps HPS.out; omega)
        have HM := Lib.hid (show (bp ps).length ≤ 1000000000000 by have := HBL.out; omega)
        have HTAKE := Lib.hid (bp_take ps)
        have HDROP := Lib.hid (bp_drop ps)
        have HLE := Lib.hid (bp_le ps)
        have HALL := Lib.hid (show bp (ps.take ps.length) = bp ps by rw [List.take_length])
        obtain ⟨bs, hbs⟩ : ∃ bs, bp ps = bs := ⟨_, rfl⟩
        rw [hbs] at H HDROP HLE HALL HBL HM
        clear hbs
        have BO := Lib.hid (bytesOf'_ok bs)
        have HBB := Lib.hid (bytesOf'_len bs)
        obtain ⟨B, hB⟩ : ∃ B, bytesOf' bs = B := ⟨_, rfl⟩
        have HPUT := Lib.hid (butk_put bs)
        have HPAD := Lib.hid (pad_bytes bs)
        have HWB := Lib.hid (fun W os (h : Hold w W (wrO g bs :: os)) => hBytes_w h HM.out)
        rw [hB] at BO HBB HPUT HPAD HWB
        clear hB
        have HBN := Lib.hid (show B.length ≤ 1000 by have := HBB.out; have := HBL.out; omega)
        go_wp2_with (first
          | (go_at_call 16; (with_reducible refine (HWB.out _ _ H.out).mono ?_); rintro e w1 ⟨A1, c1, rfl, hr, hn, _, hb⟩; replace H := Lib.hid (H.out.below hb); have RR := Lib.hid hr; have NL := Lib.hid hn; clear hb hr hn)
          | (go_at_call 18; (with_reducible refine (hNew_r H.out rfl RR.out (by have := HBN.out; omega) NL.out).mono ?_); rintro e w1 ⟨g2, rfl, h, _⟩; replace H := Lib.hid h.third; clear h RR NL))
        go_loopg [9] ps.length (fun k q wr => ∃ j : Nat, j ≤ ps.length ∧ k = ps.length - j ∧ q = .int .i64 j ∧ Hid (Hold w wr [owO 29 2 (.slice A3 ps.length c3) ps.length (pcells ps), rdO g2 B (bp (ps.take j)).length, wrO g bs]))
        case atStart => exact ⟨0, by omega, rfl, rfl, H⟩
        case round =>
          obtain ⟨j, hj, hk2, rfl, hT⟩ := hrel
          have HK2 := Lib.hid hk2
          clear H
          have H := hT
          clear hk2 hT
          by_cases hj2 : j < ps.length
          · have j1 : (j : Int) < (ps.length : Int) := by omega
            obtain ⟨ad3, hA3⟩ := pr_some H.out (by omega)
            subst hA3
            have HCP := Lib.hid (fun W os (h : Hold w W (owO 29 2 (.slice (some ad3) ps.length c3) ps.length (pcells ps) :: os)) => pr_cells h j hj2)
            have hx := HPS.out (ps.getD j (0, 0)) (by rw [List.getD_eq_getElem?_getD, List.getElem?_eq_getElem hj2]; exact List.getElem_mem hj2)
            have ht := HTAKE.out j hj2
            have hd := HDROP.out j hj2
            have hle := HLE.out j
            have hl2 := congrArg List.length ht
            rw [List.length_append, bitsN_len] at hl2
            generalize (ps.getD j (0, 0)).1 = V at *
            generalize (ps.getD j (0, 0)).2 = L at *
            have hb := HPUT.out _ V L _ hle hx hd
            rw [← hl2] at hb
            have HTK := Lib.hid (fun W os (h : Hold w W (rdO g2 B (bp (ps.take j)).length :: os)) => hTake_bu h (by have := HBB.out; omega) (by have := HBN.out; omega) BO.out (by have := hx.1; omega) (by have := hx.2.1; omega) hb)
            clear hx ht hd hle hl2 hb
            obtain ⟨hc0, hc1⟩ := HCP.out _ _ H.out
            go_wp2_with (go_at_call 20; (with_reducible refine (HTK.out _ _ H.out.swap).mono ?_); rintro e w1 ⟨rfl, h⟩; replace H := Lib.hid h.swap; clear h hc0 hc1; obtain ⟨hc0, hc1⟩ := HCP.out _ _ H.out)
            go_roundg (ps.length - (j + 1))
            case measure => have := HK2.out; omega
            case rel => exact ⟨j + 1, by omega, rfl, by go_num, H⟩
          · have j1 : ¬ (j : Int) < (ps.length : Int) := by omega
            obtain rfl : j = ps.length := by omega
            rw [HALL.out] at H
            have HT := Lib.hid (show bs.length ≤ 8 * B.length by have := HBB.out; omega)
            have HEND := Lib.hid (show 8 * ((bs.length + 7) / 8) = 8 * B.length by have := HBB.out; omega)
            have HPD := Lib.hid (fun W os (h : Hold w W (rdO g2 B bs.length :: os)) => hPad_r h HT.out (by have := HBN.out; omega) HPAD.out)
            rw [HEND.out] at HPD
            have HLF := Lib.hid (fun W os (h : Hold w W (rdO g2 B (8 * B.length) :: os)) => hLeft_r h (Nat.le_refl _) (by have := HBN.out; omega))
            rw [show 8 * (B.length : Int) - ((8 * B.length : Nat) : Int) = 0 by omega] at HLF
            clear HPUT HTAKE HLE HT HEND j1
            go_wp2_with (first
              | (go_at_call 26; (with_reducible refine (HPD.out _ _ H.out.swap).mono ?_); rintro e w1 ⟨rfl, h⟩; replace H := Lib.hid h; clear h)
              | (go_at_call 22; (with_reducible refine (HLF.out _ _ H.out).mono ?_); rintro e w1 ⟨rfl, h⟩; replace H := Lib.hid h; clear h))
            go_ret
            exact ⟨rfl, H.out.B⟩
  · go_enter Try.func7, Try.ntmps7
    go_wp2_with (go_at_call 8; (with_reducible refine (awake13 _).mono ?_); rintro e w1 ⟨rfl, hb⟩; replace H := Lib.hid (H.out.below hb); clear hb)
    go_ret
    exact ⟨rfl, H.out.B⟩
end Go.Proofs.Ytbcpngaebijddaa
