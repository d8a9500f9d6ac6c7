/- The statements of the layer bitf: BitfBack. -/
import Derived.Test.YtfdijffecgdjbaaRz
import Derived.Test.YtfdijffecgdjbaaOp
import Derived.Deep.RegionHeld3
import Derived.Laws.BitsLemmas
namespace Go.Proofs.Ytfdijffecgdjbaa
open Go.RowKit Go.Proofs.YtfdijffecgdjbaaW.PrintWords Go.Proofs.YtfdijffecgdjbaaW.PrintLast Go.Proofs.YtfdijffecgdjbaaW.PrintMore
attribute [local go_sem] max2_int min2_int max_two min_two max_three min_three max_four min_four
set_option linter.unusedSimpArgs false
set_option linter.unusedVariables false
theorem pairs_cells {k0 k1 : IntKind} {w : World} {a : Option Addr} {len cap : Nat} {zs : List (Int × Int)} (h : IsPairs k0 k1 w a len cap zs) (i : Nat) (hi : i < len) : ∃ ad, a = some ad ∧ ∀ wr, Below w.heap.size w wr → wr.cell? (ad.add (i * 2)) = some (.int k0 (zs.getD i (0, 0)).1) ∧ wr.cell? ⟨(ad.add (i * 2)).block, (ad.add (i * 2)).off + 1, none⟩ = some (.int k1 (zs.getD i (0, 0)).2) := by
  obtain ⟨x, e, hc⟩ := h.2.2.2 (by omega)
  refine ⟨x, e, fun wr hb => ?_⟩
  obtain ⟨h0, h1⟩ := hc i hi
  rw [← add_lit _ 1 (by omega), Addr.add_add]
  exact ⟨pw_cell_below hb h0, pw_cell_below hb h1⟩
/-! numbers that are put -/
def okP (p : Int × Int) : Prop := 0 ≤ p.2 ∧ p.2 ≤ 24
instance (p : Int × Int) : Decidable (okP p) := by unfold okP; exact inferInstance
def pb (p : Int × Int) : List Bool := if okP p then bitsN p.1 p.2.toNat else []
def pbs (ps : List (Int × Int)) : List Bool := ps.flatMap pb
theorem pbs_take (ps : List (Int × Int)) (j : Nat) (h : j < ps.length) : pbs (ps.take (j + 1)) = pbs (ps.take j) ++ pb (ps.getD j (0, 0)) := by
  unfold pbs
  rw [List.take_succ_eq_append_getElem h, List.getD_eq_getElem?_getD, List.getElem?_eq_getElem h, List.flatMap_append]
  simp only [Option.getD_some, List.flatMap_cons, List.flatMap_nil, List.append_nil]
theorem pbs_drop (ps : List (Int × Int)) (j : Nat) (h : j < ps.length) : (pbs ps).drop (pbs (ps.take j)).length = pb (ps.getD j (0, 0)) ++ pbs (ps.drop (j + 1)) := by
  have e : pbs ps = pbs (ps.take j) ++ (pb (ps.getD j (0, 0)) ++ pbs (ps.drop (j + 1))) := by
    rw [← List.append_assoc, ← pbs_take ps j h]
    unfold pbs
    rw [← List.flatMap_append, List.take_append_drop]
  rw [e, List.drop_left]
theorem pbs_le (ps : List (Int × Int)) (j : Nat) : (pbs (ps.take j)).length ≤ (pbs ps).length := by
  have e : pbs ps = pbs (ps.take j) ++ pbs (ps.drop j) := by
    unfold pbs; rw [← List.flatMap_append, List.take_append_drop]
  rw [e, List.length_append]; omega
theorem pbs_len (ps : List (Int × Int)) : ∀ j, j ≤ ps.length → (pbs (ps.take j)).length ≤ 24 * j
  | 0, _ => by simp [pbs]
  | j + 1, h => by
    have ih := pbs_len ps j (by omega)
    rw [pbs_take ps j h, List.length_append]
    have : (pb (ps.getD j (0, 0))).length ≤ 24 := by
      unfold pb
      split
      · rename_i h; rw [bitsN_len]; unfold okP at h; omega
      · simp
    omega
/-! what is taken of bytes, with more behind them -/
theorem numOf_bitsN_mod : ∀ (n : Nat) (v : Int), 0 ≤ v → numOf (bitsN v n) = v % pw n
  | 0, v, h0 => by rw [pw_0, Int.emod_one]; rfl
  | n + 1, v, h0 => by
    have hp := pw_pos n
    rw [bitsN_cons, numOf, numOf_bitsN_mod n (v / 2) (by omega), pw_succ]
    have a1 := Int.mul_ediv_add_emod (v / 2) (pw n)
    have b0 := Int.emod_nonneg (v / 2) (show pw n ≠ 0 by omega)
    have b1 := Int.emod_lt_of_pos (v / 2) (show 0 < pw n by omega)
    have e : v = ((v / 2) % pw n * 2 + v % 2) + 2 * pw n * (v / 2 / pw n) := by
      rw [Int.mul_assoc]; omega
    have e2 : v % (2 * pw n) = (v / 2) % pw n * 2 + v % 2 := by
      have h1 := Int.emod_eq_of_lt (a := (v / 2) % pw n * 2 + v % 2) (b := 2 * pw n) (by omega) (by omega)
      rw [← h1]
      conv => lhs; rw [e]
      rw [Int.add_mul_emod_self_left]
    rw [e2]
    by_cases h : v % 2 = 1
    · rw [decide_eq_true h]; simp; omega
    · rw [decide_eq_false h]; simp; omega
theorem bitAt_app (B C : List Int) (i : Nat) (h : i < 8 * B.length) : bitAt (B ++ C) i = bitAt B i := by
  unfold bitAt
  rw [List.getD_eq_getElem?_getD, List.getElem?_append_left (by omega), ← List.getD_eq_getElem?_getD]
theorem bits_app (B C : List Int) (t : Nat) (h : t ≤ 8 * B.length) : (bitsOf (B ++ C)).take t = (bitsOf B).take t := by
  apply List.ext_getElem?
  intro i
  rw [List.getElem?_take, List.getElem?_take]
  split
  · rw [bitsOf_get _ _ (by rw [List.length_append]; omega), bitsOf_get _ _ (by omega), bitAt_app B C i (by omega)]
  · rfl
theorem numAt_app (B C : List Int) (t n : Nat) (h : t + n ≤ 8 * B.length) : numAt (B ++ C) t n = numAt B t n := by
  unfold numAt
  have e : ∀ L : List Bool, (L.drop t).take n = (L.take (t + n)).drop t := fun L => by rw [List.drop_take]; congr 1; omega
  rw [e, e, bits_app B C _ h]
theorem numAt_more (bs : List Bool) (C : List Int) (t : Nat) (v : Int) (n : Nat) (r : List Bool) (ht : t ≤ bs.length) (h0 : 0 ≤ v) (hd : bs.drop t = bitsN v n ++ r) : numAt (bytesOf' bs ++ C) t n = v % pw n ∧ t + n ≤ bs.length := by
  have hl : t + n ≤ bs.length := by
    have := congrArg List.length hd
    rw [List.length_drop, List.length_append, bitsN_len] at this; omega
  refine ⟨?_, hl⟩
  rw [numAt_app _ _ _ _ (by rw [bytesOf'_len]; omega)]
  have h := drop_bytes bs t (bitsN v n) ⟨r, hd⟩ ht
  rw [bitsN_len] at h
  unfold numAt
  rw [h, numOf_bitsN_mod n v h0]
theorem pad_more (bs : List Bool) (C : List Int) : padOk (bytesOf' bs ++ C) bs.length = true := by
  have h := pad_bytes bs
  unfold padOk at h ⊢
  by_cases h8 : bs.length % 8 = 0
  · simp [h8]
  · have e : (bytesOf' bs ++ C).getD (bs.length / 8) 0 = (bytesOf' bs).getD (bs.length / 8) 0 := by
      rw [List.getD_eq_getElem?_getD, List.getElem?_append_left (by rw [bytesOf'_len]; omega), ← List.getD_eq_getElem?_getD]
    rw [e]; exact h
section
variable {w0 W : World} {os : List Ob}
theorem hRest_r {g : Nat} {l : List Int} {t : Nat} (H : Hold w0 W (rdO g l t :: os)) (ht : t ≤ 8 * l.length) (hm : l.length ≤ 140737488351232) :
    Calls Try.prog 17 #[.pointer (some ⟨g, 0, none⟩)] W fun e w' => ∃ A c, e = .returned (.slice A (l.length - (t + 7) / 8) c) ∧ ReadsInt w' .u8 A (l.length - (t + 7) / 8) (l.drop ((t + 7) / 8)) ∧ Hold w0 w' (rdO g l t :: os) := by
  obtain ⟨F, A, c, hI, hF⟩ := H.head
  refine (brest_any g l t W hI ht hm).mono ?_
  rintro e w' ⟨v, rfl, ho, hb⟩
  obtain ⟨A1, c1, rfl, _, hr⟩ := own_reads' ho
  exact ⟨A1, c1, rfl, hr, H.below hb⟩
theorem hBytesO_w {g : Nat} {bs : List Bool} (H : Hold w0 W (wrO g bs :: os)) (hm : bs.length ≤ 1000000000000) :
    Calls Try.prog 21 #[.pointer (some ⟨g, 0, none⟩)] W fun e w' => ∃ v, e = .returned v ∧ w'.ownsRow 0 5 1 v (bytesOf' bs).length (nums .u8 (bytesOf' bs)) ∧ Hold w0 w' (owO 5 1 v (bytesOf' bs).length (nums .u8 (bytesOf' bs)) :: wrO g bs :: os) := by
  obtain ⟨F, h⟩ := H.head
  refine (wbytes_any g bs W F h hm).mono ?_
  rintro e w' ⟨v, rfl, ho, hb⟩
  exact ⟨v, rfl, own_weaken ho (Nat.zero_le _), H.new hb ⟨own_weaken ho (Nat.zero_le _), rfl⟩ (fun k hk => own_base ho k hk)⟩
theorem Hold.appended {e size : Nat} {v v1 : Value} {n n1 : Nat} {xs xs1 : List Value} {w1 : World} (H : Hold w0 W (owO e size v n xs :: os)) (ho : w1.ownsRow 0 e size v1 n1 xs1) (hg : W.grownBy w1 v.ownBlock) (hat : v1.ownBlock = v.ownBlock ∨ ∃ b, v1.ownBlock = some b ∧ W.heap.size ≤ b) : Hold w0 w1 (owO e size v1 n1 xs1 :: os) :=
  H.turn fun F ⟨h1, h2⟩ => ⟨_, ⟨ho, rfl⟩, Chg.of_grown hg (fun k e => by rw [h2]; exact e), fun k hk => by
    rcases hat with h | ⟨b, h, hb⟩
    · left; rw [h2]; exact h ▸ hk
    · right; have : b = k := by rw [h] at hk; injection hk
      omega⟩
end
theorem own_nil0 {w : World} {base n m c : Nat} {e : TypeId} {s : Nat} {A : Option Addr} {xs : List Value} (h : w.ownsRow base e s (.slice A n c) m xs) : A = none → c = 0 := by
  intro hA
  rcases h.2 with ⟨e, _⟩ | ⟨b, cap, cur, e, _⟩
  · injection e
  · rw [hA] at e; cases e
theorem str7 : strOfNums [7] = ⟨#[7]⟩ := by rfl
set_option maxHeartbeats 2000000 in
theorem awake03 (w : World) :
    Calls Try.prog 7 #[] w fun e w' => e = .returned (.bool true) ∧ Below w.heap.size w w' := by
  have H := Lib.hid (Hold.start w)
  have OK := Lib.hid (show ∀ x, x ∈ [13, 7] → (0 : Int) ≤ x ∧ x ≤ 255 by decide)
  have E1 := Lib.hid (show numAt [13, 7] 0 3 = 5 by decide)
  have E2 := Lib.hid (show numAt [13, 7] 3 2 = 1 by decide)
  have E3 := Lib.hid (show padOk [13, 7] 5 = true by decide)
  have S1 := Lib.hid trivial
  go_enter Try.func7, Try.ntmps7
  go_wp2_with (first
    | (go_at_call 8; (refine (hNew_r (l := [13, 7]) (H.out.below ((Below.refl _ _).alloc (Nat.le_refl _) _)) rfl (lit_reads _ .u8 _ [13, 7] (by simp)) (by decide) (by intro h; cases h)).mono ?_); rintro e w1 ⟨g2, rfl, h, _⟩; replace H := Lib.hid h; clear h)
    | (go_at_call 12; clear S1; (refine (hTake_r (t := 0) (n := 3) H.out (by decide) (by decide) (by decide) OK.out).mono ?_); rintro e w1 ⟨rfl, h⟩; rw [E1.out]; replace H := Lib.hid h; clear h)
    | (go_at_call 12; (refine (hTake_r (t := 3) (n := 2) H.out (by decide) (by decide) (by decide) OK.out).mono ?_); rintro e w1 ⟨rfl, h⟩; rw [E2.out]; replace H := Lib.hid h; clear h)
    | (go_at_call 10; (refine (hPad_r (t := 5) H.out (by decide) (by decide) E3.out).mono ?_); rintro e w1 ⟨rfl, h⟩; replace H := Lib.hid h; clear h)
    | (go_at_call 17; (refine (hRest_r (t := 8) H.out (by decide) (by decide)).mono ?_); rintro e w1 ⟨A1, c1, rfl, hr, h⟩; replace H := Lib.hid h; have es := string_of_reads (P := Try.prog) (src := 22) (dst := 9) (c := c1) Try.underlying22 Try.underlying5 Try.underlying9 (show ReadsInt _ .u8 A1 1 [7] from hr); rw [str7] at es; clear h hr)
    | (go_at_call 14; (refine (hLeft_r (t := 8) H.out (by decide) (by decide)).mono ?_); rintro e w1 ⟨rfl, h⟩; replace H := Lib.hid h; clear h))
  go_ret
  exact ⟨rfl, H.out.B⟩
set_option maxRecDepth 20000 in
set_option maxHeartbeats 4000000 in
theorem bfback_walk (a : Option Addr) (len cap : Nat) (zs : List (Int × Int)) (b : Option Addr) (len2 cap2 : Nat) (zs2 : List Int) (w : World) (h : IsPairs .u32 .i64 w a len cap zs) (y : len * 16 ≤ 140737488351232) (h' : IsRow .u8 w b len2 cap2 zs2) (y' : len2 * 1 ≤ 140737488351232) :
    Calls Try.prog 6 #[.slice a len cap, .slice b len2 cap2] w fun e w' => e = .returned (.bool true) ∧ Below w.heap.size w w' := by
  obtain rfl := h.1
  obtain ⟨C, rfl, hr, _, hwf⟩ := h'.reads (by omega)
  have R1 := Lib.hid h
  have RC := Lib.hid hr
  have CK := Lib.hid (show ∀ x, x ∈ C → 0 ≤ x ∧ x ≤ 255 from wf_u8 hwf)
  have H := Lib.hid (Hold.start w)
  clear h h' y y' hr hwf
  generalize zs = m at *
  by_cases hs : m.length ≤ 60
  · by_cases hs2 : C.length ≤ 60
    · go_enter Try.func6, Try.ntmps6
      go_wp2_with (first
        | (go_at_call 7; (with_reducible refine (awake03 _).mono ?_); rintro e w1 ⟨rfl, hb⟩; replace H := Lib.hid (H.out.below hb); clear hb)
        | (go_at_call 19; (with_reducible refine (hNew_w H.out).mono ?_); rintro e w1 ⟨g, rfl, h⟩; replace H := Lib.hid h; clear h))
      go_loopg [7] m.length (fun k q wr => ∃ (i : Nat), i ≤ m.length ∧ k = m.length - i ∧ q = .int .i64 i ∧ Hid (Hold w wr [wrO g (pbs (m.take i))]))
      case atStart => exact ⟨0, by omega, rfl, rfl, H⟩
      case round =>
        obtain ⟨i, hi, hk, rfl, hT⟩ := hrel
        have HK := Lib.hid hk
        clear H
        have H := hT
        clear hk hT
        by_cases hi2 : i < m.length
        · have i1 : (i : Int) < (m.length : Int) := by omega
          obtain ⟨ad, hA, hcl⟩ := pairs_cells R1.out i hi2
          subst hA
          have HCL := Lib.hid hcl
          clear hcl
          have hbd := R1.out.2.2.1 (m.getD i (0, 0)) (by rw [List.getD_eq_getElem?_getD, List.getElem?_eq_getElem hi2]; exact List.getElem_mem hi2)
          have hv := bounds_u32 hbd.1
          have hlen := pbs_len m i (by omega)
          have htk := pbs_take m i hi2
          generalize hp : m.getD i (0, 0) = p at *
          obtain ⟨V, N⟩ := p
          obtain ⟨hc0, hc1⟩ := HCL.out _ H.out.B
          simp only [] at hc0 hc1 hv HCL
          by_cases hx : okP (V, N)
          · obtain ⟨n, rfl⟩ : ∃ n : Nat, N = (n : Int) := ⟨N.toNat, by have := hx.1; simp at this; omega⟩
            have hn24 : n ≤ 24 := by have := hx.2; simp at this; omega
            have HQ := Lib.hid (fun W os (h : Hold w W (wrO g (pbs (m.take i)) :: os)) => hPut_w h (by omega) hv.1 hv.2 hn24)
            rw [show pbs (m.take i) ++ bitsN V n = pbs (m.take (i + 1)) by rw [htk, pb, if_pos hx]; rfl] at HQ
            clear hx hbd hp htk hlen
            go_wp2
            go_region_held3 (fun W => W.cell? (ad.add (i * 2)) = some (.int .u32 V) ∧ W.cell? ⟨(ad.add (i * 2)).block, (ad.add (i * 2)).off + 1, none⟩ = some (.int .i64 (n : Int))) (exact ⟨hc0, hc1⟩) (first
              | (go_at_call 20; (with_reducible refine (HQ.out _ _ H.out.drew).mono ?_); rintro e w1 ⟨rfl, h⟩; replace H := Lib.hid h; clear h hc0 hc1; obtain ⟨hc0, hc1⟩ := HCL.out _ H.out.B))
            go_wp2
            go_roundg (m.length - (i + 1))
            case measure => have := HK.out; omega
            case rel => exact ⟨i + 1, by omega, rfl, by go_num, H⟩
          · have HQ := Lib.hid (fun W => wput_no g (pbs (m.take i)) V N W (by unfold okP at hx; simp at hx; omega))
            rw [show pbs (m.take i) = pbs (m.take (i + 1)) by rw [htk, pb, if_neg hx, List.append_nil]] at H
            clear hx hbd hp htk hlen
            go_wp2
            replace H := Lib.hid (Hold.drew H.out)
            go_region_held3 (fun W => W.cell? (ad.add (i * 2)) = some (.int .u32 V) ∧ W.cell? ⟨(ad.add (i * 2)).block, (ad.add (i * 2)).off + 1, none⟩ = some (.int .i64 N)) (exact HCL.out _ H.out.B) (first
              | (go_at_call 20; (with_reducible refine (HQ.out _).mono ?_); rintro e w1 ⟨rfl, rfl⟩))
            go_wp2
            go_roundg (m.length - (i + 1))
            case measure => have := HK.out; omega
            case rel => exact ⟨i + 1, by omega, rfl, by go_num, H⟩
        · have i1 : ¬ (i : Int) < (m.length : Int) := by omega
          obtain rfl : i = m.length := by omega
          have HTAKE := Lib.hid (pbs_take m)
          have HDROP := Lib.hid (pbs_drop m)
          have HLE := Lib.hid (pbs_le m)
          have HALL := Lib.hid (show pbs (m.take m.length) = pbs m by rw [List.take_length])
          have HBL := Lib.hid (show (pbs m).length ≤ 1440 by have := pbs_len m m.length (Nat.le_refl _); rw [HALL.out] at this; omega)
          rw [HALL.out] at H
          obtain ⟨bs, hbs⟩ : ∃ bs, pbs m = bs := ⟨_, rfl⟩
          rw [hbs] at H HDROP HLE HALL HBL
          clear hbs
          have BO := Lib.hid (bytesOf'_ok bs)
          have HBB := Lib.hid (bytesOf'_len bs)
          have HNUM := Lib.hid (numAt_more bs C)
          have HPAD := Lib.hid (pad_more bs C)
          have HWB := Lib.hid (fun W os (h : Hold w W (wrO g bs :: os)) => hBytesO_w h (by have := HBL.out; omega))
          obtain ⟨B, hB⟩ : ∃ B, bytesOf' bs = B := ⟨_, rfl⟩
          rw [hB] at BO HBB HNUM HPAD HWB
          clear hB
          have HBN := Lib.hid (show B.length ≤ 1000 by have := HBB.out; have := HBL.out; omega)
          have HLL := Lib.hid (show (B ++ C).length = B.length + C.length from List.length_append)
          have LK := Lib.hid (show ∀ x, x ∈ B ++ C → 0 ≤ x ∧ x ≤ 255 from fun x hx => (List.mem_append.1 hx).elim (BO.out x) (CK.out x))
          have HDR := Lib.hid (show (B ++ C).drop B.length = C from List.drop_left)
          go_wp2_with (first
            | (go_at_call 21; (with_reducible refine (HWB.out _ _ H.out).mono ?_); rintro e w1 ⟨v, rfl, ho, h⟩; replace H := Lib.hid h; have HO := Lib.hid ho; clear h ho)
            | (at_builtin; refine print_append_row (w0 := _) 0 rfl (.tmp 45) (.tmp 46) 22 5 .u8 1 rfl Try.underlying22 info_u8 (by omega) _ B C _ _ _ rfl rfl HO.out (RC.out.below H.out.B) (Below.refl 0 _) (Nat.zero_le _) (by have := HBN.out; omega) ?_; intro v1 w1 ho hb hg hat; replace H := Lib.hid (H.out.appended ho hg hat); obtain ⟨A1, c1, rfl, hle, hr⟩ := own_reads' ho; have NL := Lib.hid (own_nil0 ho); rw [HLL.out] at hr; have RL := Lib.hid hr; clear ho hb hg hat hr)
            | (go_at_call 8; (with_reducible refine (hNew_r H.out HLL.out RL.out (by have := HBN.out; omega) NL.out).mono ?_); rintro e w1 ⟨g2, rfl, h, _⟩; replace H := Lib.hid h; clear h RL NL))
          generalize B ++ C = l at *
          go_loopg [9] m.length (fun k q wr => ∃ j : Nat, j ≤ m.length ∧ k = m.length - j ∧ q = .int .i64 j ∧ Hid (∃ os, Hold w wr (rdO g2 l (pbs (m.take j)).length :: os)))
          case atStart => exact ⟨0, by omega, rfl, rfl, Lib.hid ⟨_, H.out⟩⟩
          case round =>
            obtain ⟨j, hj, hk2, rfl, hT⟩ := hrel
            have HK2 := Lib.hid hk2
            clear H
            obtain ⟨os, hT2⟩ := hT.out
            have H := Lib.hid hT2
            clear hk2 hT hT2
            by_cases hj2 : j < m.length
            · have j1 : (j : Int) < (m.length : Int) := by omega
              obtain ⟨ad, hA, hcl⟩ := pairs_cells R1.out j hj2
              subst hA
              have HCL := Lib.hid hcl
              clear hcl
              have hbd := R1.out.2.2.1 (m.getD j (0, 0)) (by rw [List.getD_eq_getElem?_getD, List.getElem?_eq_getElem hj2]; exact List.getElem_mem hj2)
              have hv := bounds_u32 hbd.1
              have htk := HTAKE.out j hj2
              have hdr := HDROP.out j hj2
              have hle := HLE.out j
              generalize hp : m.getD j (0, 0) = p at *
              obtain ⟨V, N⟩ := p
              obtain ⟨hc0, hc1⟩ := HCL.out _ H.out.B
              simp only [] at hc0 hc1 hv HCL
              by_cases hx : okP (V, N)
              · obtain ⟨n, rfl⟩ : ∃ n : Nat, N = (n : Int) := ⟨N.toNat, by have := hx.1; simp at this; omega⟩
                have hn24 : n ≤ 24 := by have := hx.2; simp at this; omega
                rw [pb, if_pos hx] at htk hdr
                have hl2 := congrArg List.length htk
                rw [List.length_append, bitsN_len, Int.toNat_natCast] at hl2
                rw [Int.toNat_natCast] at hdr
                obtain ⟨n1, n2⟩ := HNUM.out _ V n _ hle hv.1 hdr
                have hpn := pw_pos n
                have hpm := pw_mono hn24
                rw [show pw 24 = 16777216 by decide] at hpm
                have HTK := Lib.hid (fun W os (h : Hold w W (rdO g2 l (pbs (m.take j)).length :: os)) => hTake_r (n := n) h (by have := HLL.out; have := HBB.out; omega) hn24 (by have := HLL.out; have := HBN.out; omega) LK.out)
                rw [n1, ← hl2] at HTK
                have z1 : decide ((n : Int) < 0) = false := decide_eq_false (by omega)
                have z2 : decide (24 < (n : Int)) = false := decide_eq_false (by omega)
                have v1 : IntKind.u32.wrap (pw n) = pw n := by show pw n % 4294967296 = _; omega
                have v2 : IntKind.u32.wrap (pw n - 1) = pw n - 1 := by show (pw n - 1) % 4294967296 = _; omega
                have v3 : pw n % 4294967296 = pw n := by omega
                have v4 : (pw n - 1) % 4294967296 = pw n - 1 := by omega
                have va : bits .and .u32 V (pw n - 1) = V % pw n := by
                  have := bits_mask .u32 32 (by decide) (fun z h0 h1 => by show z % 4294967296 = z; omega) n (by omega) V hv.1 (by have := hv.2; omega)
                  rwa [pow_pw] at this
                have e1 : (2 : Int) ^ n = pw n := pow_pw n
                have VF := Lib.hid (And.intro v1 (And.intro v2 (And.intro v3 (And.intro v4 (And.intro va e1)))))
                clear hx hbd hp htk hdr hl2 hle n1 n2 v1 v2 v3 v4 va e1
                generalize V % pw n = X at *
                generalize pw n = M at *
                go_wp2_with (go_at_call 12; (with_reducible refine (HTK.out _ _ H.out).mono ?_); rintro e w1 ⟨rfl, h⟩; replace H := Lib.hid h; clear h hc0 hc1; obtain ⟨hc0, hc1⟩ := HCL.out _ H.out.B)
                obtain ⟨v1, v2, v3, v4, va, e1⟩ := VF.out
                replace H := Lib.hid (Hold.drew H.out)
                go_region_held3 (fun W => W.cell? (ad.add (j * 2)) = some (.int .u32 V) ∧ W.cell? ⟨(ad.add (j * 2)).block, (ad.add (j * 2)).off + 1, none⟩ = some (.int .i64 (n : Int))) (exact HCL.out _ H.out.B) (fail)
                clear v1 v2 v3 v4 va e1
                go_wp2
                go_roundg (m.length - (j + 1))
                case measure => have := HK2.out; omega
                case rel => exact ⟨j + 1, by omega, rfl, by go_num, Lib.hid ⟨_, H.out⟩⟩
              · rw [pb, if_neg hx, List.append_nil] at htk
                rw [← htk] at H
                by_cases hN : N < 0
                · have z1 : decide (N < 0) = true := decide_eq_true hN
                  clear hx hbd hp htk hdr hle
                  go_wp2
                  go_roundg (m.length - (j + 1))
                  case measure => have := HK2.out; omega
                  case rel => exact ⟨j + 1, by omega, rfl, by go_num, Lib.hid ⟨_, H.out⟩⟩
                · have z1 : decide (N < 0) = false := decide_eq_false hN
                  have hN2 : 24 < N := by unfold okP at hx; simp at hx; omega
                  have z2 : decide (24 < N) = true := decide_eq_true hN2
                  clear hx hbd hp htk hdr hle
                  go_wp2
                  go_roundg (m.length - (j + 1))
                  case measure => have := HK2.out; omega
                  case rel => exact ⟨j + 1, by omega, rfl, by go_num, Lib.hid ⟨_, H.out⟩⟩
            · have j1 : ¬ (j : Int) < (m.length : Int) := by omega
              obtain rfl : j = m.length := by omega
              rw [HALL.out] at H
              have hbb := HBB.out
              have hll := HLL.out
              have hbn := HBN.out
              have HT := Lib.hid (show bs.length ≤ 8 * l.length by omega)
              have HPD := Lib.hid (fun W os (h : Hold w W (rdO g2 l bs.length :: os)) => hPad_r h HT.out (by omega) HPAD.out)
              rw [show 8 * ((bs.length + 7) / 8) = 8 * B.length by omega] at HPD
              have HRS := Lib.hid (fun W os (h : Hold w W (rdO g2 l (8 * B.length) :: os)) => hRest_r h (by omega) (by omega))
              rw [show (8 * B.length + 7) / 8 = B.length by omega, show l.length - B.length = C.length by omega, HDR.out] at HRS
              have HLF := Lib.hid (fun W os (h : Hold w W (rdO g2 l (8 * B.length) :: os)) => hLeft_r h (by omega) (by omega))
              rw [show 8 * (l.length : Int) - ((8 * B.length : Nat) : Int) = 8 * (C.length : Int) by omega] at HLF
              clear hbb hll hbn HNUM HTAKE HDROP HLE HT j1
              go_wp2_with (first
                | (go_at_call 10; (with_reducible refine (HPD.out _ _ H.out).mono ?_); rintro e w1 ⟨rfl, h⟩; replace H := Lib.hid h; clear h)
                | (go_at_call 17; (with_reducible refine (HRS.out _ _ H.out).mono ?_); rintro e w1 ⟨A3, c3, rfl, hr, h⟩; replace H := Lib.hid h; have P1 := Lib.hid hr; clear h hr)
                | (go_at_call 16; (with_reducible refine (same_any _ _ _ _ _ _ _ _ _ P1.out (RC.out.below H.out.B) CK.out CK.out).mono ?_); rintro e w1 ⟨rfl, rfl⟩; rw [eqB_self])
                | (go_at_call 14; (with_reducible refine (HLF.out _ _ H.out).mono ?_); rintro e w1 ⟨rfl, h⟩; replace H := Lib.hid h; clear h))
              go_ret
              exact ⟨rfl, H.out.B⟩
    · go_enter Try.func6, Try.ntmps6
      go_wp2_with (go_at_call 7; (with_reducible refine (awake03 _).mono ?_); rintro e w1 ⟨rfl, hb⟩; replace H := Lib.hid (H.out.below hb); clear hb)
      go_ret
      exact ⟨rfl, H.out.B⟩
  · go_enter Try.func6, Try.ntmps6
    go_wp2_with (go_at_call 7; (with_reducible refine (awake03 _).mono ?_); rintro e w1 ⟨rfl, hb⟩; replace H := Lib.hid (H.out.below hb); clear hb)
    go_ret
    exact ⟨rfl, H.out.B⟩
end Go.Proofs.Ytfdijffecgdjbaa
