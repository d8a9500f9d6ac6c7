/- The layer model: contracts that the print doesn't tell: whether a model is right; a list's copy. The layer model: what is made of counts: the contracts of made, Zero and First. -/
import Derived.Test.YtcffmmdgjifaaaaCw
import Derived.Test.YtcffmmdgjifaaaaShelf
import Derived.Test.YtcffmmdgjifaaaaPPrx3
import Derived.Test.YtcffmmdgjifaaaaLw
import Derived.Deep.RegionHeld3
import Derived.Test.YtcffmmdgjifaaaaPPrx6
import Derived.Test.YtcffmmdgjifaaaaPPrx2
import Derived.Test.YtcffmmdgjifaaaaPPrx9
import Derived.Test.YtcffmmdgjifaaaaPPrx10
namespace Go.Proofs.Ytcffmmdgjifaaaa
open Go.RowKit Go.Proofs.YtcffmmdgjifaaaaW.PrintWords Go.Proofs.YtcffmmdgjifaaaaW.PrintLast Go.Proofs.YtcffmmdgjifaaaaW.PrintMore PPr
attribute [local go_sem] max2_int min2_int max_two min_two max_three min_three max_four min_four
set_option linter.unusedSimpArgs false
set_option linter.unusedVariables false
/-- is any list bad -/
def badAt (k : Nat) (a : Int) : List (List Int) → Option Bool
  | [] => some false
  | q :: t => (model_log_bad.f k a q).bind fun b => if b = true then some true else badAt k a t
theorem badAt_mono (k : Nat) (a : Int) : ∀ l, LeO (badAt k a l) (badAt (k + 1) a l)
  | [] => LeO.refl _
  | q :: t => by
    unfold badAt
    exact LeO.bind (model_log_bad.mono _ _ _) (fun b => LeO.ite (LeO.refl _) (badAt_mono k a t))
theorem rows_cell {w : World} {A : Option Addr} {n : Nat} {l : List (List Int)} (h : Kd.C (Kd.slice 3 (Kd.int .i64)) w A n l) (i : Nat) (hi : i < n) :
    ∃ ad Ai ci, A = some ad ∧ w.cell? (ad.add i) = some (.slice Ai (l.getD i []).length ci) ∧ (l.getD i []).length ≤ ci ∧ Kd.C (Kd.int .i64) w Ai (l.getD i []).length (l.getD i []) := by
  obtain ⟨ad, c, rfl, _, ⟨Ai, ci, rfl, hle, hC⟩, hc⟩ := Kd.C_get h [] (i : Int) (by omega) (by omega)
  rw [Int.toNat_natCast] at hle hC hc
  have := hc 0 _ rfl
  rw [show (Kd.slice 3 (Kd.int .i64)).sz = 1 from rfl, Nat.mul_one, Nat.add_zero] at this
  exact ⟨ad, Ai, ci, rfl, this, hle, hC⟩
theorem drop_getD {α : Type} (l : List α) (i : Nat) (h : i < l.length) (z : α) : l.drop i = l.getD i z :: l.drop (i + 1) := by
  rw [List.drop_eq_getElem_cons h, List.getD_eq_getElem?_getD, List.getElem?_eq_getElem h]; rfl
set_option maxHeartbeats 1000000 in
theorem idx_any (k : Nat) (a : Int) (A : Option Addr) (c : Nat) (l : List (List Int)) (b : Bool) (w : World) (hr : Kd.C (Kd.slice 3 (Kd.int .i64)) w A l.length l) (hc : l.length ≤ c) (h : badAt k a l = some b) :
    Calls Try.prog 47 #[.slice A l.length c, .func (.func 26) #[.int .i64 a] #[]] w fun e w' => ∃ n : Int, e = .returned (.int .i64 n) ∧ decide (0 ≤ n) = b ∧ Below w.heap.size w w' := by
  have HR := Lib.hid hr
  have HB := Lib.hid (Below.refl w.heap.size w)
  have HL := Lib.hid hr.2.1
  have H := Lib.hid h
  clear hr h
  go_enter Try.func47, Try.ntmps47
  go_wp2
  go_loopg [8] l.length (fun m q wr => ∃ i : Nat, i ≤ l.length ∧ m = l.length - i ∧ q = .int .i64 i ∧ Hid (badAt k a (l.drop i) = some b) ∧ Hid (Below w.heap.size w wr))
  case atStart => exact ⟨0, by omega, by omega, rfl, by rw [List.drop_zero]; exact H, HB⟩
  case round =>
    obtain ⟨i, hi, hk, rfl, hE, hb⟩ := hrel
    have HK := Lib.hid hk
    clear HB H hk
    have HB := hb
    clear hb
    by_cases hlt : i < l.length
    · have i1 : (i : Int) < (l.length : Int) := by omega
      obtain ⟨ad, Ai, ci, rfl, hcell, hle, hC⟩ := rows_cell (Kd.C_below HR.out HB.out) i hlt
      have HC := Lib.hid hC
      have hE' := hE.out
      have hL := HL.out
      rw [drop_getD l i hlt [], badAt] at hE'
      obtain ⟨x, hx, hE2⟩ := Option.bind_eq_some_iff.1 hE'
      have HX := Lib.hid (fun w hr => model_log_bad.calls k a Ai ci (l.getD i []) x w hr hle hx)
      clear hC hE' hx hE
      generalize l.getD i [] = q at *
      cases x with
      | true =>
        simp only [if_true, Option.some.injEq] at hE2
        subst hE2
        go_wp2_with (go_at_call 26; (with_reducible refine (HX.out _ HC.out).mono ?_); rintro e w1 ⟨rfl, ⟨nd, rfl⟩⟩; replace HB := Lib.hid (pw_below_drewN HB.out nd))
        go_ret
        exact ⟨_, rfl, decide_eq_true (by omega), HB.out⟩
      | false =>
        simp only [Bool.false_eq_true, if_false] at hE2
        have HE := Lib.hid hE2
        clear hE2
        go_wp2_with (go_at_call 26; (with_reducible refine (HX.out _ HC.out).mono ?_); rintro e w1 ⟨rfl, ⟨nd, rfl⟩⟩; replace HB := Lib.hid (pw_below_drewN HB.out nd))
        go_roundg (l.length - (i + 1))
        case measure => have := HK.out; omega
        case rel => exact ⟨i + 1, by omega, rfl, by go_num, HE, HB⟩
    · have i1 : ¬ (i : Int) < (l.length : Int) := by omega
      have hE' := hE.out
      rw [List.drop_eq_nil_of_le (by omega), badAt] at hE'
      injection hE' with hE'
      subst hE'
      go_wp2
      go_ret
      exact ⟨-1, rfl, by decide, HB.out⟩
set_option maxHeartbeats 1000000 in
theorem contains_any (k : Nat) (a : Int) (A : Option Addr) (c : Nat) (l : List (List Int)) (b : Bool) (w : World) (hr : Kd.C (Kd.slice 3 (Kd.int .i64)) w A l.length l) (hc : l.length ≤ c) (h : badAt k a l = some b) :
    Calls Try.prog 25 #[.slice A l.length c, .func (.func 26) #[.int .i64 a] #[]] w fun e w' => e = .returned (.bool b) ∧ Below w.heap.size w w' := by
  have HI := Lib.hid (idx_any k a A c l b w hr hc h)
  clear hr h
  go_enter Try.func25, Try.ntmps25
  go_wp2_with (go_at_call 47; (with_reducible refine HI.out.mono ?_); rintro e w1 ⟨n, rfl, hn, hb⟩)
  go_ret
  exact ⟨rfl, hb⟩
def rightF (k : Nat) (a0 : Int) (a1 : Bool) (l : List (List Int)) : Option Bool :=
  if a0 < 1 then some false else if 12 < a0 then some false else (badAt k a0 l).bind fun b => if b = true then some false else if a1 = true then (if l.length = 1 then some (decide (0 < (l.getD 0 []).length)) else some false) else some (decide (l.length = 256))
theorem rightF_mono (a0 : Int) (a1 : Bool) (l : List (List Int)) (k : Nat) : LeO (rightF k a0 a1 l) (rightF (k + 1) a0 a1 l) := by
  unfold rightF
  exact LeO.ite (LeO.refl _) (LeO.ite (LeO.refl _) (LeO.bind (badAt_mono k a0 l) (fun b => LeO.refl _)))
set_option maxHeartbeats 2000000 in
theorem right_any (k : Nat) (a0 : Int) (a1 : Bool) (A : Option Addr) (c : Nat) (l : List (List Int)) (r : Bool) (w : World) (hr : Kd.C (Kd.slice 3 (Kd.int .i64)) w A l.length l) (hc : l.length ≤ c) (h : rightF k a0 a1 l = some r) :
    Calls Try.prog 10 #[.agg #[.int .i64 a0, .bool a1, .slice A l.length c]] w fun e w' => e = .returned (.bool r) ∧ Below w.heap.size w w' := by
  have HR := Lib.hid hr
  have HB := Lib.hid ((Below.refl w.heap.size w).alloc (Nat.le_refl _) (.cells #[.int .i64 a0, .bool a1, .slice A l.length c] 24))
  have hmf : ∀ (fn : Fn) (first cap : Array Value) (w : World), (Instr.makeFunc fn first cap).run Try.prog w = .ok (.func fn first cap) w := fun _ _ _ _ => rfl
  clear hr
  unfold rightF at h
  by_cases c1 : a0 < 1
  · rw [if_pos c1] at h
    injection h with h
    subst h
    have z1 : decide (a0 < 1) = true := decide_eq_true c1
    go_enter Try.func10, Try.ntmps10
    go_wp2
    go_ret
    exact ⟨rfl, HB.out⟩
  · rw [if_neg c1] at h
    have z1 : decide (a0 < 1) = false := decide_eq_false c1
    by_cases c2 : 12 < a0
    · rw [if_pos c2] at h
      injection h with h
      subst h
      have z2 : decide (12 < a0) = true := decide_eq_true c2
      go_enter Try.func10, Try.ntmps10
      go_wp2
      go_ret
      exact ⟨rfl, HB.out⟩
    · rw [if_neg c2] at h
      have z2 : decide (12 < a0) = false := decide_eq_false c2
      obtain ⟨b, hb, h2⟩ := Option.bind_eq_some_iff.1 h
      have HCO := Lib.hid (fun w hr => contains_any k a0 A c l b w hr hc hb)
      clear h hb c1 c2
      cases b with
      | true =>
        simp only [if_true, Option.some.injEq] at h2
        subst h2
        go_enter Try.func10, Try.ntmps10
        go_wp2_with (go_at_call 25; (with_reducible refine (HCO.out _ (Kd.C_below HR.out HB.out)).mono ?_); rintro e w1 ⟨rfl, hb⟩; replace HB := Lib.hid (below_then' HB.out hb); clear hb)
        go_ret
        exact ⟨rfl, HB.out⟩
      | false =>
        simp only [Bool.false_eq_true, if_false] at h2
        have HX := Lib.hid (fun w1 (hb : Below (w.alloc (.cells #[.int .i64 a0, .bool a1, .slice A l.length c] 24)).heap.size (w.alloc (.cells #[.int .i64 a0, .bool a1, .slice A l.length c] 24)) w1) => (hb.block w.heap.size (by simp)).trans (heap_alloc_new w _))
        cases a1 with
        | true =>
          simp only [if_true] at h2
          by_cases c3 : l.length = 1
          · rw [if_pos c3] at h2
            injection h2 with h2
            have c4 : (l.length : Int) = 1 := by omega
            have z3 : ((l.length : Int) == 1) = true := by rw [beq_iff_eq]; exact c4
            have c5 : (0 : Int) < (l.length : Int) := by omega
            obtain ⟨ad, _, _, hA, _⟩ := rows_cell HR.out 0 (by omega)
            subst hA
            have HCE := Lib.hid (show ∀ W, Below w.heap.size w W → ∃ Ai ci, W.cell? ad = some (.slice Ai (l.getD 0 []).length ci) from fun W hb => by
              obtain ⟨ad', Ai', ci', e1, e2, _, _⟩ := rows_cell (Kd.C_below HR.out hb) 0 (by omega)
              cases e1
              exact ⟨Ai', ci', by rwa [add_zero'] at e2⟩)
            have c6 : decide (0 < ((l.getD 0 []).length : Int)) = r := by rw [← h2]; exact decide_eq_decide.2 (by omega)
            clear h2 c3 c4
            generalize l.getD 0 [] = q at *
            go_enter Try.func10, Try.ntmps10
            go_wp2_with (go_at_call 25; ((with_reducible refine (HCO.out _ (Kd.C_below HR.out HB.out)).mono ?_); rintro e w1 ⟨rfl, hb⟩; replace HB := Lib.hid (below_then' HB.out hb); have h0 := blk_cell (HX.out _ hb) 0; have h1 := blk_cell (HX.out _ hb) 1; have h2 := blk_cell (HX.out _ hb) 2; simp at h0 h1 h2; obtain ⟨Ai, ci, h3⟩ := HCE.out _ HB.out; clear hb))
            go_ret
            exact ⟨by rw [← c6]; simp, HB.out⟩
          · rw [if_neg c3] at h2
            injection h2 with h2
            subst h2
            have c4 : ¬ (l.length : Int) = 1 := by omega
            have z3 : ((l.length : Int) == 1) = false := by rw [beq_eq_false_iff_ne]; exact c4
            go_enter Try.func10, Try.ntmps10
            go_wp2_with (go_at_call 25; (with_reducible refine (HCO.out _ (Kd.C_below HR.out HB.out)).mono ?_); rintro e w1 ⟨rfl, hb⟩; replace HB := Lib.hid (below_then' HB.out hb); have h0 := blk_cell (HX.out _ hb) 0; have h1 := blk_cell (HX.out _ hb) 1; have h2 := blk_cell (HX.out _ hb) 2; simp at h0 h1 h2; clear hb)
            go_ret
            exact ⟨rfl, HB.out⟩
        | false =>
          simp only [Bool.false_eq_true, if_false] at h2
          injection h2 with h2
          have c4 : decide ((l.length : Int) = 256) = r := by rw [← h2]; exact decide_eq_decide.2 (by omega)
          have z3 : ((l.length : Int) == 256) = r := by rw [← c4]; rfl
          clear h2 c4
          go_enter Try.func10, Try.ntmps10
          go_wp2_with (go_at_call 25; (with_reducible refine (HCO.out _ (Kd.C_below HR.out HB.out)).mono ?_); rintro e w1 ⟨rfl, hb⟩; replace HB := Lib.hid (below_then' HB.out hb); have h0 := blk_cell (HX.out _ hb) 0; have h1 := blk_cell (HX.out _ hb) 1; have h2 := blk_cell (HX.out _ hb) 2; simp at h0 h1 h2; clear hb)
          go_ret
          exact ⟨by simp [z3], HB.out⟩
theorem eql_someI (ad : Addr) (n c : Nat) (W : World) : Sem.run Try.prog (binOp BinOp.eql 29 (.slice (some ad) n c) (.slice none 0 0)) W = .ok (.bool false) W := by kernel_rfl
theorem clone_any (A : Option Addr) (c : Nat) (l : List Int) (w : World) (hr : Kd.C (Kd.int .i64) w A l.length l) (hc : l.length ≤ c) (hm : l.length ≤ 17592186044416) :
    Calls Try.prog 28 #[.slice A l.length c] w fun e w' => ∃ v, e = .returned v ∧ Kd.R (Kd.int .i64) 3 w' w.heap.size (fun _ => True) v l ∧ Below w.heap.size w w' := by
  cases A with
  | none =>
    have h0 : l.length = 0 := by
      rcases Nat.eq_zero_or_pos l.length with h | h
      · exact h
      · obtain ⟨ad, e, _⟩ := hr.2.2 h
        cases e
    have : l = [] := List.eq_nil_of_length_eq_zero h0
    subst this
    refine (Try.slices_Clone_int_nil _ _ w).mono ?_
    rintro e w' ⟨rfl, rfl⟩
    exact ⟨_, rfl, Kd.R_nil _ _ _ _ _, Below.refl _ _⟩
  | some ad =>
    have HR := Lib.hid (Kd.reads_of_C (d := (0 : Int)) hr)
    have hq := eql_someI ad l.length c
    clear hr
    go_enter Try.func28, Try.ntmps28
    go_wp2_with (at_builtin; refine print_append_row (w0 := w) w.heap.size rfl (.tmp 5) (.tmp 6) 29 3 .i64 8 rfl Try.underlying29 info_int (by omega) _ [] l _ _ _ rfl rfl (own_lit _ w.heap.size 3 .i64 [] (Nat.le_refl _) (by simp)) ((readsInt_of.2 HR.out).below ((Below.refl _ _).alloc (Nat.le_refl _) _)) ((Below.refl _ _).alloc (Nat.le_refl _) _) (by simp) (by simp; omega) ?_; intro va wa oa ba hx1 hx2; clear hx1 hx2; rw [List.nil_append] at oa)
    go_ret
    exact ⟨_, rfl, Kd.R_of_own oa (fun _ _ => trivial), ba⟩
end Go.Proofs.Ytcffmmdgjifaaaa
namespace Go.Proofs.Ytcffmmdgjifaaaa
open Go.RowKit Go.Proofs.YtcffmmdgjifaaaaW.PrintWords Go.Proofs.YtcffmmdgjifaaaaW.PrintLast Go.Proofs.YtcffmmdgjifaaaaW.PrintMore PPr
attribute [local go_sem] max2_int min2_int max_two min_two max_three min_three max_four min_four
set_option linter.unusedSimpArgs false
set_option linter.unusedVariables false
/-- the lists of the first i counts -/
def madeTo (k : Nat) (F : Nat → List Int) (r : Int) : Nat → Option (List (List Int))
  | 0 => some []
  | i + 1 => (madeTo k F r i).bind fun R => (hist_Many.f k (F i)).bind fun m => if m > 0 then (norm_Counts.f k (F i) r).bind fun q => some (R ++ [q.1]) else some (R ++ [[]])
theorem madeTo_mono (k : Nat) (F : Nat → List Int) (r : Int) : ∀ n, LeO (madeTo k F r n) (madeTo (k + 1) F r n)
  | 0 => LeO.refl _
  | i + 1 => by
    unfold madeTo
    exact LeO.bind (madeTo_mono k F r i) (fun R => LeO.bind (hist_Many.mono _ _) (fun m => LeO.ite (LeO.bind (norm_Counts.mono _ _ _) (fun q => LeO.refl _)) (LeO.refl _)))
theorem madeTo_pre {k : Nat} {F : Nat → List Int} {r : Int} {n : Nat} : ∀ {d i : Nat} {R : List (List Int)}, i + d = n → madeTo k F r n = some R → ∃ R', madeTo k F r i = some R'
  | 0, i, R, h, h1 => ⟨R, by rw [← h] at h1; exact h1⟩
  | d + 1, i, R, h, h1 => by
    obtain ⟨R', h2⟩ := madeTo_pre (d := d) (i := i + 1) (by omega) h1
    rw [madeTo] at h2
    obtain ⟨R0, h3, _⟩ := Option.bind_eq_some_iff.1 h2
    exact ⟨R0, h3⟩
theorem madeTo_len {k : Nat} {F : Nat → List Int} {r : Int} : ∀ {n : Nat} {R : List (List Int)}, madeTo k F r n = some R → R.length = n
  | 0, R, h => by rw [madeTo] at h; injection h with h; rw [← h]; rfl
  | i + 1, R, h => by
    rw [madeTo] at h
    obtain ⟨R0, h3, h4⟩ := Option.bind_eq_some_iff.1 h
    obtain ⟨m, h5, h6⟩ := Option.bind_eq_some_iff.1 h4
    have := madeTo_len h3
    by_cases hm : m > 0
    · rw [if_pos hm] at h6
      obtain ⟨q, h7, h8⟩ := Option.bind_eq_some_iff.1 h6
      injection h8 with h8
      rw [← h8, List.length_append]; simp; omega
    · rw [if_neg hm] at h6
      injection h6 with h6
      rw [← h6, List.length_append]; simp; omega
abbrev dRow := Kd.slice 3 (Kd.int .i64)
/-- the model under way, and what is handed back -/
structure MdI (w W : World) (r : Int) (one : Bool) (v : Value) (R : List (List Int)) : Prop where
  B : Below w.heap.size w W
  Z : w.heap.size + 2 ≤ W.heap.size
  G : W.heap[w.heap.size]? = some (.cells #[.int .i64 0, .bool false, .slice none 0 0] 24 (0, 0))
  M : W.heap[w.heap.size + 1]? = some (.cells #[.int .i64 r, .bool one, v] 24 (0, 0))
  O : Kd.R dRow 29 W w.heap.size (fun b => w.heap.size + 2 ≤ b) v R
theorem MdI.below {w W W' : World} {r : Int} {one : Bool} {v : Value} {R : List (List Int)} (h : MdI w W r one v R) (hb : Below W.heap.size W W') : MdI w W' r one v R :=
  ⟨below_then' h.B hb, by have := hb.size; have := h.Z; omega, (hb.block _ (by have := h.Z; omega)).trans h.G, (hb.block _ (by have := h.Z; omega)).trans h.M, Kd.R_below h.O hb⟩
theorem info_row : (Try.prog.info? 29).map (fun i => (i.zero, i.size, i.bytes)) = some (some (.slice none 0 0), 1, 24) := by kernel_rfl
theorem MdI.put {w W w1 : World} {r : Int} {one : Bool} {v v1 : Value} {R R1 : List (List Int)} (h : MdI w W r one v R) (hR : Kd.R dRow 29 w1 w.heap.size (fun b => w.heap.size + 2 ≤ b) v1 R1) (hb : Below w.heap.size w w1) (hg : W.grownBy w1 v.ownBlock) :
    w1.cell? ⟨w.heap.size + 1, 2, none⟩ = some v ∧ w1.frozen? ⟨w.heap.size + 1, 2, none⟩ = false ∧ MdI w (w1.setCell ⟨w.heap.size + 1, 2, none⟩ v1) r one v1 R1 := by
  have hz := h.Z
  have hne : ∀ b, b < w.heap.size + 2 → some b ≠ v.ownBlock := fun b hb he => by have := h.O.1 b he.symm; omega
  have hM : w1.heap[w.heap.size + 1]? = some (.cells #[.int .i64 r, .bool one, v] 24 (0, 0)) := (hg.block _ (by omega) (hne _ (by omega))).trans h.M
  have hG := (hg.block _ (by omega) (hne w.heap.size (by omega))).trans h.G
  refine ⟨by have := blk_cell hM 2; simpa using this, blk_frozen hM 2, below_set hb (by omega), ?_, ?_, ?_, Kd.R_far hR (fun b hb => by show b ≠ w.heap.size + 1; omega) v1⟩
  · have := hg.size; simpa using (by omega : w.heap.size + 2 ≤ w1.heap.size)
  · exact blk_far hG (by simp) v1
  · have := blk_set hM 2 v1; simpa using this
/-- a list that is new -/
theorem MdI.fresh {w W W' : World} {r : Int} {one : Bool} {v v0 : Value} {R : List (List Int)} {q : List Int} (h : MdI w W r one v R) (hq : Kd.R (Kd.int .i64) 3 W' W.heap.size (fun _ => True) v0 q) :
    dRow.M W' w.heap.size (fun b => W.heap.size ≤ b) q [v0] ∧ ∀ b, W.heap.size ≤ b → w.heap.size + 2 ≤ b ∧ some b ≠ v.ownBlock := by
  have hz := h.Z
  refine ⟨⟨v0, rfl, Kd.R_lower (Kd.R_mono (Kd.R_bound hq) (fun b hb => hb.2.1)) (by omega)⟩, fun b hb => ⟨by omega, fun he => ?_⟩⟩
  have := Kd.R_lt h.O b he.symm
  omega
theorem MdI.none {w W : World} {r : Int} {one : Bool} {v : Value} {R : List (List Int)} (h : MdI w W r one v R) :
    dRow.M W w.heap.size (fun b => W.heap.size ≤ b) [] [.slice none 0 0] ∧ ∀ b, W.heap.size ≤ b → w.heap.size + 2 ≤ b ∧ some b ≠ v.ownBlock := by
  have hz := h.Z
  refine ⟨⟨_, rfl, Kd.R_nil _ _ _ _ _⟩, fun b hb => ⟨by omega, fun he => ?_⟩⟩
  have := Kd.R_lt h.O b he.symm
  omega
set_option maxRecDepth 20000 in
set_option maxHeartbeats 4000000 in
theorem made_Z (p : Addr) (k : Nat) (r : Int) (n : Nat) (one : Bool) (F : Nat → List Int) (rows : List (List Int)) (w : World) (hn : n ≤ 256) (h1 : ((n : Int) == 1) = one) (hFl : ∀ i, i < n → (F i).length = 256)
    (HF : ∀ i W, i < n → Below w.heap.size w W → Calls Try.prog 34 #[.int .i64 (i : Int), .pointer (some p)] W fun e w' => ∃ A c, e = .returned (.slice A 256 c) ∧ 256 ≤ c ∧ Kd.C (Kd.int .i64) w' A 256 (F i) ∧ Below W.heap.size W w')
    (h : madeTo k F r n = some rows) :
    Calls Try.prog 31 #[.int .i64 r, .int .i64 (n : Int), .func (.func 34) #[] #[.pointer (some p)]] w fun e w' => ∃ v, e = .returned (.agg #[.int .i64 r, .bool one, v]) ∧ Kd.R dRow 29 w' w.heap.size (fun b => w.heap.size ≤ b) v rows ∧ Below w.heap.size w w' := by
  have HF := Lib.hid HF
  have HM := Lib.hid h
  have HFL := Lib.hid hFl
  clear h hFl
  go_enter Try.func31, Try.ntmps31
  go_wp2
  go_loopg [16] n (fun m q wr => ∃ (i : Nat) (v : Value) (R : List (List Int)), i ≤ n ∧ m = n - i ∧ q = .int .i64 i ∧ Hid (madeTo k F r i = some R) ∧ Hid (MdI w wr r one v R))
  case atStart =>
    refine ⟨0, .slice none 0 0, [], by omega, by omega, rfl, Lib.hid rfl, Lib.hid ?_⟩
    refine ⟨((Below.refl w.heap.size w).alloc (Nat.le_refl _) _).alloc (by simp) _, by simp, ?_, ?_, Kd.R_nil _ _ _ _ _⟩
    · simpa using blk_alloc (heap_alloc_new w _) _
    · simpa using heap_alloc_new (w.alloc (.cells #[.int .i64 0, .bool false, .slice none 0 0] 24)) (.cells #[.int .i64 r, .bool one, .slice none 0 0] 24)
  case round =>
    obtain ⟨i, v, R, hi, hk, rfl, hE, hI⟩ := hrel
    have HK := Lib.hid hk
    clear hk
    have HRL := Lib.hid (madeTo_len hE.out)
    by_cases hlt : i < n
    · have i1 : (i : Int) < (n : Int) := by omega
      obtain ⟨R', hR'⟩ := madeTo_pre (d := n - (i + 1)) (i := i + 1) (by omega) HM.out
      have hE2 := hR'
      rw [madeTo, hE.out, Option.bind_some] at hE2
      obtain ⟨m, hm, h6⟩ := Option.bind_eq_some_iff.1 hE2
      have hcl := HFL.out i hlt
      have HC := Lib.hid (fun W => HF.out i W hlt)
      have HMY := Lib.hid (fun A c w hr hc => hist_Many.calls k A c (F i) m w hr hc hm)
      rw [hcl] at HMY
      by_cases hm0 : m > 0
      · rw [if_pos hm0] at h6
        obtain ⟨⟨q, e⟩, h7, h8⟩ := Option.bind_eq_some_iff.1 h6
        injection h8 with h8
        subst h8
        have HE' := Lib.hid hR'
        have HNC := Lib.hid (fun A c w hr hc => norm_Counts.calls k A c (F i) r q e w hr hc h7)
        rw [hcl] at HNC
        have z1 : decide (0 < m) = true := decide_eq_true hm0
        clear hE2 hm h6 h7 hR' hE hcl hm0 h1
        go_wp2_with (first
          | (go_at_call 34; (with_reducible refine (HC.out _ hI.out.B).mono ?_); rintro e1 w1 ⟨A1, c1, rfl, hc1, hr1, hb⟩; have RC := Lib.hid hr1; replace hI := Lib.hid (hI.out.below hb); clear hb hr1)
          | (go_at_call 33; (with_reducible refine (HMY.out _ _ _ RC.out hc1).mono ?_); rintro e1 w2 ⟨rfl, ⟨nd, rfl⟩⟩; replace hI := Lib.hid (hI.out.below (pw_below_drewN (Below.refl _ _) nd)); replace RC := Lib.hid (Kd.C_drewN RC.out nd))
          | (go_at_call 51; (with_reducible refine (HNC.out _ _ _ RC.out hc1).mono ?_); rintro e1 w3 ⟨v0, rfl, hr0, hb⟩; obtain ⟨A0, c0, rfl⟩ := Kd.R_slice hr0; have HQ := Lib.hid (hI.out.fresh hr0); replace hI := Lib.hid (hI.out.below hb); have hx := blk_cell hI.out.M 2; simp at hx; clear hb hr0)
          | (at_builtin; refine Kd.R_append dRow (w0 := w) w.heap.size rfl (.tmp 32) (.tmp 34) 22 29 (.slice none 0 0) 24 rfl Try.underlying22 info_row rfl (by decide) (by decide) v R q _ _ _ rfl rfl HQ.out.1 HQ.out.2 (fun b hb => by have := hI.out.Z; omega) hI.out.O hI.out.B hI.out.B.size (by have := HRL.out; omega) ?_; intro v1 w4 hR1 hb1 hg1 _; obtain ⟨Aw, cw, rfl⟩ := Kd.R_slice hR1; obtain ⟨f1, f2, hI2⟩ := hI.out.put hR1 hb1 hg1; rw [show (R ++ [q]).length = R.length + 1 by simp] at hI2; replace hI := Lib.hid hI2; clear hI2 hR1 hb1 hg1))
        go_roundg (n - (i + 1))
        case measure => have := HK.out; omega
        case rel => exact ⟨i + 1, _, _, by omega, rfl, by go_num, HE', hI⟩
      · rw [if_neg hm0] at h6
        injection h6 with h8
        subst h8
        have HE' := Lib.hid hR'
        have z1 : decide (0 < m) = false := decide_eq_false hm0
        clear hE2 hm hR' hE hcl hm0 h1
        go_wp2_with (first
          | (go_at_call 34; (with_reducible refine (HC.out _ hI.out.B).mono ?_); rintro e1 w1 ⟨A1, c1, rfl, hc1, hr1, hb⟩; have RC := Lib.hid hr1; replace hI := Lib.hid (hI.out.below hb); clear hb hr1)
          | (go_at_call 33; (with_reducible refine (HMY.out _ _ _ RC.out hc1).mono ?_); rintro e1 w2 ⟨rfl, ⟨nd, rfl⟩⟩; replace hI := Lib.hid (hI.out.below (pw_below_drewN (Below.refl _ _) nd)); have HQ := Lib.hid hI.out.none; have hx := blk_cell hI.out.M 2; simp at hx)
          | (at_builtin; (refine Kd.R_append dRow (w0 := w) w.heap.size rfl (.tmp 32) (.tmp 34) 22 29 (.slice none 0 0) 24 rfl Try.underlying22 info_row rfl (by decide) (by decide) v R [] [.slice none 0 0] _ _ rfl rfl HQ.out.1 HQ.out.2 (fun b hb => by have := hI.out.Z; omega) hI.out.O hI.out.B hI.out.B.size (by have := HRL.out; omega) ?_; intro v1 w4 hR1 hb1 hg1 _; obtain ⟨Aw, cw, rfl⟩ := Kd.R_slice hR1; obtain ⟨f1, f2, hI2⟩ := hI.out.put hR1 hb1 hg1; rw [show (R ++ [([] : List Int)]).length = R.length + 1 by simp] at hI2; replace hI := Lib.hid hI2; clear hI2 hR1 hb1 hg1)))
        go_roundg (n - (i + 1))
        case measure => have := HK.out; omega
        case rel => exact ⟨i + 1, _, _, by omega, rfl, by go_num, HE', hI⟩
    · have i1 : ¬ (i : Int) < (n : Int) := by omega
      obtain rfl : i = n := by omega
      have hE2 := hE.out
      rw [HM.out] at hE2
      injection hE2 with hE2
      subst hE2
      obtain ⟨Av, cv, rfl⟩ := Kd.R_slice hI.out.O
      have m0 := blk_cell hI.out.M 0
      have m1 := blk_cell hI.out.M 1
      have m2 := blk_cell hI.out.M 2
      have g0 := blk_cell hI.out.G 0
      have g1 := blk_cell hI.out.G 1
      have g2 := blk_cell hI.out.G 2
      simp at m0 m1 m2 g0 g1 g2
      have hGF := fun j => blk_frozen hI.out.G j
      go_wp2
      have hG3 := blk_set (blk_set (blk_set hI.out.G 0 (.int .i64 r)) 1 (.bool one)) 2 (.slice Av rows.length cv)
      have hB3 := below_set (below_set (below_set hI.out.B (Nat.le_refl _) (j := 0) (v := .int .i64 r)) (Nat.le_refl _) (j := 1) (v := .bool one)) (Nat.le_refl _) (j := 2) (v := .slice Av rows.length cv)
      have hO3 := Kd.R_far (p := ⟨w.heap.size, 2, none⟩) (Kd.R_far (p := ⟨w.heap.size, 1, none⟩) (Kd.R_far (p := ⟨w.heap.size, 0, none⟩) hI.out.O (fun b hb => by show b ≠ w.heap.size; omega) (.int .i64 r)) (fun b hb => by show b ≠ w.heap.size; omega) (.bool one)) (fun b hb => by show b ≠ w.heap.size; omega) (.slice Av rows.length cv)
      generalize ((wr.setCell { block := w.heap.size, off := 0 } (Value.int IntKind.i64 r)).setCell { block := w.heap.size, off := 1 } (Value.bool one)).setCell { block := w.heap.size, off := 2 } (Value.slice Av rows.length cv) = W3 at *
      have k0 := blk_cell hG3 0
      have k1 := blk_cell hG3 1
      have k2 := blk_cell hG3 2
      simp at k0 k1 k2
      simp [bodyPost, results, Try.results31, go_sem, k0, k1, k2]
      exact ⟨Kd.R_mono hO3 (fun b hb => by omega), hB3⟩
set_option maxRecDepth 20000 in
set_option maxHeartbeats 4000000 in
theorem made_F (p : Addr) (k : Nat) (r : Int) (n : Nat) (one : Bool) (F : Nat → List Int) (rows : List (List Int)) (w : World) (hn : n ≤ 256) (h1 : ((n : Int) == 1) = one) (hFl : ∀ i, i < n → (F i).length = 256)
    (HF : ∀ i W, i < n → Below w.heap.size w W → Calls Try.prog 36 #[.int .i64 (i : Int), .pointer (some p)] W fun e w' => ∃ A c, e = .returned (.slice A 256 c) ∧ 256 ≤ c ∧ Kd.C (Kd.int .i64) w' A 256 (F i) ∧ Below W.heap.size W w')
    (h : madeTo k F r n = some rows) :
    Calls Try.prog 31 #[.int .i64 r, .int .i64 (n : Int), .func (.func 36) #[] #[.pointer (some p)]] w fun e w' => ∃ v, e = .returned (.agg #[.int .i64 r, .bool one, v]) ∧ Kd.R dRow 29 w' w.heap.size (fun b => w.heap.size ≤ b) v rows ∧ Below w.heap.size w w' := by
  have HF := Lib.hid HF
  have HM := Lib.hid h
  have HFL := Lib.hid hFl
  clear h hFl
  go_enter Try.func31, Try.ntmps31
  go_wp2
  go_loopg [16] n (fun m q wr => ∃ (i : Nat) (v : Value) (R : List (List Int)), i ≤ n ∧ m = n - i ∧ q = .int .i64 i ∧ Hid (madeTo k F r i = some R) ∧ Hid (MdI w wr r one v R))
  case atStart =>
    refine ⟨0, .slice none 0 0, [], by omega, by omega, rfl, Lib.hid rfl, Lib.hid ?_⟩
    refine ⟨((Below.refl w.heap.size w).alloc (Nat.le_refl _) _).alloc (by simp) _, by simp, ?_, ?_, Kd.R_nil _ _ _ _ _⟩
    · simpa using blk_alloc (heap_alloc_new w _) _
    · simpa using heap_alloc_new (w.alloc (.cells #[.int .i64 0, .bool false, .slice none 0 0] 24)) (.cells #[.int .i64 r, .bool one, .slice none 0 0] 24)
  case round =>
    obtain ⟨i, v, R, hi, hk, rfl, hE, hI⟩ := hrel
    have HK := Lib.hid hk
    clear hk
    have HRL := Lib.hid (madeTo_len hE.out)
    by_cases hlt : i < n
    · have i1 : (i : Int) < (n : Int) := by omega
      obtain ⟨R', hR'⟩ := madeTo_pre (d := n - (i + 1)) (i := i + 1) (by omega) HM.out
      have hE2 := hR'
      rw [madeTo, hE.out, Option.bind_some] at hE2
      obtain ⟨m, hm, h6⟩ := Option.bind_eq_some_iff.1 hE2
      have hcl := HFL.out i hlt
      have HC := Lib.hid (fun W => HF.out i W hlt)
      have HMY := Lib.hid (fun A c w hr hc => hist_Many.calls k A c (F i) m w hr hc hm)
      rw [hcl] at HMY
      by_cases hm0 : m > 0
      · rw [if_pos hm0] at h6
        obtain ⟨⟨q, e⟩, h7, h8⟩ := Option.bind_eq_some_iff.1 h6
        injection h8 with h8
        subst h8
        have HE' := Lib.hid hR'
        have HNC := Lib.hid (fun A c w hr hc => norm_Counts.calls k A c (F i) r q e w hr hc h7)
        rw [hcl] at HNC
        have z1 : decide (0 < m) = true := decide_eq_true hm0
        clear hE2 hm h6 h7 hR' hE hcl hm0 h1
        go_wp2_with (first
          | (go_at_call 36; (with_reducible refine (HC.out _ hI.out.B).mono ?_); rintro e1 w1 ⟨A1, c1, rfl, hc1, hr1, hb⟩; have RC := Lib.hid hr1; replace hI := Lib.hid (hI.out.below hb); clear hb hr1)
          | (go_at_call 33; (with_reducible refine (HMY.out _ _ _ RC.out hc1).mono ?_); rintro e1 w2 ⟨rfl, ⟨nd, rfl⟩⟩; replace hI := Lib.hid (hI.out.below (pw_below_drewN (Below.refl _ _) nd)); replace RC := Lib.hid (Kd.C_drewN RC.out nd))
          | (go_at_call 51; (with_reducible refine (HNC.out _ _ _ RC.out hc1).mono ?_); rintro e1 w3 ⟨v0, rfl, hr0, hb⟩; obtain ⟨A0, c0, rfl⟩ := Kd.R_slice hr0; have HQ := Lib.hid (hI.out.fresh hr0); replace hI := Lib.hid (hI.out.below hb); have hx := blk_cell hI.out.M 2; simp at hx; clear hb hr0)
          | (at_builtin; refine Kd.R_append dRow (w0 := w) w.heap.size rfl (.tmp 32) (.tmp 34) 22 29 (.slice none 0 0) 24 rfl Try.underlying22 info_row rfl (by decide) (by decide) v R q _ _ _ rfl rfl HQ.out.1 HQ.out.2 (fun b hb => by have := hI.out.Z; omega) hI.out.O hI.out.B hI.out.B.size (by have := HRL.out; omega) ?_; intro v1 w4 hR1 hb1 hg1 _; obtain ⟨Aw, cw, rfl⟩ := Kd.R_slice hR1; obtain ⟨f1, f2, hI2⟩ := hI.out.put hR1 hb1 hg1; rw [show (R ++ [q]).length = R.length + 1 by simp] at hI2; replace hI := Lib.hid hI2; clear hI2 hR1 hb1 hg1))
        go_roundg (n - (i + 1))
        case measure => have := HK.out; omega
        case rel => exact ⟨i + 1, _, _, by omega, rfl, by go_num, HE', hI⟩
      · rw [if_neg hm0] at h6
        injection h6 with h8
        subst h8
        have HE' := Lib.hid hR'
        have z1 : decide (0 < m) = false := decide_eq_false hm0
        clear hE2 hm hR' hE hcl hm0 h1
        go_wp2_with (first
          | (go_at_call 36; (with_reducible refine (HC.out _ hI.out.B).mono ?_); rintro e1 w1 ⟨A1, c1, rfl, hc1, hr1, hb⟩; have RC := Lib.hid hr1; replace hI := Lib.hid (hI.out.below hb); clear hb hr1)
          | (go_at_call 33; (with_reducible refine (HMY.out _ _ _ RC.out hc1).mono ?_); rintro e1 w2 ⟨rfl, ⟨nd, rfl⟩⟩; replace hI := Lib.hid (hI.out.below (pw_below_drewN (Below.refl _ _) nd)); have HQ := Lib.hid hI.out.none; have hx := blk_cell hI.out.M 2; simp at hx)
          | (at_builtin; (refine Kd.R_append dRow (w0 := w) w.heap.size rfl (.tmp 32) (.tmp 34) 22 29 (.slice none 0 0) 24 rfl Try.underlying22 info_row rfl (by decide) (by decide) v R [] [.slice none 0 0] _ _ rfl rfl HQ.out.1 HQ.out.2 (fun b hb => by have := hI.out.Z; omega) hI.out.O hI.out.B hI.out.B.size (by have := HRL.out; omega) ?_; intro v1 w4 hR1 hb1 hg1 _; obtain ⟨Aw, cw, rfl⟩ := Kd.R_slice hR1; obtain ⟨f1, f2, hI2⟩ := hI.out.put hR1 hb1 hg1; rw [show (R ++ [([] : List Int)]).length = R.length + 1 by simp] at hI2; replace hI := Lib.hid hI2; clear hI2 hR1 hb1 hg1)))
        go_roundg (n - (i + 1))
        case measure => have := HK.out; omega
        case rel => exact ⟨i + 1, _, _, by omega, rfl, by go_num, HE', hI⟩
    · have i1 : ¬ (i : Int) < (n : Int) := by omega
      obtain rfl : i = n := by omega
      have hE2 := hE.out
      rw [HM.out] at hE2
      injection hE2 with hE2
      subst hE2
      obtain ⟨Av, cv, rfl⟩ := Kd.R_slice hI.out.O
      have m0 := blk_cell hI.out.M 0
      have m1 := blk_cell hI.out.M 1
      have m2 := blk_cell hI.out.M 2
      have g0 := blk_cell hI.out.G 0
      have g1 := blk_cell hI.out.G 1
      have g2 := blk_cell hI.out.G 2
      simp at m0 m1 m2 g0 g1 g2
      have hGF := fun j => blk_frozen hI.out.G j
      go_wp2
      have hG3 := blk_set (blk_set (blk_set hI.out.G 0 (.int .i64 r)) 1 (.bool one)) 2 (.slice Av rows.length cv)
      have hB3 := below_set (below_set (below_set hI.out.B (Nat.le_refl _) (j := 0) (v := .int .i64 r)) (Nat.le_refl _) (j := 1) (v := .bool one)) (Nat.le_refl _) (j := 2) (v := .slice Av rows.length cv)
      have hO3 := Kd.R_far (p := ⟨w.heap.size, 2, none⟩) (Kd.R_far (p := ⟨w.heap.size, 1, none⟩) (Kd.R_far (p := ⟨w.heap.size, 0, none⟩) hI.out.O (fun b hb => by show b ≠ w.heap.size; omega) (.int .i64 r)) (fun b hb => by show b ≠ w.heap.size; omega) (.bool one)) (fun b hb => by show b ≠ w.heap.size; omega) (.slice Av rows.length cv)
      generalize ((wr.setCell { block := w.heap.size, off := 0 } (Value.int IntKind.i64 r)).setCell { block := w.heap.size, off := 1 } (Value.bool one)).setCell { block := w.heap.size, off := 2 } (Value.slice Av rows.length cv) = W3 at *
      have k0 := blk_cell hG3 0
      have k1 := blk_cell hG3 1
      have k2 := blk_cell hG3 2
      simp at k0 k1 k2
      simp [bodyPost, results, Try.results31, go_sem, k0, k1, k2]
      exact ⟨Kd.R_mono hO3 (fun b hb => by omega), hB3⟩
set_option maxHeartbeats 400000 in
theorem zero1_any (i : Int) (g : Nat) (A : Option Addr) (n c : Nat) (w : World) (h : w.heap[g]? = some (.cells #[.slice A n c] 29 (0, 0))) :
    Calls Try.prog 34 #[.int .i64 i, .pointer (some ⟨g, 0, none⟩)] w fun e w' => e = .returned (.slice A n c) ∧ w' = w := by
  have h0 := blk_cell h 0
  simp at h0
  go_enter Try.func34, Try.ntmps34
  go_wp2
  go_ret
  exact ⟨rfl, rfl⟩
set_option maxHeartbeats 400000 in
theorem first1_any (i : Int) (g : Nat) (A : Option Addr) (l : List Int) (c : Nat) (w : World) (h : w.heap[g]? = some (.cells #[.slice A l.length c] 25 (0, 0))) (hr : ReadsInt w .u8 A l.length l) (hc : l.length ≤ c) (hm : l.length ≤ 1099511627776) (hok : BytesOk l) :
    Calls Try.prog 36 #[.int .i64 i, .pointer (some ⟨g, 0, none⟩)] w fun e w' => ∃ v, e = .returned v ∧ w'.ownsRow w.heap.size 3 1 v 256 (nums .i64 (cnt (pickTo l i l.length))) ∧ Below w.heap.size w w' := by
  have h0 := blk_cell h 0
  simp at h0
  have HF := Lib.hid (for_any A l c i w hr hc hm hok)
  clear h hr hok
  go_enter Try.func36, Try.ntmps36
  go_wp2_with (go_at_call 22; (with_reducible refine HF.out.mono ?_); rintro e w1 ⟨v, rfl, ho, hb⟩)
  go_ret
  exact ⟨_, rfl, ho, hb⟩
def zeroF (k : Nat) (l : List Int) : Option (Int × Bool × List (List Int) × Int) :=
  if okBytes l = true then (if l.length = 0 then some (0, false, [], 1) else (hist_Many.f k (cnt l)).bind fun m => (logs_Pick.f (l.length : Int) m 11).bind fun p => (madeTo k (fun _ => cnt l) p 1).bind fun R => some (p, true, R, 0)) else none
theorem zeroF_mono (l : List Int) (k : Nat) : LeO (zeroF k l) (zeroF (k + 1) l) := by
  unfold zeroF
  exact LeO.ite (LeO.ite (LeO.refl _) (LeO.bind (hist_Many.mono _ _) (fun m => LeO.bind (LeO.refl _) (fun p => LeO.bind (madeTo_mono _ _ _ _) (fun R => LeO.refl _))))) (LeO.refl _)
/-- what stands while a model is made: the result's place, and a captured variable -/
structure MkI (w W : World) (g : Nat) (x : Value) (t : TypeId) : Prop where
  B : Below w.heap.size w W
  Z : w.heap.size < W.heap.size
  G : W.heap[w.heap.size]? = some (.cells #[.int .i64 0, .bool false, .slice none 0 0] 24 (0, 0))
  V : W.heap[g]? = some (.cells #[x] t (0, 0))
theorem MkI.below {w W W' : World} {g : Nat} {x : Value} {t : TypeId} (h : MkI w W g x t) (hb : Below W.heap.size W W') : MkI w W' g x t :=
  ⟨below_then' h.B hb, by have := hb.size; have := h.Z; omega, (hb.block _ h.Z).trans h.G, (hb.block _ (blk_lt h.V)).trans h.V⟩
theorem MkI.fill {w W : World} {g : Nat} {x v : Value} {t : TypeId} {base : Nat} {R : List (List Int)} (h : MkI w W g x t) (hR : Kd.R dRow 29 W base (fun b => base ≤ b) v R) (hb : w.heap.size < base) (p : Int) (one : Bool) : ∀ W3, (((W.setCell ⟨w.heap.size, 0, none⟩ (.int .i64 p)).setCell ⟨w.heap.size, 1, none⟩ (.bool one)).setCell ⟨w.heap.size, 2, none⟩ v) = W3 →
    W3.cell? ⟨w.heap.size, 0, none⟩ = some (.int .i64 p) ∧ W3.cell? ⟨w.heap.size, 1, none⟩ = some (.bool one) ∧ W3.cell? ⟨w.heap.size, 2, none⟩ = some v ∧ Kd.R dRow 29 W3 w.heap.size (fun b => w.heap.size ≤ b) v R ∧ Below w.heap.size w W3 := by
  rintro W3 rfl
  have hG3 := blk_set (blk_set (blk_set h.G 0 (.int .i64 p)) 1 (.bool one)) 2 v
  have hB3 := below_set (below_set (below_set h.B (Nat.le_refl _) (j := 0) (v := .int .i64 p)) (Nat.le_refl _) (j := 1) (v := .bool one)) (Nat.le_refl _) (j := 2) (v := v)
  have hO3 := Kd.R_far (p := ⟨w.heap.size, 2, none⟩) (Kd.R_far (p := ⟨w.heap.size, 1, none⟩) (Kd.R_far (p := ⟨w.heap.size, 0, none⟩) hR (fun b hb => by show b ≠ w.heap.size; omega) (.int .i64 p)) (fun b hb => by show b ≠ w.heap.size; omega) (.bool one)) (fun b hb => by show b ≠ w.heap.size; omega) v
  have k0 := blk_cell hG3 0
  have k1 := blk_cell hG3 1
  have k2 := blk_cell hG3 2
  simp at k0 k1 k2
  exact ⟨k0, k1, k2, Kd.R_mono (Kd.R_lower hO3 (by omega)) (fun b hb => by omega), hB3⟩
set_option maxRecDepth 20000 in
set_option maxHeartbeats 2000000 in
theorem zero_any (k : Nat) (A : Option Addr) (c : Nat) (l : List Int) (r1 : Int) (r2 : Bool) (r3 : List (List Int)) (r4 : Int) (w : World) (hr : Kd.C (Kd.int .u8) w A l.length l) (hc : l.length ≤ c) (h : zeroF k l = some (r1, r2, r3, r4)) :
    Calls Try.prog 17 #[.slice A l.length c] w fun e w' => ∃ v, e = .returned (.tuple #[.agg #[.int .i64 r1, .bool r2, v], .int .i64 r4]) ∧ Kd.R dRow 29 w' w.heap.size (fun b => w.heap.size ≤ b) v r3 ∧ Below w.heap.size w w' := by
  unfold zeroF at h
  by_cases hok : okBytes l = true
  · rw [if_pos hok] at h
    obtain ⟨hm, hb⟩ := (okBytes_iff l).1 hok
    by_cases h0 : l.length = 0
    · rw [if_pos h0] at h
      injection h with h
      simp only [Prod.mk.injEq] at h
      obtain ⟨rfl, rfl, rfl, rfl⟩ := h
      go_enter Try.func17, Try.ntmps17
      go_wp2
      have hG := heap_alloc_new w (.cells #[.int .i64 0, .bool false, .slice none 0 0] 24)
      have k0 := blk_cell hG 0
      have k1 := blk_cell hG 1
      have k2 := blk_cell hG 2
      simp at k0 k1 k2
      simp [bodyPost, results, Try.results17, go_sem, k0, k1, k2]
      exact ⟨Kd.R_nil _ _ _ _ _, (Below.refl _ _).alloc (Nat.le_refl _) _⟩
    · rw [if_neg h0] at h
      obtain ⟨m, hm1, h⟩ := Option.bind_eq_some_iff.1 h
      obtain ⟨p, hp, h⟩ := Option.bind_eq_some_iff.1 h
      obtain ⟨R, hR, h⟩ := Option.bind_eq_some_iff.1 h
      injection h with h
      simp only [Prod.mk.injEq] at h
      obtain ⟨rfl, rfl, rfl, rfl⟩ := h
      have z0 : ((l.length : Int) == 0) = false := by rw [beq_eq_false_iff_ne]; omega
      have hmf : ∀ (fn : Fn) (first cap : Array Value) (w : World), (Instr.makeFunc fn first cap).run Try.prog w = .ok (.func fn first cap) w := fun _ _ _ _ => rfl
      have HRD := Lib.hid (readsInt_of.2 (Kd.reads_of_C (d := (0 : Int)) hr))
      have HOF := Lib.hid (fun w hr => of_any A l c w hr hb)
      have HMY := Lib.hid (fun A c w hr hc => hist_Many.calls k A c (cnt l) m w hr hc hm1)
      rw [cnt_len] at HMY
      have HPK := Lib.hid (fun w => logs_Pick.calls (l.length : Int) m 11 p w hp)
      have HMD := Lib.hid (fun q w HF => made_Z q k p 1 true (fun _ => cnt l) R w (by omega) rfl (fun _ _ => cnt_len l) HF hR)
      rw [show ((1 : Nat) : Int) = 1 from rfl] at HMD
      have HB0 := Lib.hid ((Below.refl w.heap.size w).alloc (Nat.le_refl _) (.cells #[.int .i64 0, .bool false, .slice none 0 0] 24))
      have hG0 := Lib.hid (heap_alloc_new w (.cells #[.int .i64 0, .bool false, .slice none 0 0] 24))
      clear hr hb hm1 hp hR h0
      go_enter Try.func17, Try.ntmps17
      go_wp2_with (first
        | (go_at_call 23; go_loud ((with_reducible refine (HOF.out _ (HRD.out.below HB0.out)).mono ?_); rintro e w1 ⟨v, rfl, ho, hb⟩; obtain ⟨A1, c1, rfl, hc1, hr1⟩ := own_reads' ho; have RC := Lib.hid (show Kd.C (Kd.int .i64) w1 A1 256 (cnt l) from Kd.C_of_reads (readsInt_of.1 hr1)); have hI := Lib.hid (show MkI w (w1.alloc (.cells #[.slice A1 256 c1] 29)) w1.heap.size (.slice A1 256 c1) 29 from ⟨(below_then' HB0.out hb).alloc (by have := hb.size; simp at this; omega) _, by have := hb.size; simp at this ⊢; omega, by have := hb.block w.heap.size (by simp); exact blk_alloc (this.trans hG0.out) _, heap_alloc_new w1 _⟩); replace RC := Lib.hid (Kd.C_alloc RC.out (.cells #[.slice A1 256 c1] 29)); have hx := blk_cell hI.out.V 0; simp at hx; clear hr1 ho hb))
        | (go_at_call 33; (with_reducible refine (HMY.out _ _ _ RC.out hc1).mono ?_); rintro e1 w2 ⟨rfl, ⟨nd, rfl⟩⟩; replace hI := Lib.hid (hI.out.below (pw_below_drewN (Below.refl _ _) nd)); replace RC := Lib.hid (Kd.C_drewN RC.out nd))
        | (go_at_call 32; (with_reducible refine (HPK.out _).mono ?_); rintro e1 w3 ⟨rfl, hb⟩; replace hI := Lib.hid (hI.out.below hb); replace RC := Lib.hid (Kd.C_below RC.out hb); clear hb)
        | (go_at_call 31; ((with_reducible refine (HMD.out _ _ (fun i W _ hbW => (zero1_any i _ A1 256 c1 W (hI.out.below hbW).V).mono ?_)).mono ?_); (rintro e2 w5 ⟨rfl, rfl⟩; exact ⟨A1, c1, rfl, hc1, Kd.C_below RC.out hbW, Below.refl _ _⟩); rintro e1 w4 ⟨v, rfl, hR1, hb⟩; obtain ⟨A2, c2, rfl⟩ := Kd.R_slice hR1; have HR1 := Lib.hid hR1; have hZ := hI.out.Z; replace hI := Lib.hid (hI.out.below hb); have k0 := blk_cell hI.out.G 0; have k1 := blk_cell hI.out.G 1; have k2 := blk_cell hI.out.G 2; have kf := fun j => blk_frozen hI.out.G j; simp at k0 k1 k2; clear hR1 hb)))
      have hf := hI.out.fill HR1.out hZ p true
      generalize ((w4.setCell { block := w.heap.size, off := 0 } (Value.int IntKind.i64 p)).setCell { block := w.heap.size, off := 1 } (Value.bool true)).setCell { block := w.heap.size, off := 2 } (Value.slice A2 R.length c2) = W3 at *
      obtain ⟨j0, j1, j2, hO, hB⟩ := hf W3 rfl
      simp [bodyPost, results, Try.results17, go_sem, j0, j1, j2]
      exact ⟨hO, hB⟩
  · rw [if_neg hok] at h; cases h
theorem MkI.fillV {w W : World} {g : Nat} {x v : Value} {t : TypeId} (h : MkI w W g x t) (hg : g ≠ w.heap.size) (p : Int) (one : Bool) :
    (((W.setCell ⟨w.heap.size, 0, none⟩ (.int .i64 p)).setCell ⟨w.heap.size, 1, none⟩ (.bool one)).setCell ⟨w.heap.size, 2, none⟩ v).cell? ⟨g, 0, none⟩ = some x := by
  have h3 := blk_far (blk_far (blk_far h.V (p := ⟨w.heap.size, 0, none⟩) hg (.int .i64 p)) (p := ⟨w.heap.size, 1, none⟩) hg (.bool one)) (p := ⟨w.heap.size, 2, none⟩) hg v
  have := blk_cell h3 0
  simpa using this
def firstF (k : Nat) (l : List Int) : Option (Int × Bool × List (List Int) × Int) :=
  if okBytes l = true then (if l.length = 0 then some (0, false, [], 1) else (ctx_Widest.f k l).bind fun m => (logs_Pick.f (l.length : Int) m 9).bind fun p => (madeTo k (fun i => cnt (pickTo l (i : Int) l.length)) p 256).bind fun R => some (p, false, R, 0)) else none
theorem firstF_mono (l : List Int) (k : Nat) : LeO (firstF k l) (firstF (k + 1) l) := by
  unfold firstF
  exact LeO.ite (LeO.ite (LeO.refl _) (LeO.bind (ctx_Widest.mono _ _) (fun m => LeO.bind (LeO.refl _) (fun p => LeO.bind (madeTo_mono _ _ _ _) (fun R => LeO.refl _))))) (LeO.refl _)
set_option maxRecDepth 20000 in
set_option maxHeartbeats 2000000 in
theorem first_any (k : Nat) (A : Option Addr) (c : Nat) (l : List Int) (r1 : Int) (r2 : Bool) (r3 : List (List Int)) (r4 : Int) (w : World) (hr : Kd.C (Kd.int .u8) w A l.length l) (hc : l.length ≤ c) (h : firstF k l = some (r1, r2, r3, r4)) :
    Calls Try.prog 18 #[.slice A l.length c] w fun e w' => ∃ v, e = .returned (.tuple #[.agg #[.int .i64 r1, .bool r2, v], .int .i64 r4]) ∧ Kd.R dRow 29 w' w.heap.size (fun b => w.heap.size ≤ b) v r3 ∧ Below w.heap.size w w' := by
  unfold firstF at h
  by_cases hok : okBytes l = true
  · rw [if_pos hok] at h
    obtain ⟨hm, hb⟩ := (okBytes_iff l).1 hok
    obtain ⟨w0, hw0⟩ : ∃ w0, w.alloc (.cells #[.slice A l.length c] 25) = w0 := ⟨_, rfl⟩
    have e0 : w0.heap.size = w.heap.size + 1 := by rw [← hw0]; simp
    have hB1 : Below w.heap.size w w0 := by rw [← hw0]; exact (Below.refl _ _).alloc (Nat.le_refl _) _
    have hV : w0.heap[w.heap.size]? = some (.cells #[.slice A l.length c] 25 (0, 0)) := by rw [← hw0]; exact heap_alloc_new w _
    have hI0 : MkI w0 (w0.alloc (.cells #[.int .i64 0, .bool false, .slice none 0 0] 24)) w.heap.size (.slice A l.length c) 25 :=
      ⟨(Below.refl _ _).alloc (Nat.le_refl _) _, by simp, heap_alloc_new w0 _, blk_alloc hV _⟩
    have HR := Lib.hid (Kd.C_below hr hB1)
    by_cases h0 : l.length = 0
    · rw [if_pos h0] at h
      injection h with h
      simp only [Prod.mk.injEq] at h
      obtain ⟨rfl, rfl, rfl, rfl⟩ := h
      have : l = [] := List.eq_nil_of_length_eq_zero h0
      subst this
      have x0 := blk_cell hI0.V 0
      simp at x0
      simp only [List.length_nil] at hw0
      have hI := Lib.hid hI0
      clear hI0 hr hV h0
      go_enter Try.func18, Try.ntmps18
      go_wp2
      have k0 := blk_cell hI.out.G 0
      have k1 := blk_cell hI.out.G 1
      have k2 := blk_cell hI.out.G 2
      simp [e0] at k0 k1 k2
      simp [bodyPost, results, Try.results18, go_sem, k0, k1, k2, hw0]
      exact ⟨Kd.R_nil _ _ _ _ _, below_then' hB1 hI.out.B⟩
    · rw [if_neg h0] at h
      obtain ⟨m, hm1, h⟩ := Option.bind_eq_some_iff.1 h
      obtain ⟨p, hp, h⟩ := Option.bind_eq_some_iff.1 h
      obtain ⟨R, hR, h⟩ := Option.bind_eq_some_iff.1 h
      injection h with h
      simp only [Prod.mk.injEq] at h
      obtain ⟨rfl, rfl, rfl, rfl⟩ := h
      have z0 : ((l.length : Int) == 0) = false := by rw [beq_eq_false_iff_ne]; omega
      have hmf : ∀ (fn : Fn) (first cap : Array Value) (w : World), (Instr.makeFunc fn first cap).run Try.prog w = .ok (.func fn first cap) w := fun _ _ _ _ => rfl
      have HRD := Lib.hid (readsInt_of.2 (Kd.reads_of_C (d := (0 : Int)) hr))
      have HB1 := Lib.hid hB1
      have E0 := Lib.hid e0
      have HOK := Lib.hid hb
      have HWI := Lib.hid (fun w hr => ctx_Widest.calls k A c l m w hr hc hm1)
      have HPK := Lib.hid (fun w => logs_Pick.calls (l.length : Int) m 9 p w hp)
      have HMD := Lib.hid (fun q w HF => made_F q k p 256 false (fun i => cnt (pickTo l (i : Int) l.length)) R w (by omega) rfl (fun _ _ => cnt_len _) HF hR)
      rw [show ((256 : Nat) : Int) = 256 from rfl] at HMD
      have hI := Lib.hid (hI0.below (Below.refl _ _).drew)
      have HH := Lib.hid (show ∀ W, MkI w0 W w.heap.size (.slice A l.length c) 25 → W.cell? ⟨w.heap.size, 0, none⟩ = some (.slice A l.length c) ∧ W.cell? ⟨w0.heap.size, 0, none⟩ = some (.int .i64 0) ∧ W.cell? ⟨w0.heap.size, 1, none⟩ = some (.bool false) ∧ W.cell? ⟨w0.heap.size, 2, none⟩ = some (.slice none 0 0) ∧ ∀ j, W.frozen? ⟨w0.heap.size, j, none⟩ = false from fun W h => by
        have x := blk_cell h.V 0
        have hG := h.G
        have k0 := blk_cell hG 0
        have k1 := blk_cell hG 1
        have k2 := blk_cell hG 2
        simp at x k0 k1 k2
        exact ⟨x, k0, k1, k2, fun j => blk_frozen hG j⟩)
      have x0 := blk_cell hI0.V 0
      simp at x0
      clear hr hb hm1 hp hR h0 hI0 hV hB1 e0
      go_enter Try.func18, Try.ntmps18
      go_wp2
      go_region_held3 (fun W => W.cell? ⟨w.heap.size, 0, none⟩ = some (.slice A l.length c)) (first | exact (HH.out _ hI.out).1 | exact hI.out.fillV (by have := E0.out; omega) p false) (first
        | (go_at_call 35; (with_reducible refine (HWI.out _ (Kd.C_below HR.out hI.out.B)).mono ?_); rintro e1 w2 ⟨rfl, hb⟩; replace hI := Lib.hid (hI.out.below hb); clear hb)
        | (go_at_call 32; (with_reducible refine (HPK.out _).mono ?_); rintro e1 w3 ⟨rfl, hb⟩; replace hI := Lib.hid (hI.out.below hb); clear hb)
        | (go_at_call 31; ((with_reducible refine (HMD.out _ _ (fun i W _ hbW => (first1_any (i : Int) _ A l c W (hI.out.below hbW).V (HRD.out.below (below_then' HB1.out (hI.out.below hbW).B)) hc hm HOK.out).mono ?_)).mono ?_); (rintro e2 w5 ⟨v, rfl, ho, hb⟩; obtain ⟨A1, c1, rfl, hc1, hr1⟩ := own_reads' ho; exact ⟨A1, c1, rfl, hc1, Kd.C_of_reads (readsInt_of.1 hr1), hb⟩); rintro e1 w4 ⟨v, rfl, hR1, hb⟩; obtain ⟨A2, c2, rfl⟩ := Kd.R_slice hR1; have HR1 := Lib.hid hR1; have hZ := hI.out.Z; replace hI := Lib.hid (hI.out.below hb); obtain ⟨_, k0, k1, k2, kf⟩ := HH.out _ hI.out; clear hR1 hb)))
      all_goals go_wp2
      all_goals have hf := hI.out.fill HR1.out hZ p false
      all_goals generalize ((w4.setCell { block := w0.heap.size, off := 0 } (Value.int IntKind.i64 p)).setCell { block := w0.heap.size, off := 1 } (Value.bool false)).setCell { block := w0.heap.size, off := 2 } (Value.slice A2 R.length c2) = W3 at *
      all_goals obtain ⟨j0, j1, j2, hO, hB⟩ := hf W3 rfl
      all_goals simp [bodyPost, results, Try.results18, go_sem, j0, j1, j2]
      all_goals exact ⟨Kd.R_mono (Kd.R_lower hO (by have := E0.out; omega)) (fun b hb => by have := E0.out; omega), below_then' HB1.out hB⟩
  · rw [if_neg hok] at h; cases h
end Go.Proofs.Ytcffmmdgjifaaaa
