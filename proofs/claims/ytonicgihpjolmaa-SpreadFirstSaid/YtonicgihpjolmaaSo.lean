/- Keys in order, plainly: what spread.order computes. spread.order, plainly: it ends, and tells all keys, the least one first. -/
import Derived.Test.YtonicgihpjolmaaOr
import Derived.Test.YtonicgihpjolmaaHq
import Derived.Test.YtonicgihpjolmaaEv
namespace Go.Proofs.Ytonicgihpjolmaa
open Go.RowKit Go.Proofs.YtonicgihpjolmaaW.PrintWords PPr HK
set_option linter.unusedSimpArgs false
set_option linter.unusedVariables false
/-- a right key -/
structure RK (x : S) : Prop where
  q0 : 1 ≤ x.f1
  q1 : x.f1 ≤ 4096
  i0 : x.f1 ≤ x.f0
  i1 : x.f0 < 2 * x.f1
  s0 : 0 ≤ x.f2
  s1 : x.f2 < 256
theorem rightK_iff (x : S) : rightK x.f0 x.f1 x.f2 = true ↔ RK x := by
  unfold rightK
  rw [decide_eq_true_iff]
  constructor
  · rintro ⟨h1, h2, h3, h4, h5, h6⟩
    rw [w64' (x := 2 * x.f1) rfl (by omega) (by omega)] at h4
    exact ⟨h1, h2, h3, h4, h5, h6⟩
  · rintro ⟨h1, h2, h3, h4, h5, h6⟩
    rw [w64' (x := 2 * x.f1) rfl (by omega) (by omega)]
    exact ⟨h1, h2, h3, h4, h5, h6⟩
instance (x : S) : Decidable (RK x) := decidable_of_iff _ (rightK_iff x)
/-- less -/
def LtK (x y : S) : Prop := x.f0 * y.f1 < y.f0 * x.f1 ∨ (x.f0 * y.f1 = y.f0 * x.f1 ∧ x.f2 < y.f2)
instance (x y : S) : Decidable (LtK x y) := by unfold LtK; exact inferInstance
theorem prod_bd {a b : Int} (a0 : 0 ≤ a) (a1 : a ≤ 8192) (b0 : 0 ≤ b) (b1 : b ≤ 4096) : 0 ≤ a * b ∧ a * b ≤ 33554432 := by
  have h1 := Int.mul_nonneg a0 b0
  have h2 : a * b ≤ 8192 * b := Int.mul_le_mul_of_nonneg_right a1 b0
  omega
theorem ltK_iff {x y : S} (hx : RK x) (hy : RK y) : ltK x y = decide (LtK x y) := by
  have h1 := hx.q0; have h2 := hx.q1; have h3 := hx.i0; have h4 := hx.i1
  have h5 := hy.q0; have h6 := hy.q1; have h7 := hy.i0; have h8 := hy.i1
  have b1 := prod_bd (a := x.f0) (b := y.f1) (by omega) (by omega) (by omega) (by omega)
  have b2 := prod_bd (a := y.f0) (b := x.f1) (by omega) (by omega) (by omega) (by omega)
  unfold ltK cmpZ
  rw [if_pos ((rightK_iff x).2 hx), if_pos ((rightK_iff y).2 hy), w64' (x := x.f0 * y.f1) rfl (by omega) (by omega), w64' (x := y.f0 * x.f1) rfl (by omega) (by omega)]
  rw [Bool.eq_iff_iff, decide_eq_true_iff, decide_eq_true_iff]
  unfold LtK sgnK
  generalize x.f0 * y.f1 = A
  generalize y.f0 * x.f1 = B
  by_cases hA : A < B
  · rw [if_pos hA]; simp [hA]
  · rw [if_neg hA]
    by_cases hB : A > B
    · rw [if_pos hB]; simp; omega
    · rw [if_neg hB, if_pos rfl]
      by_cases hs : x.f2 < y.f2
      · rw [if_pos hs]; simp; omega
      · rw [if_neg hs]
        split <;> simp <;> omega
theorem frac_trans {a0 a1 b0 b1 c0 c1 : Int} (ha : 0 < a1) (hb : 0 < b1) (hc : 0 < c1) (h1 : a0 * b1 ≤ b0 * a1) (h2 : b0 * c1 ≤ c0 * b1) : a0 * c1 ≤ c0 * a1 := by
  have e1 : a0 * b1 * c1 ≤ b0 * a1 * c1 := Int.mul_le_mul_of_nonneg_right h1 (by omega)
  have e2 : b0 * c1 * a1 ≤ c0 * b1 * a1 := Int.mul_le_mul_of_nonneg_right h2 (by omega)
  have e3 : (a0 * c1) * b1 ≤ (c0 * a1) * b1 := by
    have x1 : a0 * c1 * b1 = a0 * b1 * c1 := by rw [Int.mul_assoc, Int.mul_comm c1, ← Int.mul_assoc]
    have x2 : b0 * a1 * c1 = b0 * c1 * a1 := by rw [Int.mul_assoc, Int.mul_comm a1, ← Int.mul_assoc]
    have x3 : c0 * b1 * a1 = c0 * a1 * b1 := by rw [Int.mul_assoc, Int.mul_comm b1, ← Int.mul_assoc]
    omega
  exact Int.le_of_mul_le_mul_right e3 hb
/-- not less is an order -/
theorem notLt_trans {x y z : S} (hx : RK x) (hy : RK y) (hz : RK z) (h1 : ¬ LtK y x) (h2 : ¬ LtK z y) : ¬ LtK z x := by
  have a1 := hx.q0; have a2 := hy.q0; have a3 := hz.q0
  unfold LtK at *
  have f1 : x.f0 * y.f1 ≤ y.f0 * x.f1 := by omega
  have f2 : y.f0 * z.f1 ≤ z.f0 * y.f1 := by omega
  have f3 := frac_trans (by omega) (by omega) (by omega) f1 f2
  rintro (h | ⟨h, h'⟩)
  · omega
  · have f4 : z.f0 * x.f1 ≤ x.f0 * z.f1 := by omega
    have f5 := frac_trans (by omega) (by omega) (by omega) f2 f4
    have f6 := frac_trans (by omega) (by omega) (by omega) f4 f1
    omega
theorem lt_irrefl (x : S) : ¬ LtK x x := by unfold LtK; omega
theorem lt_asymm {x y : S} (h : LtK x y) : ¬ LtK y x := by unfold LtK at *; omega
/-- two right keys of which neither is less have one worth, and one symbol -/
theorem lt_total {x y : S} (h1 : ¬ LtK x y) (h2 : ¬ LtK y x) : x.f0 * y.f1 = y.f0 * x.f1 ∧ x.f2 = y.f2 := by unfold LtK at *; omega
/-- the order over all keys: what is no right key comes last -/
def ltT (x y : S) : Bool := decide ((RK x ∧ RK y ∧ LtK x y) ∨ (RK x ∧ ¬ RK y))
theorem ltT_ord : Hp.Ord ltT := by
  refine ⟨?_, ?_, ?_⟩
  · intro x y z h1 h2
    unfold ltT at *
    rw [decide_eq_false_iff_not] at *
    rintro (⟨hz, hx, h⟩ | ⟨hz, hx⟩)
    · by_cases hy : RK y
      · exact notLt_trans hx hy hz (fun h' => h1 (.inl ⟨hy, hx, h'⟩)) (fun h' => h2 (.inl ⟨hz, hy, h'⟩)) h
      · exact h2 (.inr ⟨hz, hy⟩)
    · by_cases hy : RK y
      · exact h1 (.inr ⟨hy, hx⟩)
      · exact h2 (.inr ⟨hz, hy⟩)
  · intro x y h
    unfold ltT at *
    rw [decide_eq_true_iff] at h
    rw [decide_eq_false_iff_not]
    rcases h with ⟨hx, hy, h⟩ | ⟨hx, hy⟩
    · rintro (⟨_, _, h'⟩ | ⟨_, h'⟩)
      · exact lt_asymm h h'
      · exact h' hx
    · rintro (⟨h', _⟩ | ⟨h', _⟩) <;> exact hy h'
  · intro x
    unfold ltT
    rw [decide_eq_false_iff_not]
    rintro (⟨_, _, h⟩ | ⟨h, h'⟩)
    · exact lt_irrefl x h
    · exact h' h
theorem ltT_right {x y : S} (hx : RK x) (hy : RK y) : ltT x y = decide (LtK x y) := by
  unfold ltT
  rw [Bool.eq_iff_iff, decide_eq_true_iff, decide_eq_true_iff]
  constructor
  · rintro (⟨_, _, h⟩ | ⟨_, h⟩)
    · exact h
    · exact absurd hy h
  · intro h; exact .inl ⟨hx, hy, h⟩
theorem agree_right {l : List S} (h : ∀ x, x ∈ l → RK x) : Hp.Agree ltK ltT l := fun x hx y hy => by rw [ltK_iff (h x hx) (h y hy), ltT_right (h x hx) (h y hy)]
/-- the order is strict and total on right keys of unlike symbols, or of one count -/
theorem lt_or {x y : S} (hx : RK x) (hy : RK y) (hq : x.f2 = y.f2 → x.f1 = y.f1) (hne : x ≠ y) : LtK x y ∨ LtK y x := by
  by_cases h1 : LtK x y
  · exact .inl h1
  · by_cases h2 : LtK y x
    · exact .inr h2
    · exfalso
      obtain ⟨e1, e2⟩ := lt_total h1 h2
      have e3 := hq e2
      apply hne
      have h0 := hy.q0
      rw [e3] at e1
      have e4 : x.f0 = y.f0 := Int.eq_of_mul_eq_mul_right (by omega) e1
      cases x; cases y
      simp only at e2 e3 e4
      rw [e2, e3, e4]
theorem lt_trans' {x y z : S} (hx : RK x) (hy : RK y) (hz : RK z) (h1 : LtK x y) (h2 : ¬ LtK z y) : LtK x z := by
  refine Decidable.byContradiction fun h => ?_
  exact notLt_trans hy hz hx h2 h h1
/-! the counts -/
structure Nq (q : List Int) : Prop where
  len : q.length = 256
  nn : ∀ s, 0 ≤ q.getD s 0
  bd : ∀ s, q.getD s 0 ≤ 4096
  sm : q.sum ≤ 4096
def key (q : List Int) (s : Nat) (i : Int) : S := ⟨i, q.getD s 0, (s : Int)⟩
theorem key_right {q : List Int} (h : Nq q) (s : Nat) (i : Int) (hs : s < 256) (h0 : q.getD s 0 ≤ i) (h1 : i < 2 * q.getD s 0) : RK (key q s i) :=
  ⟨by have := h.nn s; show 1 ≤ q.getD s 0; omega, h.bd s, h0, h1, by show (0 : Int) ≤ (s : Int); omega, by show (s : Int) < 256; omega⟩
/-- a key of these counts -/
def IsKey (q : List Int) (x : S) : Prop := ∃ (s : Nat) (i : Int), s < 256 ∧ q.getD s 0 ≤ i ∧ i < 2 * q.getD s 0 ∧ x = key q s i
theorem IsKey.right {q : List Int} (h : Nq q) {x : S} (hx : IsKey q x) : RK x := by
  obtain ⟨s, i, h1, h2, h3, rfl⟩ := hx; exact key_right h s i h1 h2 h3
theorem IsKey.or {q : List Int} (h : Nq q) {x y : S} (hx : IsKey q x) (hy : IsKey q y) (hne : x ≠ y) : LtK x y ∨ LtK y x := by
  refine lt_or (hx.right h) (hy.right h) (fun e => ?_) hne
  obtain ⟨s, i, h1, h2, h3, rfl⟩ := hx
  obtain ⟨s', i', h1', h2', h3', rfl⟩ := hy
  have e : (s : Int) = (s' : Int) := e
  have e : s = s' := by omega
  subst e; rfl
end Go.Proofs.Ytonicgihpjolmaa
namespace Go.Proofs.Ytonicgihpjolmaa
open Go.RowKit Go.Proofs.YtonicgihpjolmaaW.PrintWords PPr HK
set_option linter.unusedSimpArgs false
set_option linter.unusedVariables false
theorem IsKey.same {q : List Int} {x y : S} (hx : IsKey q x) (hy : IsKey q y) (h : x.f2 = y.f2) : x.f1 = y.f1 := by
  obtain ⟨s, i, h1, h2, h3, rfl⟩ := hx
  obtain ⟨s', i', h1', h2', h3', rfl⟩ := hy
  have e : (s : Int) = (s' : Int) := h
  have e : s = s' := by omega
  subst e; rfl
theorem IsKey.eq {q : List Int} {x y : S} (hx : IsKey q x) (hy : IsKey q y) (h : x.f2 = y.f2) (h0 : x.f0 = y.f0) : x = y := by
  have h1 := hx.same hy h
  cases x; cases y
  simp only at h h0 h1
  rw [h, h0, h1]
theorem lt_same {q : List Int} (hN : Nq q) {x y : S} (hx : IsKey q x) (hy : IsKey q y) (h : x.f2 = y.f2) : LtK x y ↔ x.f0 < y.f0 := by
  have h1 := hx.same hy h
  have h2 := (hx.right hN).q0
  unfold LtK
  rw [← h1]
  constructor
  · rintro (h3 | ⟨h3, h4⟩)
    · exact Int.lt_of_mul_lt_mul_right h3 (by omega)
    · omega
  · intro h3
    exact .inl (Int.mul_lt_mul_of_pos_right h3 (by omega))
theorem lt_tr {x y w : S} (hx : RK x) (hy : RK y) (hw : RK w) (h1 : LtK x y) (h2 : LtK y w) : LtK x w := lt_trans' hx hy hw h1 (lt_asymm h2)
/-! the first keys -/
theorem keysTo_inv (q : List Int) (hN : Nq q) : ∀ i, i ≤ 256 → Hp.Heap z ltT (keysTo q i) ∧ (keysTo q i).Nodup ∧ ∀ y, y ∈ keysTo q i ↔ ∃ s, s < i ∧ 0 < q.getD s 0 ∧ y = key q s (q.getD s 0)
  | 0, _ => ⟨by rw [keysTo]; intro j h0 hj; simp at hj, by simp [keysTo], by simp [keysTo]⟩
  | i + 1, hi => by
    obtain ⟨h1, h2, h3⟩ := keysTo_inv q hN i (by omega)
    rw [keysTo]
    by_cases hp : q.getD i 0 > 0
    · rw [if_pos hp]
      have hr : ∀ x, x ∈ keysTo q i ++ [key q i (q.getD i 0)] → RK x := by
        intro x hx
        rw [List.mem_append, List.mem_singleton] at hx
        rcases hx with hx | rfl
        · obtain ⟨s, s1, s2, rfl⟩ := (h3 x).1 hx
          exact key_right hN s _ (by omega) (Int.le_refl _) (by omega)
        · exact key_right hN i _ (by omega) (Int.le_refl _) (by omega)
      have hn : key q i (q.getD i 0) ∉ keysTo q i := by
        intro hx
        obtain ⟨s, s1, s2, e⟩ := (h3 _).1 hx
        have := congrArg S46.f2 e
        have : (i : Int) = (s : Int) := this
        omega
      have hpa := Hp.push_agree z ltK ltT (keysTo q i) (key q i (q.getD i 0)) (agree_right hr)
      rw [show (⟨q.getD i 0, q.getD i 0, (i : Int)⟩ : S) = key q i (q.getD i 0) from rfl, hpa]
      obtain ⟨p1, p2, p3⟩ := Hp.push_set z ltT ltT_ord _ _ h1 h2 hn
      refine ⟨p1, p2, fun y => ?_⟩
      rw [p3, h3]
      constructor
      · rintro (⟨s, s1, s2, s3⟩ | rfl)
        · exact ⟨s, by omega, s2, s3⟩
        · exact ⟨i, by omega, hp, rfl⟩
      · rintro ⟨s, s1, s2, s3⟩
        by_cases e : s = i
        · subst e; exact .inr s3
        · exact .inl ⟨s, by omega, s2, s3⟩
    · rw [if_neg hp]
      refine ⟨h1, h2, fun y => ?_⟩
      rw [h3]
      constructor
      · rintro ⟨s, s1, s2, s3⟩; exact ⟨s, by omega, s2, s3⟩
      · rintro ⟨s, s1, s2, s3⟩
        by_cases e : s = i
        · subst e; omega
        · exact ⟨s, by omega, s2, s3⟩
/-! one by one -/
structure OInv (q : List Int) (l out : List S) : Prop where
  heap : Hp.Heap z ltT l
  nd : l.Nodup
  key : ∀ x, x ∈ l → IsKey q x
  one : ∀ x, x ∈ l → ∀ y, y ∈ l → x.f2 = y.f2 → x = y
  srt : out.Pairwise LtK
  cov : ∀ x, x ∈ out ↔ IsKey q x ∧ ∀ y, y ∈ l → y.f2 = x.f2 → x.f0 < y.f0
  ahd : ∀ x, x ∈ out → ∀ y, y ∈ l → LtK x y
theorem oinv_start (q : List Int) (hN : Nq q) : OInv q (keysTo q 256) [] := by
  obtain ⟨h1, h2, h3⟩ := keysTo_inv q hN 256 (Nat.le_refl _)
  refine ⟨h1, h2, ?_, ?_, List.Pairwise.nil, ?_, ?_⟩
  · intro x hx
    obtain ⟨s, s1, s2, rfl⟩ := (h3 x).1 hx
    exact ⟨s, _, s1, Int.le_refl _, by omega, rfl⟩
  · intro x hx y hy e
    obtain ⟨s, s1, s2, rfl⟩ := (h3 x).1 hx
    obtain ⟨t, t1, t2, rfl⟩ := (h3 y).1 hy
    have e : (s : Int) = (t : Int) := e
    have e : s = t := by omega
    rw [e]
  · intro x
    constructor
    · intro h; simp at h
    · rintro ⟨⟨s, i, s1, s2, s3, rfl⟩, h⟩
      have := h (Go.Proofs.Ytonicgihpjolmaa.key q s (q.getD s 0)) ((h3 _).2 ⟨s, s1, by omega, rfl⟩) rfl
      have : i < q.getD s 0 := this
      omega
  · intro x hx; simp at hx
/-- behind a pop of x: the heap's others, and perhaps x's next one -/
theorem oinv_step {q : List Int} (hN : Nq q) {l out l2 : List S} (I : OInv q l out) {x : S} (hx : x ∈ l) (hm : ∀ y, y ∈ l → y ≠ x → LtK x y)
    (h1 : Hp.Heap z ltT l2) (h2 : l2.Nodup) (h3 : ∀ y, y ∈ l2 ↔ (y ∈ l ∧ y ≠ x) ∨ (x.f0 + 1 < 2 * x.f1 ∧ y = ⟨x.f0 + 1, x.f1, x.f2⟩)) : OInv q l2 (out ++ [x]) := by
  have kx := I.key x hx
  have rx := kx.right hN
  have kn : x.f0 + 1 < 2 * x.f1 → IsKey q ⟨x.f0 + 1, x.f1, x.f2⟩ := by
    intro h
    obtain ⟨s, i, s1, s2, s3, rfl⟩ := kx
    exact ⟨s, i + 1, s1, by omega, h, rfl⟩
  have k2 : ∀ y, y ∈ l2 → IsKey q y := by
    intro y hy
    rcases (h3 y).1 hy with h | ⟨h, rfl⟩
    · exact I.key y h.1
    · exact kn h
  have lx : ∀ y, y ∈ l2 → LtK x y := by
    intro y hy
    rcases (h3 y).1 hy with h | ⟨h, rfl⟩
    · exact hm y h.1 h.2
    · exact (lt_same hN kx (kn h) rfl).2 (by show x.f0 < x.f0 + 1; omega)
  have ko : ∀ y, y ∈ out → IsKey q y := fun y hy => ((I.cov y).1 hy).1
  refine ⟨h1, h2, k2, ?_, ?_, ?_, ?_⟩
  · intro a ha b hb e
    rcases (h3 a).1 ha with ha | ⟨hn, rfl⟩
    · rcases (h3 b).1 hb with hb | ⟨hn, rfl⟩
      · exact I.one a ha.1 b hb.1 e
      · exact absurd (I.one a ha.1 x hx e) ha.2
    · rcases (h3 b).1 hb with hb | ⟨_, rfl⟩
      · exact absurd (I.one b hb.1 x hx e.symm) hb.2
      · rfl
  · rw [List.pairwise_append]
    refine ⟨I.srt, List.pairwise_singleton _ _, ?_⟩
    intro a ha b hb
    rw [List.mem_singleton] at hb
    subst hb
    exact I.ahd a ha _ hx
  · intro y
    rw [List.mem_append, List.mem_singleton]
    constructor
    · rintro (hy | rfl)
      · obtain ⟨c1, c2⟩ := (I.cov y).1 hy
        refine ⟨c1, fun w hw e => ?_⟩
        rcases (h3 w).1 hw with h | ⟨h, rfl⟩
        · exact c2 w h.1 e
        · have := c2 x hx e
          show y.f0 < x.f0 + 1
          omega
      · refine ⟨kx, fun w hw e => ?_⟩
        rcases (h3 w).1 hw with h | ⟨h, rfl⟩
        · exact absurd (I.one w h.1 _ hx e) h.2
        · show y.f0 < y.f0 + 1
          omega
    · rintro ⟨c1, c2⟩
      by_cases e : y = x
      · exact .inr e
      refine .inl ((I.cov y).2 ⟨c1, fun w hw e2 => ?_⟩)
      by_cases e3 : w = x
      · subst e3
        have h4 : y.f0 < w.f0 + 1 := by
          by_cases h : w.f0 + 1 < 2 * w.f1
          · have := c2 _ ((h3 _).2 (.inr ⟨h, rfl⟩)) e2
            exact this
          · have := kx.same c1 e2
            have := (c1.right hN).i1
            omega
        have h5 : y.f0 ≠ w.f0 := fun h => e (c1.eq kx e2.symm h)
        omega
      · exact c2 w ((h3 w).2 (.inl ⟨hw, e3⟩)) e2
  · intro a ha b hb
    rw [List.mem_append, List.mem_singleton] at ha
    rcases ha with ha | rfl
    · exact lt_tr ((ko a ha).right hN) rx ((k2 b hb).right hN) (I.ahd a ha x hx) (lx b hb)
    · exact lx b hb
/-- all keys -/
def allK (q : List Int) : List S := (List.range 256).flatMap fun s => (List.range (q.getD s 0).toNat).map fun (j : Nat) => key q s (q.getD s 0 + (j : Int))
theorem mem_allK (q : List Int) (hN : Nq q) (x : S) : x ∈ allK q ↔ IsKey q x := by
  unfold allK
  rw [List.mem_flatMap]
  constructor
  · rintro ⟨s, hs, hx⟩
    rw [List.mem_map] at hx
    obtain ⟨j, hj, rfl⟩ := hx
    rw [List.mem_range] at hs hj
    exact ⟨s, _, hs, by omega, by omega, rfl⟩
  · rintro ⟨s, i, h1, h2, h3, rfl⟩
    refine ⟨s, List.mem_range.2 h1, List.mem_map.2 ⟨(i - q.getD s 0).toNat, List.mem_range.2 (by omega), ?_⟩⟩
    rw [show q.getD s 0 + ((i - q.getD s 0).toNat : Int) = i by omega]
theorem allK_nodup (q : List Int) (hN : Nq q) : (allK q).Nodup := by
  unfold allK
  rw [List.nodup_iff_pairwise_ne, List.pairwise_flatMap]
  constructor
  · intro s hs
    rw [List.pairwise_map]
    refine List.Pairwise.imp ?_ (List.nodup_iff_pairwise_ne.1 List.nodup_range)
    intro a b h e
    have := congrArg S46.f0 e
    have : q.getD s 0 + (a : Int) = q.getD s 0 + (b : Int) := this
    omega
  · refine List.Pairwise.imp ?_ (List.nodup_iff_pairwise_ne.1 List.nodup_range)
    intro a b h x hx y hy e
    rw [List.mem_map] at hx hy
    obtain ⟨i, _, rfl⟩ := hx
    obtain ⟨j, _, rfl⟩ := hy
    have := congrArg S46.f2 e
    have : (a : Int) = (b : Int) := this
    omega
/-- a count over all keys is a sum over the symbols -/
def cntK (q : List Int) (P : S → Bool) (s : Nat) : Nat := (List.range (q.getD s 0).toNat).countP fun (j : Nat) => P (key q s (q.getD s 0 + (j : Int)))
theorem countP_allK (q : List Int) (P : S → Bool) : (allK q).countP P = ((List.range 256).map (cntK q P)).sum := by
  unfold allK
  rw [List.countP_flatMap]
  congr 1
  apply List.map_congr_left
  intro s _
  simp only [Function.comp_apply, List.countP_map]
  rfl
theorem allK_len (q : List Int) (hN : Nq q) : ((allK q).length : Int) = q.sum := by
  have h : ∀ n, n ≤ 256 → ((((List.range n).map fun s => (q.getD s 0).toNat).sum : Nat) : Int) = (q.take n).sum := by
    intro n
    induction n with
    | zero => intro _; simp
    | succ n ih =>
      intro hn
      rw [List.range_succ, List.map_append, List.sum_append, take_snocE q n (by have := hN.len; omega), List.sum_append, Int.natCast_add, ih (by omega)]
      have := hN.nn n
      simp only [List.map_cons, List.map_nil, List.sum_cons, List.sum_nil]
      omega
  have h2 := h 256 (Nat.le_refl _)
  rw [List.take_of_length_le (by have := hN.len; omega)] at h2
  rw [← h2]
  unfold allK
  rw [List.length_flatMap]
  simp
theorem sorted_nodup {L : List S} (h : L.Pairwise LtK) : L.Nodup := List.nodup_iff_pairwise_ne.2 (h.imp (fun {a b} hl (e : a = b) => by subst e; exact lt_irrefl a hl))
theorem ord_run (q : List Int) (hN : Nq q) : ∀ (k : Nat) (l out : List S), OInv q l out → q.sum < (k : Int) + (out.length : Int) → ∃ L, ordTo k l out = some L ∧ L.Pairwise LtK ∧ ∀ x, x ∈ L ↔ IsKey q x
  | 0, l, out, I, hk => by
    exfalso
    have h1 := allK_len q hN
    have h2 : out.length ≤ (allK q).length := List.Nodup.length_le_of_subset (sorted_nodup I.srt) (fun x hx => (mem_allK q hN x).2 ((I.cov x).1 hx).1)
    omega
  | k + 1, l, out, I, hk => by
    rw [ordTo]
    by_cases hl : l.length = 0
    · rw [if_pos hl]
      have : l = [] := List.eq_nil_of_length_eq_zero hl
      subst this
      refine ⟨out, rfl, I.srt, fun x => ?_⟩
      rw [I.cov]
      exact ⟨fun h => h.1, fun h => ⟨h, fun y hy => by simp at hy⟩⟩
    rw [if_neg hl]
    have hR : ∀ x, x ∈ l → RK x := fun x hx => (I.key x hx).right hN
    have hpa := Hp.pop_agree z ltK ltT l (by omega) (agree_right hR)
    rw [hpa]
    obtain ⟨x, hx, hxl, hxm, hH, hND, hM⟩ := Hp.pop_set z ltT ltT_ord l I.heap I.nd (by omega)
    rw [hx]
    have kx := I.key x hxl
    have rx := kx.right hN
    have x1 := rx.q0; have x2 := rx.q1; have x3 := rx.i0; have x4 := rx.i1
    have hm : ∀ y, y ∈ l → y ≠ x → LtK x y := by
      intro y hy hne
      have h1 := hxm y hy
      rw [ltT_right (hR y hy) rx, decide_eq_false_iff_not] at h1
      rcases (I.key y hy).or hN kx hne with h | h
      · exact absurd h h1
      · exact h
    have e1 : wrap64 (x.f0 + 1) = x.f0 + 1 := w64' rfl (by omega) (by omega)
    have e2 : wrap64 (2 * x.f1) = 2 * x.f1 := w64' rfl (by omega) (by omega)
    have hmk : moreK x = true ↔ x.f0 + 1 < 2 * x.f1 := by
      unfold moreK
      rw [(rightK_iff x).2 rx, e1, e2, Bool.true_and, Bool.not_eq_true', decide_eq_false_iff_not]
      omega
    by_cases hk2 : moreK x = true
    · rw [if_pos hk2, e1]
      have hlt := hmk.1 hk2
      have kn : IsKey q ⟨x.f0 + 1, x.f1, x.f2⟩ := by
        obtain ⟨s, i, s1, s2, s3, rfl⟩ := kx
        exact ⟨s, i + 1, s1, by omega, hlt, rfl⟩
      have hnot : (⟨x.f0 + 1, x.f1, x.f2⟩ : S) ∉ (Hp.pop z ltT l).take (l.length - 1) := by
        intro h
        obtain ⟨h5, h6⟩ := (hM _).1 h
        exact h6 (I.one _ h5 x hxl rfl)
      have hR2 : ∀ y, y ∈ (Hp.pop z ltT l).take (l.length - 1) ++ [(⟨x.f0 + 1, x.f1, x.f2⟩ : S)] → RK y := by
        intro y hy
        rw [List.mem_append, List.mem_singleton] at hy
        rcases hy with hy | rfl
        · exact hR y ((hM y).1 hy).1
        · exact kn.right hN
      rw [Hp.push_agree z ltK ltT _ _ (agree_right hR2)]
      obtain ⟨p1, p2, p3⟩ := Hp.push_set z ltT ltT_ord _ _ hH hND hnot
      refine ord_run q hN k _ _ (oinv_step hN I hxl hm p1 p2 (fun y => ?_)) (by rw [List.length_append, List.length_singleton]; omega)
      rw [p3, hM]
      exact ⟨fun h => h.imp id (fun h => ⟨hlt, h⟩), fun h => h.imp id (fun h => h.2)⟩
    · rw [if_neg hk2]
      refine ord_run q hN k _ _ (oinv_step hN I hxl hm hH hND (fun y => ?_)) (by rw [List.length_append, List.length_singleton]; omega)
      rw [hM]
      exact ⟨fun h => .inl h, fun h => h.elim id (fun h => absurd (hmk.2 h.1) hk2)⟩
/-- the keys in their order -/
structure Sorted (q : List Int) (L : List S) : Prop where
  srt : L.Pairwise LtK
  mem : ∀ x, x ∈ L ↔ IsKey q x
theorem order_ex (q : List Int) (hN : Nq q) : ∃ L, orderF q = some L ∧ Sorted q L := by
  obtain ⟨L, h1, h2, h3⟩ := ord_run q hN 5000 _ _ (oinv_start q hN) (by have := hN.sm; simp; omega)
  have hl := hN.len
  refine ⟨L, ?_, h2, h3⟩
  unfold orderF
  rw [if_pos (by omega), hl]
  exact h1
theorem Sorted.perm {q : List Int} {L : List S} (h : Sorted q L) (hN : Nq q) : L.Perm (allK q) :=
  (List.perm_ext_iff_of_nodup (sorted_nodup h.srt) (allK_nodup q hN)).2 fun x => by rw [h.mem, mem_allK q hN]
theorem Sorted.len {q : List Int} {L : List S} (h : Sorted q L) (hN : Nq q) : (L.length : Int) = q.sum := by
  rw [(h.perm hN).length_eq, allK_len q hN]
/-- a key's place: how many are less -/
def placeZ (q : List Int) (x : S) : Nat := (allK q).countP fun y => decide (LtK y x)
theorem Sorted.before {q : List Int} {L : List S} (h : Sorted q L) (hN : Nq q) (at_ : Nat) (hl : at_ < L.length) (P : S → Bool) : (allK q).countP (fun y => P y && decide (LtK y (L.getD at_ z))) = (L.take at_).countP P := by
  rw [← (h.perm hN).countP_eq]
  have hs := h.srt
  have hk : ∀ x, x ∈ L → RK x := fun x hx => ((h.mem x).1 hx).right hN
  have e : L = L.take at_ ++ L.getD at_ z :: L.drop (at_ + 1) := by
    rw [List.getD_eq_getElem?_getD, List.getElem?_eq_getElem hl]
    simp
  generalize hx : L.getD at_ z = x at e
  conv => lhs; rw [e]
  rw [e, List.pairwise_append] at hs
  obtain ⟨s1, s2, s3⟩ := hs
  rw [List.pairwise_cons] at s2
  rw [List.countP_append, List.countP_cons]
  have h1 : (L.take at_).countP (fun y => P y && decide (LtK y x)) = (L.take at_).countP P := by
    apply List.countP_congr
    intro y hy
    have := s3 y hy x (by simp)
    simp [this]
  have h2 : (L.drop (at_ + 1)).countP (fun y => P y && decide (LtK y x)) = 0 := by
    rw [List.countP_eq_zero]
    intro y hy
    have := lt_asymm (s2.1 y hy)
    simp [this]
  have h3 : (P x && decide (LtK x x)) = false := by
    have := lt_irrefl x
    simp [this]
  rw [h1, h2, h3]; simp
theorem Sorted.place {q : List Int} {L : List S} (h : Sorted q L) (hN : Nq q) (at_ : Nat) (hl : at_ < L.length) : placeZ q (L.getD at_ z) = at_ := by
  have := h.before hN at_ hl (fun _ => true)
  simp only [Bool.true_and] at this
  unfold placeZ
  rw [this, List.countP_true, List.length_take]; omega
theorem Sorted.there {q : List Int} {L : List S} (h : Sorted q L) (hN : Nq q) {x : S} (hx : IsKey q x) : placeZ q x < L.length ∧ L.getD (placeZ q x) z = x := by
  obtain ⟨j, hj, e⟩ := Hp.mem_getD z ((h.mem x).2 hx)
  have := h.place hN j hj
  rw [e] at this
  rw [this]; exact ⟨hj, e⟩
end Go.Proofs.Ytonicgihpjolmaa
