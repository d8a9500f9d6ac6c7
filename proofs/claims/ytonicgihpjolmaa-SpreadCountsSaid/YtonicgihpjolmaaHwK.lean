/- Contracts of container/heap over a variable that holds a row of elements: what each call does to the row is what Hp tells. -/
import Derived.Test.YtonicgihpjolmaaHp
import Derived.Test.YtonicgihpjolmaaBase
import Derived.Test.YtonicgihpjolmaaPPrx3
import Derived.Test.YtonicgihpjolmaaPPrx3
import Derived.Test.YtonicgihpjolmaaKo
import Derived.Deep.RegionWith
import Derived.Deep.DeepMust
namespace Go.Proofs.Ytonicgihpjolmaa
open Go.RowKit Go.Proofs.YtonicgihpjolmaaW.PrintWords Go.Proofs.YtonicgihpjolmaaW.PrintLast Go.Proofs.YtonicgihpjolmaaW.PrintMore PPr
attribute [local go_sem] max2_int min2_int max_two min_two max_three min_three max_four min_four
set_option linter.unusedSimpArgs false
set_option linter.unusedVariables false
namespace HK
/-- does a type have a method of this number -/
def hasM (P : Program) (t : TypeId) (name : String) (f : FuncId) (b : Bool) : Bool :=
  match P.info? t with
  | none => false
  | some ti => match ti.methods.find? (fun m => m.name == name) with
    | none => false
    | some m => m.path.size == 0 && (match m.func with | some (g, c) => g == f && c == b | none => false)
theorem hasM_val {P : Program} {t e : TypeId} {f : FuncId} {name : String} (h : hasM P t name f false = true) (hu : P.underlying t = some (.pointer e)) (a : Addr) (v : Value) (n : Nat) (w : World) (hl : (loadVar e a).run P w = .ok v w) :
    (method (n + 1) t (.pointer (some a)) name).run P w = .ok (f, v) w := by
  unfold hasM at h
  cases hi : P.info? t with
  | none => rw [hi] at h; cases h
  | some ti =>
    rw [hi] at h
    cases hm : ti.methods.find? (fun m => m.name == name) with
    | none => simp [hm] at h
    | some m =>
      simp only [hm, Bool.and_eq_true, beq_iff_eq] at h
      obtain ⟨hp, hf⟩ := h
      have hp : m.path = #[] := Array.eq_empty_of_size_eq_zero hp
      cases hf2 : m.func with
      | none => rw [hf2] at hf; cases hf
      | some gc =>
        obtain ⟨g, c⟩ := gc
        rw [hf2] at hf
        simp only [Bool.and_eq_true, beq_iff_eq] at hf
        obtain ⟨rfl, rfl⟩ := hf
        unfold method
        have hw : ∀ s : String, Builtin.ssaWrapNilChk_ #[t] t #[Value.pointer (some a), strVal "", strVal s] = pure (.pointer (some a)) := fun _ => rfl
        simp only [typeInfo, hi, hm, hp, hf2, follow, receiverAt, run_underlying hu, Place.get, asAddr]
        simp [hi, hm, hp, hf2, run_underlying hu, hl]
        simp [follow, run_underlying hu, hw, hl]
theorem hasM_ptr {P : Program} {t e : TypeId} {f : FuncId} {name : String} (h : hasM P t name f true = true) (hu : P.underlying t = some (.pointer e)) (a : Addr) (n : Nat) (w : World) :
    (method (n + 1) t (.pointer (some a)) name).run P w = .ok (f, .pointer (some a)) w := by
  unfold hasM at h
  cases hi : P.info? t with
  | none => rw [hi] at h; cases h
  | some ti =>
    rw [hi] at h
    cases hm : ti.methods.find? (fun m => m.name == name) with
    | none => simp [hm] at h
    | some m =>
      simp only [hm, Bool.and_eq_true, beq_iff_eq] at h
      obtain ⟨hp, hf⟩ := h
      have hp : m.path = #[] := Array.eq_empty_of_size_eq_zero hp
      cases hf2 : m.func with
      | none => rw [hf2] at hf; cases hf
      | some gc =>
        obtain ⟨g, c⟩ := gc
        rw [hf2] at hf
        simp only [Bool.and_eq_true, beq_iff_eq] at hf
        obtain ⟨rfl, rfl⟩ := hf
        unfold method
        simp [typeInfo, hi, hm, hp, hf2, follow, receiverAt, run_underlying hu, Place.get]
theorem nil_any (name : String) (hn : (name == "Len" || name == "Less" || name == "Swap" || name == "Pop" || name == "Push") = true) (a : Addr) (n : Nat) (w : World) : (nilAhead (n + 1) 54 (.pointer (some a)) name).run Try.prog w = .ok (some false) w := by
  simp only [Bool.or_eq_true, beq_iff_eq] at hn
  rcases hn with (((rfl | rfl) | rfl) | rfl) | rfl <;> kernel_rfl
theorem load_v (a : Addr) (v : Value) (w : World) (h : w.cell? a = some v) : (loadVar 52 a).run Try.prog w = .ok v w := by simp [go_sem, h]
theorem m_len (a : Addr) (v : Value) (n : Nat) (w : World) (h : w.cell? a = some v) : (method (n + 1) 54 (.pointer (some a)) "Len").run Try.prog w = .ok (28, v) w :=
  hasM_val (by kernel_rfl) Try.underlying54 a v n w (load_v a v w h)
theorem m_less (a : Addr) (v : Value) (n : Nat) (w : World) (h : w.cell? a = some v) : (method (n + 1) 54 (.pointer (some a)) "Less").run Try.prog w = .ok (57, v) w :=
  hasM_val (by kernel_rfl) Try.underlying54 a v n w (load_v a v w h)
theorem m_swap (a : Addr) (v : Value) (n : Nat) (w : World) (h : w.cell? a = some v) : (method (n + 1) 54 (.pointer (some a)) "Swap").run Try.prog w = .ok (58, v) w :=
  hasM_val (by kernel_rfl) Try.underlying54 a v n w (load_v a v w h)
theorem m_pop (a : Addr) (n : Nat) (w : World) : (method (n + 1) 54 (.pointer (some a)) "Pop").run Try.prog w = .ok (63, .pointer (some a)) w :=
  hasM_ptr (by kernel_rfl) Try.underlying54 a n w
theorem m_push (a : Addr) (n : Nat) (w : World) : (method (n + 1) 54 (.pointer (some a)) "Push").run Try.prog w = .ok (64, .pointer (some a)) w :=
  hasM_ptr (by kernel_rfl) Try.underlying54 a n w
abbrev S := S46
abbrev z : S := z46
/-- a variable at block p of W holds the row v, whose elements are xs; since w just the blocks of Q, and new ones, have turned -/
structure IsH (w0 w W : World) (Q : Nat → Prop) (p : Nat) (v : Value) (xs : List S) : Prop where
  B : W.heap[p]? = some (.cells #[v] 52 (0, 0))
  P : Q p ∨ w.heap.size ≤ p
  P0 : w0.heap.size ≤ p
  R : Kd.R k46 46 W w0.heap.size (fun k => Q k ∨ w.heap.size ≤ k) v xs
  K : Kept w W Q
  Z : Below w0.heap.size w0 W
theorem IsH.cell {w0 w W : World} {Q : Nat → Prop} {p : Nat} {v : Value} {xs : List S} (h : IsH w0 w W Q p v xs) : W.cell? ⟨p, 0, none⟩ = some v := by
  have := blk_cell h.B 0
  simpa using this
theorem IsH.below {w0 w W W1 : World} {Q : Nat → Prop} {p : Nat} {v : Value} {xs : List S} (h : IsH w0 w W Q p v xs) (hb : Below W.heap.size W W1) : IsH w0 w W1 Q p v xs :=
  ⟨(hb.block _ (blk_lt h.B)).trans h.B, h.P, h.P0, Kd.R_below h.R hb, h.K.below hb, h.Z.trans (hb.mono h.Z.size)⟩
/-- apart from its own variable -/
theorem IsH.apart {w0 w W : World} {Q : Nat → Prop} {p : Nat} {v : Value} {xs : List S} (h : IsH w0 w W Q p v xs) : Kd.R k46 46 W w0.heap.size (fun k => (Q k ∨ w.heap.size ≤ k) ∧ k ≠ p) v xs :=
  Kd.R_types h.R h.B (by intro q hq; simp [k46, Kd.iso, Kd.pair, Kd.int, Kd.scalar] at hq; omega)
theorem IsH.put {w0 w W : World} {Q : Nat → Prop} {p : Nat} {v v' : Value} {xs ys : List S} (h : IsH w0 w W Q p v xs) (hR : Kd.R k46 46 W w0.heap.size (fun k => Q k ∨ w.heap.size ≤ k) v' ys) : IsH w0 w (W.setCell ⟨p, 0, none⟩ v') Q p v' ys :=
  ⟨by simpa using blk_set h.B 0 v', h.P, h.P0, Kd.R_set hR h.B (by intro q hq; simp [k46, Kd.iso, Kd.pair, Kd.int, Kd.scalar] at hq; omega) 0 v', h.K.setCell h.P _, h.Z.setCell h.P0 _⟩
/-- the same, as of now -/
theorem IsH.self {w0 w W : World} {Q : Nat → Prop} {p : Nat} {v : Value} {xs : List S} (h : IsH w0 w W Q p v xs) (hQ : ∀ k, w.heap.size ≤ k → Q k) : IsH w0 W W Q p v xs :=
  ⟨h.B, h.P.elim .inl (fun k => .inl (hQ _ k)), h.P0, Kd.R_mono h.R (fun k hk => hk.elim .inl (fun k2 => .inl (hQ _ k2))), Kept.refl _ _, h.Z⟩
theorem IsH.far {w0 W : World} {Q : Nat → Prop} {p g j : Nat} {u v : Value} {xs : List S} (h : IsH w0 W W Q p v xs) (hg : ¬ Q g) (hlt : g < W.heap.size) (h0 : w0.heap.size ≤ g) : IsH w0 (W.setCell ⟨g, j, none⟩ u) (W.setCell ⟨g, j, none⟩ u) Q p v xs := by
  have hp : p ≠ g := by
    rintro rfl
    rcases h.P with h1 | h1
    · exact hg h1
    · omega
  refine ⟨blk_far h.B hp u, ?_, h.P0, Kd.R_mono (Kd.R_far (p := ⟨g, j, none⟩) h.R (fun k hk => ?_) u) (fun k hk => ?_), Kept.refl _ _, h.Z.setCell h0 _⟩
  · simpa [World.setCell] using h.P
  · rintro rfl
    rcases hk with h1 | h1
    · exact hg h1
    · omega
  · simpa [World.setCell] using hk
theorem IsH.alloc {w0 w W : World} {Q : Nat → Prop} {p : Nat} {v : Value} {xs : List S} (h : IsH w0 w W Q p v xs) (o : Obj) : IsH w0 w (W.alloc o) Q p v xs := h.below (below_alloc (Below.refl _ _) o)
theorem IsH.drewN {w0 w W : World} {Q : Nat → Prop} {p : Nat} {v : Value} {xs : List S} (h : IsH w0 w W Q p v xs) (n : Nat) : IsH w0 w (W.drewN n) Q p v xs := h.below (pw_below_drewN (Below.refl _ _) n)
theorem IsH.len {w0 w W : World} {Q : Nat → Prop} {p : Nat} {v : Value} {xs : List S} (h : IsH w0 w W Q p v xs) : ∃ A c, v = .slice A xs.length c ∧ xs.length ≤ c ∧ Kd.C k46 W A xs.length xs := Kd.R_reads h.R
theorem less_f (xs : List S) (a b : Int) (ha : 0 ≤ a) (ha' : a < xs.length) (hb : 0 ≤ b) (hb' : b < xs.length) : spread_keys_Less.f xs a b = some (ltK (xs.getD a.toNat z) (xs.getD b.toNat z)) := by
  unfold spread_keys_Less.f
  rw [if_pos ha, if_pos ha', if_pos hb, if_pos hb']
  have e := cmpF_eq (xs.getD a.toNat z) (xs.getD b.toNat z)
  show (cmpF (xs.getD a.toNat z).f0 (xs.getD a.toNat z).f1 (xs.getD a.toNat z).f2 (xs.getD b.toNat z).f0 (xs.getD b.toNat z).f1 (xs.getD b.toNat z).f2).bind (fun t => some (decide (t < 0))) = _
  rw [e]
  rfl
theorem less_at {w0 w W : World} {Q : Nat → Prop} {p : Nat} {v : Value} {xs : List S} (h : IsH w0 w W Q p v xs) (a b : Int) (ha : 0 ≤ a) (ha' : a < xs.length) (hb : 0 ≤ b) (hb' : b < xs.length) :
    Calls Try.prog 57 #[v, .int .i64 a, .int .i64 b] W fun e W' => e = .returned (.bool (ltK (xs.getD a.toNat z) (xs.getD b.toNat z))) ∧ IsH w0 w W' Q p v xs := by
  obtain ⟨A, c, rfl, hc, hr⟩ := h.len
  refine (spread_keys_Less.calls A c xs a b _ W hr hc (less_f xs a b ha ha' hb hb')).mono ?_
  rintro e W' ⟨rfl, hb⟩
  exact ⟨rfl, h.below hb⟩
theorem swap_f (xs : List S) (a b : Int) (ha : 0 ≤ a) (ha' : a < xs.length) (hb : 0 ≤ b) (hb' : b < xs.length) : spread_keys_Swap.f xs a b = some (Hp.swap z xs a.toNat b.toNat) := by
  unfold spread_keys_Swap.f
  rw [if_pos hb, if_pos hb', if_pos ha, if_pos ha']
  rfl
theorem swap_at {w0 w W : World} {Q : Nat → Prop} {p : Nat} {v : Value} {xs : List S} (h : IsH w0 w W Q p v xs) (a b : Int) (ha : 0 ≤ a) (ha' : a < xs.length) (hb : 0 ≤ b) (hb' : b < xs.length) :
    Calls Try.prog 58 #[v, .int .i64 a, .int .i64 b] W fun e W' => e = .returned (.tuple #[]) ∧ IsH w0 w W' Q p v (Hp.swap z xs a.toNat b.toNat) := by
  refine (spread_keys_Swap.calls (fun k => (Q k ∨ w.heap.size ≤ k) ∧ k ≠ p) v xs a b _ w0 W h.Z h.apart (swap_f xs a b ha ha' hb hb')).mono ?_
  rintro e W' ⟨rfl, hR, hZ, hK⟩
  refine ⟨rfl, ⟨blk_kept h.B hK (fun hh => hh.2 rfl), h.P, h.P0, Kd.R_mono hR ?_, h.K.then_ hK (fun k hk => hk.1), hZ⟩⟩
  intro k hk
  rcases hk with hk | hk
  · exact hk.1
  · exact .inr (Nat.le_trans h.K.1 hk)
theorem len_at {w0 w W : World} {Q : Nat → Prop} {p : Nat} {v : Value} {xs : List S} (h : IsH w0 w W Q p v xs) :
    Calls Try.prog 28 #[v] W fun e W' => e = .returned (.int .i64 (xs.length : Int)) ∧ W = W' := by
  obtain ⟨A, c, rfl, hc, hr⟩ := h.len
  clear h hr
  go_enter Try.func28, Try.ntmps28
  go_wp2
  go_ret
  exact ⟨rfl, rfl⟩
/-- one round of down -/
theorem down_stop (lt : S → S → Bool) (k : Nat) (l : List S) (i n : Nat) (h : n ≤ 2 * i + 1) : Hp.down z lt k l i n = l := by
  cases k with
  | zero => rfl
  | succ k => unfold Hp.down; rw [if_pos h]
theorem down_two (lt : S → S → Bool) (k : Nat) (l : List S) (i n : Nat) (h : 2 * i + 2 < n) (hl : lt (l.getD (2 * i + 2) z) (l.getD (2 * i + 1) z) = true) :
    Hp.down z lt (k + 1) l i n = if lt (l.getD (2 * i + 2) z) (l.getD i z) = true then Hp.down z lt k (Hp.swap z l i (2 * i + 2)) (2 * i + 2) n else l := by
  rw [Hp.down, if_neg (by omega)]
  simp only [h, hl, and_self, if_true]
theorem down_one (lt : S → S → Bool) (k : Nat) (l : List S) (i n : Nat) (h0 : 2 * i + 1 < n) (h : ¬ (2 * i + 2 < n ∧ lt (l.getD (2 * i + 2) z) (l.getD (2 * i + 1) z) = true)) :
    Hp.down z lt (k + 1) l i n = if lt (l.getD (2 * i + 1) z) (l.getD i z) = true then Hp.down z lt k (Hp.swap z l i (2 * i + 1)) (2 * i + 1) n else l := by
  rw [Hp.down, if_neg (by omega)]
  simp only [if_neg h]
def SomeBool (e : Ending) : Prop := ∃ b, e = .returned (.bool b)
theorem someBool (b : Bool) : SomeBool (.returned (.bool b)) := ⟨b, rfl⟩
set_option maxHeartbeats 2000000 in
theorem down_any {w0 w W : World} {Q : Nat → Prop} {p : Nat} {v : Value} {xs : List S} (h : IsH w0 w W Q p v xs) (i n : Nat) (hn : n ≤ xs.length) (hm : xs.length ≤ 1152921504606846976) (hi : i ≤ 1152921504606846976) :
    Calls Try.prog 37 #[.iface 54 (.pointer (some ⟨p, 0, none⟩)), .int .i64 (i : Int), .int .i64 (n : Int)] W fun e W' => SomeBool e ∧ IsH w0 w W' Q p v (Hp.down z ltK xs.length xs i n) := by
  have H := Lib.hid h
  have hn1 := nil_any "Less" rfl
  have hn2 := nil_any "Swap" rfl
  have hm1 := fun (n : Nat) (w : World) (h : w.cell? ⟨p, 0, none⟩ = some v) => m_less ⟨p, 0, none⟩ v n w h
  have hm2 := fun (n : Nat) (w : World) (h : w.cell? ⟨p, 0, none⟩ = some v) => m_swap ⟨p, 0, none⟩ v n w h
  clear h
  go_enter Try.func37, Try.ntmps37
  go_wp2
  go_loopg [7] (2 * n - i) (fun k q wr => ∃ (ys : List S) (j m : Nat), k = 2 * n - j ∧ q = .int .i64 j ∧ ys.length = xs.length ∧ n ≤ m + j ∧ j ≤ 1152921504606846976 ∧ Hid (Hp.down z ltK m ys j n = Hp.down z ltK xs.length xs i n) ∧ IsH w0 w wr Q p v ys)
  case atStart => exact ⟨xs, i, xs.length, rfl, rfl, rfl, by omega, hi, Lib.hid rfl, H.out⟩
  case round =>
    obtain ⟨ys, j, m, hk, rfl, hlen, hmj, hj, hD, hI⟩ := hrel
    have HK := Lib.hid hk
    have HL := Lib.hid hlen
    have HI := Lib.hid hI
    have hcell := hI.cell
    clear H hk hlen hI
    have hlen : ys.length ≤ xs.length := by rw [HL.out]; exact Nat.le_refl _
    have hlen2 : xs.length ≤ ys.length := by rw [HL.out]; exact Nat.le_refl _
    by_cases h1 : n ≤ 2 * j + 1
    · go_wp2
      go_ret
      refine ⟨someBool _, ?_⟩
      rw [← hD.out, down_stop _ _ _ _ _ h1]
      exact HI.out
    · obtain ⟨m, rfl⟩ : ∃ m', m = m' + 1 := ⟨m - 1, by omega⟩
      have e1 : (2 * (j : Int) + 1).toNat = 2 * j + 1 := by omega
      have e2 : (2 * (j : Int) + 1 + 1).toNat = 2 * j + 2 := by omega
      have E1 := Lib.hid e1
      have E2 := Lib.hid e2
      clear e1 e2
      by_cases h2 : 2 * j + 2 < n
      · cases hl : ltK (ys.getD (2 * j + 2) z) (ys.getD (2 * j + 1) z) with
        | true =>
          have HL1 := Lib.hid hl
          cases hl2 : ltK (ys.getD (2 * j + 2) z) (ys.getD j z) with
          | true =>
            have HL2 := Lib.hid hl2
            have S1 := Lib.hid trivial
            clear hl hl2
            go_wp2_with (first
              | (go_at_call 57; clear S1; go_must ((with_reducible refine (less_at HI.out (2 * (j : Int) + 1 + 1) (2 * (j : Int) + 1) (by omega) (by omega) (by omega) (by omega)).mono ?_); rintro e w1 ⟨rfl, hI⟩; rw [E1.out, E2.out, HL1.out]; clear hcell; have hcell := hI.cell; replace HI := Lib.hid hI; clear hI))
              | (go_at_call 57; go_must ((with_reducible refine (less_at HI.out (2 * (j : Int) + 1 + 1) (j : Int) (by omega) (by omega) (by omega) (by omega)).mono ?_); rintro e w1 ⟨rfl, hI⟩; rw [E2.out, Int.toNat_natCast, HL2.out]; clear hcell; have hcell := hI.cell; replace HI := Lib.hid hI; clear hI))
              | (go_at_call 58; go_must ((with_reducible refine (swap_at HI.out (j : Int) (2 * (j : Int) + 1 + 1) (by omega) (by omega) (by omega) (by omega)).mono ?_); rintro e w1 ⟨rfl, hI⟩; rw [E2.out, Int.toNat_natCast] at hI; clear hcell; have hcell := hI.cell; replace HI := Lib.hid hI; clear hI)))
            go_roundg (2 * n - (2 * j + 2))
            case measure => have := HK.out; omega
            case rel => exact ⟨_, 2 * j + 2, m, rfl, by go_num, by rw [Hp.swap_len]; exact HL.out, by omega, by omega, Lib.hid (by rw [← hD.out, down_two _ _ _ _ _ h2 HL1.out, if_pos HL2.out]), HI.out⟩
          | false =>
            have HL2 := Lib.hid hl2
            have S1 := Lib.hid trivial
            clear hl hl2
            go_wp2_with (first
              | (go_at_call 57; clear S1; go_must ((with_reducible refine (less_at HI.out (2 * (j : Int) + 1 + 1) (2 * (j : Int) + 1) (by omega) (by omega) (by omega) (by omega)).mono ?_); rintro e w1 ⟨rfl, hI⟩; rw [E1.out, E2.out, HL1.out]; clear hcell; have hcell := hI.cell; replace HI := Lib.hid hI; clear hI))
              | (go_at_call 57; go_must ((with_reducible refine (less_at HI.out (2 * (j : Int) + 1 + 1) (j : Int) (by omega) (by omega) (by omega) (by omega)).mono ?_); rintro e w1 ⟨rfl, hI⟩; rw [E2.out, Int.toNat_natCast, HL2.out]; clear hcell; have hcell := hI.cell; replace HI := Lib.hid hI; clear hI)))
            go_ret
            refine ⟨someBool _, ?_⟩
            rw [← hD.out, down_two _ _ _ _ _ h2 HL1.out, if_neg (by rw [HL2.out]; simp)]
            exact HI.out
        | false =>
          have HL1 := Lib.hid hl
          have HN := Lib.hid (show ¬ (2 * j + 2 < n ∧ ltK (ys.getD (2 * j + 2) z) (ys.getD (2 * j + 1) z) = true) from fun hh => by rw [hl] at hh; simp at hh)
          cases hl2 : ltK (ys.getD (2 * j + 1) z) (ys.getD j z) with
          | true =>
            have HL2 := Lib.hid hl2
            have S1 := Lib.hid trivial
            clear hl hl2
            go_wp2_with (first
              | (go_at_call 57; clear S1; go_must ((with_reducible refine (less_at HI.out (2 * (j : Int) + 1 + 1) (2 * (j : Int) + 1) (by omega) (by omega) (by omega) (by omega)).mono ?_); rintro e w1 ⟨rfl, hI⟩; rw [E1.out, E2.out, HL1.out]; clear hcell; have hcell := hI.cell; replace HI := Lib.hid hI; clear hI))
              | (go_at_call 57; go_must ((with_reducible refine (less_at HI.out (2 * (j : Int) + 1) (j : Int) (by omega) (by omega) (by omega) (by omega)).mono ?_); rintro e w1 ⟨rfl, hI⟩; rw [E1.out, Int.toNat_natCast, HL2.out]; clear hcell; have hcell := hI.cell; replace HI := Lib.hid hI; clear hI))
              | (go_at_call 58; go_must ((with_reducible refine (swap_at HI.out (j : Int) (2 * (j : Int) + 1) (by omega) (by omega) (by omega) (by omega)).mono ?_); rintro e w1 ⟨rfl, hI⟩; rw [E1.out, Int.toNat_natCast] at hI; clear hcell; have hcell := hI.cell; replace HI := Lib.hid hI; clear hI)))
            go_roundg (2 * n - (2 * j + 1))
            case measure => have := HK.out; omega
            case rel => exact ⟨_, 2 * j + 1, m, rfl, by go_num, by rw [Hp.swap_len]; exact HL.out, by omega, by omega, Lib.hid (by rw [← hD.out, down_one _ _ _ _ _ (by omega) HN.out, if_pos HL2.out]), HI.out⟩
          | false =>
            have HL2 := Lib.hid hl2
            have S1 := Lib.hid trivial
            clear hl hl2
            go_wp2_with (first
              | (go_at_call 57; clear S1; go_must ((with_reducible refine (less_at HI.out (2 * (j : Int) + 1 + 1) (2 * (j : Int) + 1) (by omega) (by omega) (by omega) (by omega)).mono ?_); rintro e w1 ⟨rfl, hI⟩; rw [E1.out, E2.out, HL1.out]; clear hcell; have hcell := hI.cell; replace HI := Lib.hid hI; clear hI))
              | (go_at_call 57; go_must ((with_reducible refine (less_at HI.out (2 * (j : Int) + 1) (j : Int) (by omega) (by omega) (by omega) (by omega)).mono ?_); rintro e w1 ⟨rfl, hI⟩; rw [E1.out, Int.toNat_natCast, HL2.out]; clear hcell; have hcell := hI.cell; replace HI := Lib.hid hI; clear hI)))
            go_ret
            refine ⟨someBool _, ?_⟩
            rw [← hD.out, down_one _ _ _ _ _ (by omega) HN.out, if_neg (by rw [HL2.out]; simp)]
            exact HI.out
      · have HN := Lib.hid (show ¬ (2 * j + 2 < n ∧ ltK (ys.getD (2 * j + 2) z) (ys.getD (2 * j + 1) z) = true) from fun hh => h2 hh.1)
        cases hl2 : ltK (ys.getD (2 * j + 1) z) (ys.getD j z) with
        | true =>
          have HL2 := Lib.hid hl2
          clear hl2
          go_wp2_with (first
            | (go_at_call 57; go_must ((with_reducible refine (less_at HI.out (2 * (j : Int) + 1) (j : Int) (by omega) (by omega) (by omega) (by omega)).mono ?_); rintro e w1 ⟨rfl, hI⟩; rw [E1.out, Int.toNat_natCast, HL2.out]; clear hcell; have hcell := hI.cell; replace HI := Lib.hid hI; clear hI))
            | (go_at_call 58; go_must ((with_reducible refine (swap_at HI.out (j : Int) (2 * (j : Int) + 1) (by omega) (by omega) (by omega) (by omega)).mono ?_); rintro e w1 ⟨rfl, hI⟩; rw [E1.out, Int.toNat_natCast] at hI; clear hcell; have hcell := hI.cell; replace HI := Lib.hid hI; clear hI)))
          go_roundg (2 * n - (2 * j + 1))
          case measure => have := HK.out; omega
          case rel => exact ⟨_, 2 * j + 1, m, rfl, by go_num, by rw [Hp.swap_len]; exact HL.out, by omega, by omega, Lib.hid (by rw [← hD.out, down_one _ _ _ _ _ (by omega) HN.out, if_pos HL2.out]), HI.out⟩
        | false =>
          have HL2 := Lib.hid hl2
          clear hl2
          go_wp2_with (first
            | (go_at_call 57; go_must ((with_reducible refine (less_at HI.out (2 * (j : Int) + 1) (j : Int) (by omega) (by omega) (by omega) (by omega)).mono ?_); rintro e w1 ⟨rfl, hI⟩; rw [E1.out, Int.toNat_natCast, HL2.out]; clear hcell; have hcell := hI.cell; replace HI := Lib.hid hI; clear hI)))
          go_ret
          refine ⟨someBool _, ?_⟩
          rw [← hD.out, down_one _ _ _ _ _ (by omega) HN.out, if_neg (by rw [HL2.out]; simp)]
          exact HI.out
end HK
end Go.Proofs.Ytonicgihpjolmaa
