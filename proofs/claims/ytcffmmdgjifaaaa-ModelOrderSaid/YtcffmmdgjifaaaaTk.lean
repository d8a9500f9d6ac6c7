/- Contracts of container/heap over a variable that holds a row of elements: what each call does to the row is what Hp tells. Contracts of container/heap over a variable that holds a row: Init, Pop, Push. The contract of norm.give: one more to the first claims, as the heap tells them. The contract of norm.take: one less of the first claim, again and again, as the heap tells them. -/
import Derived.Test.YtcffmmdgjifaaaaHp
import Derived.Test.YtcffmmdgjifaaaaBase
import Derived.Test.YtcffmmdgjifaaaaPPrx1
import Derived.Test.YtcffmmdgjifaaaaPPrx2
import Derived.Deep.RegionWith
import Derived.Deep.DeepMust
import Derived.Deep.RegionLaw
import Derived.IntWalk
namespace Go.Proofs.Ytcffmmdgjifaaaa
open Go.RowKit Go.Proofs.YtcffmmdgjifaaaaW.PrintWords Go.Proofs.YtcffmmdgjifaaaaW.PrintLast Go.Proofs.YtcffmmdgjifaaaaW.PrintMore PPr
attribute [local go_sem] max2_int min2_int max_two min_two max_three min_three max_four min_four
set_option linter.unusedSimpArgs false
set_option linter.unusedVariables false
/-- claims' order -/
def ltC (a b : S71) : Bool := if a.f1 = b.f1 then (if a.f2 = b.f2 then decide (a.f0 < b.f0) else decide (a.f2 > b.f2)) else decide (a.f1 > b.f1)
namespace HC
/-- does a type have a method of this number -/
def hasM (P : Program) (t : TypeId) (name : String) (f : FuncId) (b : Bool) : Bool :=
  match P.info? t with
  | none => false
  | some ti => match ti.methods.find? (fun m => m.name == name) with
    | none => false
    | some m => m.path.size == 0 && (match m.func with | some (g, c) => g == f && c == b | none => false)
theorem hasM_val {P : Program} {t e : TypeId} {f : FuncId} {name : String} (h : hasM P t name f false = true) (hu : P.underlying t = some (.pointer e)) (a : Addr) (v : Value) (n : Nat) (w : World) (hl : (loadVar e a).run P w = .ok v w) :
    (method (n + 1) t (.pointer (some a)) name).run P w = .ok (f, v) w := by
  unfold hasM at h
  cases hi : P.info? t with
  | none => rw [hi] at h; cases h
  | some ti =>
    rw [hi] at h
    cases hm : ti.methods.find? (fun m => m.name == name) with
    | none => simp [hm] at h
    | some m =>
      simp only [hm, Bool.and_eq_true, beq_iff_eq] at h
      obtain ⟨hp, hf⟩ := h
      have hp : m.path = #[] := Array.eq_empty_of_size_eq_zero hp
      cases hf2 : m.func with
      | none => rw [hf2] at hf; cases hf
      | some gc =>
        obtain ⟨g, c⟩ := gc
        rw [hf2] at hf
        simp only [Bool.and_eq_true, beq_iff_eq] at hf
        obtain ⟨rfl, rfl⟩ := hf
        unfold method
        have hw : ∀ s : String, Builtin.ssaWrapNilChk_ #[t] t #[Value.pointer (some a), strVal "", strVal s] = pure (.pointer (some a)) := fun _ => rfl
        simp only [typeInfo, hi, hm, hp, hf2, follow, receiverAt, run_underlying hu, Place.get, asAddr]
        simp [hi, hm, hp, hf2, run_underlying hu, hl]
        simp [follow, run_underlying hu, hw, hl]
theorem hasM_ptr {P : Program} {t e : TypeId} {f : FuncId} {name : String} (h : hasM P t name f true = true) (hu : P.underlying t = some (.pointer e)) (a : Addr) (n : Nat) (w : World) :
    (method (n + 1) t (.pointer (some a)) name).run P w = .ok (f, .pointer (some a)) w := by
  unfold hasM at h
  cases hi : P.info? t with
  | none => rw [hi] at h; cases h
  | some ti =>
    rw [hi] at h
    cases hm : ti.methods.find? (fun m => m.name == name) with
    | none => simp [hm] at h
    | some m =>
      simp only [hm, Bool.and_eq_true, beq_iff_eq] at h
      obtain ⟨hp, hf⟩ := h
      have hp : m.path = #[] := Array.eq_empty_of_size_eq_zero hp
      cases hf2 : m.func with
      | none => rw [hf2] at hf; cases hf
      | some gc =>
        obtain ⟨g, c⟩ := gc
        rw [hf2] at hf
        simp only [Bool.and_eq_true, beq_iff_eq] at hf
        obtain ⟨rfl, rfl⟩ := hf
        unfold method
        simp [typeInfo, hi, hm, hp, hf2, follow, receiverAt, run_underlying hu, Place.get]
theorem nil_any (name : String) (hn : (name == "Len" || name == "Less" || name == "Swap" || name == "Pop" || name == "Push") = true) (a : Addr) (n : Nat) (w : World) : (nilAhead (n + 1) 76 (.pointer (some a)) name).run Try.prog w = .ok (some false) w := by
  simp only [Bool.or_eq_true, beq_iff_eq] at hn
  rcases hn with (((rfl | rfl) | rfl) | rfl) | rfl <;> kernel_rfl
theorem load_v (a : Addr) (v : Value) (w : World) (h : w.cell? a = some v) : (loadVar 69 a).run Try.prog w = .ok v w := by simp [go_sem, h]
theorem m_len (a : Addr) (v : Value) (n : Nat) (w : World) (h : w.cell? a = some v) : (method (n + 1) 76 (.pointer (some a)) "Len").run Try.prog w = .ok (91, v) w :=
  hasM_val (by kernel_rfl) Try.underlying76 a v n w (load_v a v w h)
theorem m_less (a : Addr) (v : Value) (n : Nat) (w : World) (h : w.cell? a = some v) : (method (n + 1) 76 (.pointer (some a)) "Less").run Try.prog w = .ok (92, v) w :=
  hasM_val (by kernel_rfl) Try.underlying76 a v n w (load_v a v w h)
theorem m_swap (a : Addr) (v : Value) (n : Nat) (w : World) (h : w.cell? a = some v) : (method (n + 1) 76 (.pointer (some a)) "Swap").run Try.prog w = .ok (93, v) w :=
  hasM_val (by kernel_rfl) Try.underlying76 a v n w (load_v a v w h)
theorem m_pop (a : Addr) (n : Nat) (w : World) : (method (n + 1) 76 (.pointer (some a)) "Pop").run Try.prog w = .ok (94, .pointer (some a)) w :=
  hasM_ptr (by kernel_rfl) Try.underlying76 a n w
theorem m_push (a : Addr) (n : Nat) (w : World) : (method (n + 1) 76 (.pointer (some a)) "Push").run Try.prog w = .ok (95, .pointer (some a)) w :=
  hasM_ptr (by kernel_rfl) Try.underlying76 a n w
abbrev S := S71
abbrev z : S := z71
/-- a variable at block p of W holds the row v, whose elements are xs; since w just the blocks of Q, and new ones, have turned -/
structure IsH (w0 w W : World) (Q : Nat → Prop) (p : Nat) (v : Value) (xs : List S) : Prop where
  B : W.heap[p]? = some (.cells #[v] 69 (0, 0))
  P : Q p ∨ w.heap.size ≤ p
  P0 : w0.heap.size ≤ p
  R : Kd.R k71 71 W w0.heap.size (fun k => Q k ∨ w.heap.size ≤ k) v xs
  K : Kept w W Q
  Z : Below w0.heap.size w0 W
theorem IsH.cell {w0 w W : World} {Q : Nat → Prop} {p : Nat} {v : Value} {xs : List S} (h : IsH w0 w W Q p v xs) : W.cell? ⟨p, 0, none⟩ = some v := by
  have := blk_cell h.B 0
  simpa using this
theorem IsH.below {w0 w W W1 : World} {Q : Nat → Prop} {p : Nat} {v : Value} {xs : List S} (h : IsH w0 w W Q p v xs) (hb : Below W.heap.size W W1) : IsH w0 w W1 Q p v xs :=
  ⟨(hb.block _ (blk_lt h.B)).trans h.B, h.P, h.P0, Kd.R_below h.R hb, h.K.below hb, h.Z.trans (hb.mono h.Z.size)⟩
/-- apart from its own variable -/
theorem IsH.apart {w0 w W : World} {Q : Nat → Prop} {p : Nat} {v : Value} {xs : List S} (h : IsH w0 w W Q p v xs) : Kd.R k71 71 W w0.heap.size (fun k => (Q k ∨ w.heap.size ≤ k) ∧ k ≠ p) v xs :=
  Kd.R_types h.R h.B (by intro q hq; simp [k71, Kd.iso, Kd.pair, Kd.int, Kd.scalar] at hq; omega)
theorem IsH.put {w0 w W : World} {Q : Nat → Prop} {p : Nat} {v v' : Value} {xs ys : List S} (h : IsH w0 w W Q p v xs) (hR : Kd.R k71 71 W w0.heap.size (fun k => Q k ∨ w.heap.size ≤ k) v' ys) : IsH w0 w (W.setCell ⟨p, 0, none⟩ v') Q p v' ys :=
  ⟨by simpa using blk_set h.B 0 v', h.P, h.P0, Kd.R_set hR h.B (by intro q hq; simp [k71, Kd.iso, Kd.pair, Kd.int, Kd.scalar] at hq; omega) 0 v', h.K.setCell h.P _, h.Z.setCell h.P0 _⟩
/-- the same, as of now -/
theorem IsH.self {w0 w W : World} {Q : Nat → Prop} {p : Nat} {v : Value} {xs : List S} (h : IsH w0 w W Q p v xs) (hQ : ∀ k, w.heap.size ≤ k → Q k) : IsH w0 W W Q p v xs :=
  ⟨h.B, h.P.elim .inl (fun k => .inl (hQ _ k)), h.P0, Kd.R_mono h.R (fun k hk => hk.elim .inl (fun k2 => .inl (hQ _ k2))), Kept.refl _ _, h.Z⟩
theorem IsH.far {w0 W : World} {Q : Nat → Prop} {p g j : Nat} {u v : Value} {xs : List S} (h : IsH w0 W W Q p v xs) (hg : ¬ Q g) (hlt : g < W.heap.size) (h0 : w0.heap.size ≤ g) : IsH w0 (W.setCell ⟨g, j, none⟩ u) (W.setCell ⟨g, j, none⟩ u) Q p v xs := by
  have hp : p ≠ g := by
    rintro rfl
    rcases h.P with h1 | h1
    · exact hg h1
    · omega
  refine ⟨blk_far h.B hp u, ?_, h.P0, Kd.R_mono (Kd.R_far (p := ⟨g, j, none⟩) h.R (fun k hk => ?_) u) (fun k hk => ?_), Kept.refl _ _, h.Z.setCell h0 _⟩
  · simpa [World.setCell] using h.P
  · rintro rfl
    rcases hk with h1 | h1
    · exact hg h1
    · omega
  · simpa [World.setCell] using hk
theorem IsH.alloc {w0 w W : World} {Q : Nat → Prop} {p : Nat} {v : Value} {xs : List S} (h : IsH w0 w W Q p v xs) (o : Obj) : IsH w0 w (W.alloc o) Q p v xs := h.below (below_alloc (Below.refl _ _) o)
theorem IsH.drewN {w0 w W : World} {Q : Nat → Prop} {p : Nat} {v : Value} {xs : List S} (h : IsH w0 w W Q p v xs) (n : Nat) : IsH w0 w (W.drewN n) Q p v xs := h.below (pw_below_drewN (Below.refl _ _) n)
theorem IsH.len {w0 w W : World} {Q : Nat → Prop} {p : Nat} {v : Value} {xs : List S} (h : IsH w0 w W Q p v xs) : ∃ A c, v = .slice A xs.length c ∧ xs.length ≤ c ∧ Kd.C k71 W A xs.length xs := Kd.R_reads h.R
theorem less_f (xs : List S) (a b : Int) (ha : 0 ≤ a) (ha' : a < xs.length) (hb : 0 ≤ b) (hb' : b < xs.length) : norm_claims_Less.f xs a b = some (ltC (xs.getD a.toNat z) (xs.getD b.toNat z)) := by
  unfold norm_claims_Less.f
  rw [if_pos ha, if_pos ha', if_pos hb, if_pos hb']
  show _ = some (ltC (rd_T71 xs a) (rd_T71 xs b))
  unfold ltC
  split
  · split <;> rfl
  · rfl
theorem less_at {w0 w W : World} {Q : Nat → Prop} {p : Nat} {v : Value} {xs : List S} (h : IsH w0 w W Q p v xs) (a b : Int) (ha : 0 ≤ a) (ha' : a < xs.length) (hb : 0 ≤ b) (hb' : b < xs.length) :
    Calls Try.prog 92 #[v, .int .i64 a, .int .i64 b] W fun e W' => e = .returned (.bool (ltC (xs.getD a.toNat z) (xs.getD b.toNat z))) ∧ IsH w0 w W' Q p v xs := by
  obtain ⟨A, c, rfl, hc, hr⟩ := h.len
  refine (norm_claims_Less.calls A c xs a b _ W hr hc (less_f xs a b ha ha' hb hb')).mono ?_
  rintro e W' ⟨rfl, hb⟩
  exact ⟨rfl, h.below hb⟩
theorem swap_f (xs : List S) (a b : Int) (ha : 0 ≤ a) (ha' : a < xs.length) (hb : 0 ≤ b) (hb' : b < xs.length) : norm_claims_Swap.f xs a b = some (Hp.swap z xs a.toNat b.toNat) := by
  unfold norm_claims_Swap.f
  rw [if_pos hb, if_pos hb', if_pos ha, if_pos ha']
  rfl
theorem swap_at {w0 w W : World} {Q : Nat → Prop} {p : Nat} {v : Value} {xs : List S} (h : IsH w0 w W Q p v xs) (a b : Int) (ha : 0 ≤ a) (ha' : a < xs.length) (hb : 0 ≤ b) (hb' : b < xs.length) :
    Calls Try.prog 93 #[v, .int .i64 a, .int .i64 b] W fun e W' => e = .returned (.tuple #[]) ∧ IsH w0 w W' Q p v (Hp.swap z xs a.toNat b.toNat) := by
  refine (norm_claims_Swap.calls (fun k => (Q k ∨ w.heap.size ≤ k) ∧ k ≠ p) v xs a b _ w0 W h.Z h.apart (swap_f xs a b ha ha' hb hb')).mono ?_
  rintro e W' ⟨rfl, hR, hZ, hK⟩
  refine ⟨rfl, ⟨blk_kept h.B hK (fun hh => hh.2 rfl), h.P, h.P0, Kd.R_mono hR ?_, h.K.then_ hK (fun k hk => hk.1), hZ⟩⟩
  intro k hk
  rcases hk with hk | hk
  · exact hk.1
  · exact .inr (Nat.le_trans h.K.1 hk)
theorem len_at {w0 w W : World} {Q : Nat → Prop} {p : Nat} {v : Value} {xs : List S} (h : IsH w0 w W Q p v xs) :
    Calls Try.prog 91 #[v] W fun e W' => e = .returned (.int .i64 (xs.length : Int)) ∧ W = W' := by
  obtain ⟨A, c, rfl, hc, hr⟩ := h.len
  clear h hr
  go_enter Try.func91, Try.ntmps91
  go_wp2
  go_ret
  exact ⟨rfl, rfl⟩
/-- one round of down -/
theorem down_stop (lt : S → S → Bool) (k : Nat) (l : List S) (i n : Nat) (h : n ≤ 2 * i + 1) : Hp.down z lt k l i n = l := by
  cases k with
  | zero => rfl
  | succ k => unfold Hp.down; rw [if_pos h]
theorem down_two (lt : S → S → Bool) (k : Nat) (l : List S) (i n : Nat) (h : 2 * i + 2 < n) (hl : lt (l.getD (2 * i + 2) z) (l.getD (2 * i + 1) z) = true) :
    Hp.down z lt (k + 1) l i n = if lt (l.getD (2 * i + 2) z) (l.getD i z) = true then Hp.down z lt k (Hp.swap z l i (2 * i + 2)) (2 * i + 2) n else l := by
  rw [Hp.down, if_neg (by omega)]
  simp only [h, hl, and_self, if_true]
theorem down_one (lt : S → S → Bool) (k : Nat) (l : List S) (i n : Nat) (h0 : 2 * i + 1 < n) (h : ¬ (2 * i + 2 < n ∧ lt (l.getD (2 * i + 2) z) (l.getD (2 * i + 1) z) = true)) :
    Hp.down z lt (k + 1) l i n = if lt (l.getD (2 * i + 1) z) (l.getD i z) = true then Hp.down z lt k (Hp.swap z l i (2 * i + 1)) (2 * i + 1) n else l := by
  rw [Hp.down, if_neg (by omega)]
  simp only [if_neg h]
def SomeBool (e : Ending) : Prop := ∃ b, e = .returned (.bool b)
theorem someBool (b : Bool) : SomeBool (.returned (.bool b)) := ⟨b, rfl⟩
set_option maxHeartbeats 2000000 in
theorem down_any {w0 w W : World} {Q : Nat → Prop} {p : Nat} {v : Value} {xs : List S} (h : IsH w0 w W Q p v xs) (i n : Nat) (hn : n ≤ xs.length) (hm : xs.length ≤ 1152921504606846976) (hi : i ≤ 1152921504606846976) :
    Calls Try.prog 70 #[.iface 76 (.pointer (some ⟨p, 0, none⟩)), .int .i64 (i : Int), .int .i64 (n : Int)] W fun e W' => SomeBool e ∧ IsH w0 w W' Q p v (Hp.down z ltC xs.length xs i n) := by
  have H := Lib.hid h
  have hn1 := nil_any "Less" rfl
  have hn2 := nil_any "Swap" rfl
  have hm1 := fun (n : Nat) (w : World) (h : w.cell? ⟨p, 0, none⟩ = some v) => m_less ⟨p, 0, none⟩ v n w h
  have hm2 := fun (n : Nat) (w : World) (h : w.cell? ⟨p, 0, none⟩ = some v) => m_swap ⟨p, 0, none⟩ v n w h
  clear h
  go_enter Try.func70, Try.ntmps70
  go_wp2
  go_loopg [7] (2 * n - i) (fun k q wr => ∃ (ys : List S) (j m : Nat), k = 2 * n - j ∧ q = .int .i64 j ∧ ys.length = xs.length ∧ n ≤ m + j ∧ j ≤ 1152921504606846976 ∧ Hid (Hp.down z ltC m ys j n = Hp.down z ltC xs.length xs i n) ∧ IsH w0 w wr Q p v ys)
  case atStart => exact ⟨xs, i, xs.length, rfl, rfl, rfl, by omega, hi, Lib.hid rfl, H.out⟩
  case round =>
    obtain ⟨ys, j, m, hk, rfl, hlen, hmj, hj, hD, hI⟩ := hrel
    have HK := Lib.hid hk
    have HL := Lib.hid hlen
    have HI := Lib.hid hI
    have hcell := hI.cell
    clear H hk hlen hI
    have hlen : ys.length ≤ xs.length := by rw [HL.out]; exact Nat.le_refl _
    have hlen2 : xs.length ≤ ys.length := by rw [HL.out]; exact Nat.le_refl _
    by_cases h1 : n ≤ 2 * j + 1
    · go_wp2
      go_ret
      refine ⟨someBool _, ?_⟩
      rw [← hD.out, down_stop _ _ _ _ _ h1]
      exact HI.out
    · obtain ⟨m, rfl⟩ : ∃ m', m = m' + 1 := ⟨m - 1, by omega⟩
      have e1 : (2 * (j : Int) + 1).toNat = 2 * j + 1 := by omega
      have e2 : (2 * (j : Int) + 1 + 1).toNat = 2 * j + 2 := by omega
      have E1 := Lib.hid e1
      have E2 := Lib.hid e2
      clear e1 e2
      by_cases h2 : 2 * j + 2 < n
      · cases hl : ltC (ys.getD (2 * j + 2) z) (ys.getD (2 * j + 1) z) with
        | true =>
          have HL1 := Lib.hid hl
          cases hl2 : ltC (ys.getD (2 * j + 2) z) (ys.getD j z) with
          | true =>
            have HL2 := Lib.hid hl2
            have S1 := Lib.hid trivial
            clear hl hl2
            go_wp2_with (first
              | (go_at_call 92; clear S1; go_must ((with_reducible refine (less_at HI.out (2 * (j : Int) + 1 + 1) (2 * (j : Int) + 1) (by omega) (by omega) (by omega) (by omega)).mono ?_); rintro e w1 ⟨rfl, hI⟩; rw [E1.out, E2.out, HL1.out]; clear hcell; have hcell := hI.cell; replace HI := Lib.hid hI; clear hI))
              | (go_at_call 92; go_must ((with_reducible refine (less_at HI.out (2 * (j : Int) + 1 + 1) (j : Int) (by omega) (by omega) (by omega) (by omega)).mono ?_); rintro e w1 ⟨rfl, hI⟩; rw [E2.out, Int.toNat_natCast, HL2.out]; clear hcell; have hcell := hI.cell; replace HI := Lib.hid hI; clear hI))
              | (go_at_call 93; go_must ((with_reducible refine (swap_at HI.out (j : Int) (2 * (j : Int) + 1 + 1) (by omega) (by omega) (by omega) (by omega)).mono ?_); rintro e w1 ⟨rfl, hI⟩; rw [E2.out, Int.toNat_natCast] at hI; clear hcell; have hcell := hI.cell; replace HI := Lib.hid hI; clear hI)))
            go_roundg (2 * n - (2 * j + 2))
            case measure => have := HK.out; omega
            case rel => exact ⟨_, 2 * j + 2, m, rfl, by go_num, by rw [Hp.swap_len]; exact HL.out, by omega, by omega, Lib.hid (by rw [← hD.out, down_two _ _ _ _ _ h2 HL1.out, if_pos HL2.out]), HI.out⟩
          | false =>
            have HL2 := Lib.hid hl2
            have S1 := Lib.hid trivial
            clear hl hl2
            go_wp2_with (first
              | (go_at_call 92; clear S1; go_must ((with_reducible refine (less_at HI.out (2 * (j : Int) + 1 + 1) (2 * (j : Int) + 1) (by omega) (by omega) (by omega) (by omega)).mono ?_); rintro e w1 ⟨rfl, hI⟩; rw [E1.out, E2.out, HL1.out]; clear hcell; have hcell := hI.cell; replace HI := Lib.hid hI; clear hI))
              | (go_at_call 92; go_must ((with_reducible refine (less_at HI.out (2 * (j : Int) + 1 + 1) (j : Int) (by omega) (by omega) (by omega) (by omega)).mono ?_); rintro e w1 ⟨rfl, hI⟩; rw [E2.out, Int.toNat_natCast, HL2.out]; clear hcell; have hcell := hI.cell; replace HI := Lib.hid hI; clear hI)))
            go_ret
            refine ⟨someBool _, ?_⟩
            rw [← hD.out, down_two _ _ _ _ _ h2 HL1.out, if_neg (by rw [HL2.out]; simp)]
            exact HI.out
        | false =>
          have HL1 := Lib.hid hl
          have HN := Lib.hid (show ¬ (2 * j + 2 < n ∧ ltC (ys.getD (2 * j + 2) z) (ys.getD (2 * j + 1) z) = true) from fun hh => by rw [hl] at hh; simp at hh)
          cases hl2 : ltC (ys.getD (2 * j + 1) z) (ys.getD j z) with
          | true =>
            have HL2 := Lib.hid hl2
            have S1 := Lib.hid trivial
            clear hl hl2
            go_wp2_with (first
              | (go_at_call 92; clear S1; go_must ((with_reducible refine (less_at HI.out (2 * (j : Int) + 1 + 1) (2 * (j : Int) + 1) (by omega) (by omega) (by omega) (by omega)).mono ?_); rintro e w1 ⟨rfl, hI⟩; rw [E1.out, E2.out, HL1.out]; clear hcell; have hcell := hI.cell; replace HI := Lib.hid hI; clear hI))
              | (go_at_call 92; go_must ((with_reducible refine (less_at HI.out (2 * (j : Int) + 1) (j : Int) (by omega) (by omega) (by omega) (by omega)).mono ?_); rintro e w1 ⟨rfl, hI⟩; rw [E1.out, Int.toNat_natCast, HL2.out]; clear hcell; have hcell := hI.cell; replace HI := Lib.hid hI; clear hI))
              | (go_at_call 93; go_must ((with_reducible refine (swap_at HI.out (j : Int) (2 * (j : Int) + 1) (by omega) (by omega) (by omega) (by omega)).mono ?_); rintro e w1 ⟨rfl, hI⟩; rw [E1.out, Int.toNat_natCast] at hI; clear hcell; have hcell := hI.cell; replace HI := Lib.hid hI; clear hI)))
            go_roundg (2 * n - (2 * j + 1))
            case measure => have := HK.out; omega
            case rel => exact ⟨_, 2 * j + 1, m, rfl, by go_num, by rw [Hp.swap_len]; exact HL.out, by omega, by omega, Lib.hid (by rw [← hD.out, down_one _ _ _ _ _ (by omega) HN.out, if_pos HL2.out]), HI.out⟩
          | false =>
            have HL2 := Lib.hid hl2
            have S1 := Lib.hid trivial
            clear hl hl2
            go_wp2_with (first
              | (go_at_call 92; clear S1; go_must ((with_reducible refine (less_at HI.out (2 * (j : Int) + 1 + 1) (2 * (j : Int) + 1) (by omega) (by omega) (by omega) (by omega)).mono ?_); rintro e w1 ⟨rfl, hI⟩; rw [E1.out, E2.out, HL1.out]; clear hcell; have hcell := hI.cell; replace HI := Lib.hid hI; clear hI))
              | (go_at_call 92; go_must ((with_reducible refine (less_at HI.out (2 * (j : Int) + 1) (j : Int) (by omega) (by omega) (by omega) (by omega)).mono ?_); rintro e w1 ⟨rfl, hI⟩; rw [E1.out, Int.toNat_natCast, HL2.out]; clear hcell; have hcell := hI.cell; replace HI := Lib.hid hI; clear hI)))
            go_ret
            refine ⟨someBool _, ?_⟩
            rw [← hD.out, down_one _ _ _ _ _ (by omega) HN.out, if_neg (by rw [HL2.out]; simp)]
            exact HI.out
      · have HN := Lib.hid (show ¬ (2 * j + 2 < n ∧ ltC (ys.getD (2 * j + 2) z) (ys.getD (2 * j + 1) z) = true) from fun hh => h2 hh.1)
        cases hl2 : ltC (ys.getD (2 * j + 1) z) (ys.getD j z) with
        | true =>
          have HL2 := Lib.hid hl2
          clear hl2
          go_wp2_with (first
            | (go_at_call 92; go_must ((with_reducible refine (less_at HI.out (2 * (j : Int) + 1) (j : Int) (by omega) (by omega) (by omega) (by omega)).mono ?_); rintro e w1 ⟨rfl, hI⟩; rw [E1.out, Int.toNat_natCast, HL2.out]; clear hcell; have hcell := hI.cell; replace HI := Lib.hid hI; clear hI))
            | (go_at_call 93; go_must ((with_reducible refine (swap_at HI.out (j : Int) (2 * (j : Int) + 1) (by omega) (by omega) (by omega) (by omega)).mono ?_); rintro e w1 ⟨rfl, hI⟩; rw [E1.out, Int.toNat_natCast] at hI; clear hcell; have hcell := hI.cell; replace HI := Lib.hid hI; clear hI)))
          go_roundg (2 * n - (2 * j + 1))
          case measure => have := HK.out; omega
          case rel => exact ⟨_, 2 * j + 1, m, rfl, by go_num, by rw [Hp.swap_len]; exact HL.out, by omega, by omega, Lib.hid (by rw [← hD.out, down_one _ _ _ _ _ (by omega) HN.out, if_pos HL2.out]), HI.out⟩
        | false =>
          have HL2 := Lib.hid hl2
          clear hl2
          go_wp2_with (first
            | (go_at_call 92; go_must ((with_reducible refine (less_at HI.out (2 * (j : Int) + 1) (j : Int) (by omega) (by omega) (by omega) (by omega)).mono ?_); rintro e w1 ⟨rfl, hI⟩; rw [E1.out, Int.toNat_natCast, HL2.out]; clear hcell; have hcell := hI.cell; replace HI := Lib.hid hI; clear hI)))
          go_ret
          refine ⟨someBool _, ?_⟩
          rw [← hD.out, down_one _ _ _ _ _ (by omega) HN.out, if_neg (by rw [HL2.out]; simp)]
          exact HI.out
end HC
end Go.Proofs.Ytcffmmdgjifaaaa
namespace Go.Proofs.Ytcffmmdgjifaaaa
open Go.RowKit Go.Proofs.YtcffmmdgjifaaaaW.PrintWords Go.Proofs.YtcffmmdgjifaaaaW.PrintLast Go.Proofs.YtcffmmdgjifaaaaW.PrintMore PPr
attribute [local go_sem] max2_int min2_int max_two min_two max_three min_three max_four min_four
set_option linter.unusedSimpArgs false
set_option linter.unusedVariables false
namespace HC
set_option maxHeartbeats 1000000 in
theorem init_any {w0 w W : World} {Q : Nat → Prop} {p : Nat} {v : Value} {xs : List S} (h : IsH w0 w W Q p v xs) (hm : xs.length ≤ 1152921504606846976) :
    Calls Try.prog 66 #[.iface 76 (.pointer (some ⟨p, 0, none⟩))] W fun e W' => e = .returned (.tuple #[]) ∧ IsH w0 w W' Q p v (Hp.init z ltC xs) := by
  have H := Lib.hid h
  have hn1 := nil_any "Len" rfl
  have hm1 := fun (n : Nat) (w : World) (h : w.cell? ⟨p, 0, none⟩ = some v) => m_len ⟨p, 0, none⟩ v n w h
  have hcell := h.cell
  clear h
  go_enter Try.func66, Try.ntmps66
  go_wp2_with (go_at_call 91; go_must ((with_reducible refine (len_at H.out).mono ?_); rintro e w1 ⟨rfl, rfl⟩))
  go_loopg [3] (xs.length + 1) (fun k q wr => ∃ (ys : List S) (j : Int) (m : Nat), m ≤ k ∧ q = .int .i64 j ∧ Hid (j = (m : Int) - 1) ∧ -1 ≤ j ∧ j < 1152921504606846976 ∧ m ≤ xs.length ∧ Hid (ys.length = xs.length) ∧ Hid (Hp.initTo z ltC m ys = Hp.init z ltC xs) ∧ IsH w0 w wr Q p v ys)
  case atStart => exact ⟨xs, (xs.length : Int) / 2 - 1, xs.length / 2, by omega, rfl, Lib.hid (by omega), by omega, by omega, by omega, Lib.hid rfl, Lib.hid rfl, H.out⟩
  case round =>
    obtain ⟨ys, j, m, hk, rfl, hj, hj0, hj1, hm2, hl, hD, hI⟩ := hrel
    have HK := Lib.hid hk
    have HI := Lib.hid hI
    clear hcell
    have hcell := hI.cell
    clear H hk hI
    by_cases h0 : 0 ≤ j
    · obtain ⟨i, rfl⟩ : ∃ i : Nat, j = i := ⟨j.toNat, by omega⟩
      obtain ⟨m, rfl⟩ : ∃ m', m = m' + 1 := ⟨m - 1, by have := hj.out; omega⟩
      have hi : i ≤ m := by have := hj.out; omega
      have hi2 : m ≤ i := by have := hj.out; omega
      obtain rfl : i = m := by omega
      clear hi hi2
      go_wp2_with (go_at_call 70; go_must ((with_reducible refine (down_any HI.out i xs.length (by have := hl.out; omega) (by have := hl.out; omega) (by omega)).mono ?_); rintro e w1 ⟨⟨b, rfl⟩, hI⟩; clear hcell; have hcell := hI.cell; replace HI := Lib.hid hI; clear hI))
      go_roundg i
      case measure => have := HK.out; omega
      case rel => exact ⟨_, (i : Int) - 1, i, Nat.le_refl _, rfl, Lib.hid rfl, by omega, by omega, by omega, Lib.hid (by rw [Hp.down_len]; exact hl.out), Lib.hid (by have := hD.out; rw [Hp.initTo, hl.out] at this; rw [hl.out]; exact this), HI.out⟩
    · have hm0 : m ≤ 0 := by have := hj.out; omega
      obtain rfl : m = 0 := by omega
      go_wp2
      go_end0
      exact ⟨rfl, by rw [← hD.out]; exact HI.out⟩
/-- an element as a value -/
def elV (x : S) : Value := .agg #[.int .i64 x.f0, .int .i64 x.f1, .int .i64 x.f2]
set_option maxHeartbeats 1000000 in
theorem popm_any {w0 w W : World} {Q : Nat → Prop} {p : Nat} {v : Value} {xs : List S} (h : IsH w0 w W Q p v xs) (hl : 0 < xs.length) (hm : xs.length ≤ 1152921504606846976) :
    Calls Try.prog 94 #[.pointer (some ⟨p, 0, none⟩)] W fun e W' => e = .returned (.iface 71 (elV (xs.getD (xs.length - 1) z))) ∧ ∃ v', IsH w0 w W' Q p v' (xs.take (xs.length - 1)) := by
  obtain ⟨g, cap, rfl, hg, hg2, cells, hgb⟩ := Kd.R_form h.R hl
  obtain ⟨c, hcl, hM, hcc, hfr⟩ := Kd.R_elem h.R z ((xs.length - 1 : Nat) : Int) (by omega) (by omega)
  obtain rfl := k71_openM hM
  have hx0 : W.cell? ⟨g, (xs.length - 1) * 3, none⟩ = some (.int .i64 (xs.getD (xs.length - 1) z).f0) := hcc 0 _ rfl
  have hx1 : W.cell? ⟨g, (xs.length - 1) * 3 + 1, none⟩ = some (.int .i64 (xs.getD (xs.length - 1) z).f1) := hcc 1 _ rfl
  have hx2 : W.cell? ⟨g, (xs.length - 1) * 3 + 2, none⟩ = some (.int .i64 (xs.getD (xs.length - 1) z).f2) := hcc 2 _ rfl
  have hpf := blk_frozen h.B 0
  have hcell := h.cell
  have hplt : p < W.heap.size := blk_lt h.B
  have hne : g ≠ p := by
    rintro rfl
    have h1 := h.B
    rw [hgb] at h1
    injection h1 with h1
    injection h1 with _ h1
    exact absurd h1 (by decide)
  obtain ⟨N, hN⟩ : ∃ N, xs.length = N + 1 := ⟨xs.length - 1, by omega⟩
  obtain ⟨X, hX⟩ : ∃ X, xs.getD (xs.length - 1) z = X := ⟨_, rfl⟩
  have HX := Lib.hid hX
  have HN := Lib.hid hN
  have hcap : N + 1 ≤ cap := by have := (Kd.R_reads' h.R).2.1; omega
  rw [hX] at hx0 hx1 hx2
  rw [hN, Nat.add_sub_cancel] at hx0 hx1 hx2
  have H := Lib.hid h
  rw [hN] at hcell
  clear h hcl hM hcc hfr hX hN hl
  have hm : N ≤ 1152921504606846976 := by have := HN.out; omega
  rw [HN.out]
  go_enter Try.func94, Try.ntmps94
  go_wp2
  go_ret
  refine ⟨?_, _, ((H.out.put ?_).alloc _)⟩
  · rw [← HN.out, HX.out]; rfl
  · rw [Nat.add_sub_cancel]
    have h1 := H.out.R
    rw [HN.out] at h1
    exact Kd.R_take h1 (by rw [HN.out]; omega)
theorem down_0 {w0 w W : World} {Q : Nat → Prop} {p : Nat} {v : Value} {xs : List S} (h : IsH w0 w W Q p v xs) (n : Nat) (hn : n ≤ xs.length) (hm : xs.length ≤ 1152921504606846976) :
    Calls Try.prog 70 #[.iface 76 (.pointer (some ⟨p, 0, none⟩)), .int .i64 0, .int .i64 (n : Int)] W fun e W' => SomeBool e ∧ IsH w0 w W' Q p v (Hp.down z ltC xs.length xs 0 n) := down_any h 0 n hn hm (by omega)
set_option maxHeartbeats 1000000 in
theorem pop_any {w0 w W : World} {Q : Nat → Prop} {p : Nat} {v : Value} {xs : List S} (h : IsH w0 w W Q p v xs) (hl : 0 < xs.length) (hm : xs.length ≤ 1152921504606846976) :
    Calls Try.prog 67 #[.iface 76 (.pointer (some ⟨p, 0, none⟩))] W fun e W' => e = .returned (.iface 71 (elV ((Hp.pop z ltC xs).getD (xs.length - 1) z))) ∧ ∃ v', IsH w0 w W' Q p v' ((Hp.pop z ltC xs).take (xs.length - 1)) := by
  have HI := Lib.hid h
  have hn1 := nil_any "Len" rfl
  have hn2 := nil_any "Swap" rfl
  have hn3 := nil_any "Pop" rfl
  have hm1 := fun (n : Nat) (w : World) (h : w.cell? ⟨p, 0, none⟩ = some v) => m_len ⟨p, 0, none⟩ v n w h
  have hm2 := fun (n : Nat) (w : World) (h : w.cell? ⟨p, 0, none⟩ = some v) => m_swap ⟨p, 0, none⟩ v n w h
  have hm3 := fun (n : Nat) (w : World) => m_pop ⟨p, 0, none⟩ n w
  have hcell := h.cell
  clear h
  obtain ⟨N, hN⟩ : ∃ N, xs.length = N + 1 := ⟨xs.length - 1, by omega⟩
  have HN := Lib.hid hN
  have hm : N ≤ 1152921504606846976 := by omega
  have EN := Lib.hid (show ((xs.length : Int) - 1).toNat = N by omega)
  have hxl : xs.length ≤ N + 1 := by omega
  have hxl2 : N + 1 ≤ xs.length := by omega
  clear hN hl
  go_enter Try.func67, Try.ntmps67
  go_wp2_with (first
    | (go_at_call 91; go_must ((with_reducible refine (len_at HI.out).mono ?_); rintro e w1 ⟨rfl, rfl⟩; rw [HN.out]))
    | (go_at_call 93; go_must ((with_reducible refine (swap_at HI.out 0 (N : Int) (by omega) (by omega) (by omega) (by omega)).mono ?_); rintro e w1 ⟨rfl, hI⟩; replace hI : IsH w0 w w1 Q p v (Hp.swap z xs 0 N) := hI; clear hcell; have hcell := hI.cell; replace HI := Lib.hid hI; clear hI))
    | (go_at_call 70; go_must ((with_reducible refine (down_0 HI.out N (by rw [Hp.swap_len]; omega) (by rw [Hp.swap_len]; omega)).mono ?_); rintro e w1 ⟨⟨b, rfl⟩, hI⟩; rw [Hp.swap_len] at hI; clear hcell; have hcell := hI.cell; replace HI := Lib.hid hI; clear hI))
    | (go_at_call 94; go_must ((with_reducible refine (popm_any HI.out (by rw [Hp.down_len, Hp.swap_len]; omega) (by rw [Hp.down_len, Hp.swap_len]; omega)).mono ?_); rintro e w1 ⟨rfl, v', hI⟩; rw [Hp.down_len, Hp.swap_len] at hI ⊢; replace HI := Lib.hid hI; clear hI)))
  go_ret
  have e : Hp.down z ltC xs.length (Hp.swap z xs 0 N) 0 N = Hp.pop z ltC xs := by unfold Hp.pop; rw [HN.out, Nat.add_sub_cancel]
  have h1 := HI.out
  rw [e] at h1 ⊢
  exact ⟨rfl, _, h1⟩
theorem IsH.grown {w0 w W W1 : World} {Q : Nat → Prop} {p : Nat} {v v1 : Value} {xs ys : List S} (h : IsH w0 w W Q p v xs) (hg : W.grownBy W1 v.ownBlock) (hR : Kd.R k71 71 W1 w0.heap.size (fun k => Q k ∨ w.heap.size ≤ k) v1 ys) (hZ : Below w0.heap.size w0 W1) : IsH w0 w (W1.setCell ⟨p, 0, none⟩ v1) Q p v1 ys := by
  have hne := Kd.R_ne h.R h.B (by decide)
  have hB : W1.heap[p]? = some (.cells #[v] 69 (0, 0)) := (hg.block p (blk_lt h.B) hne).trans h.B
  exact ⟨by simpa using blk_set hB 0 v1, h.P, h.P0, Kd.R_set hR hB (by intro q hq; simp [k71, Kd.iso, Kd.pair, Kd.int, Kd.scalar] at hq; omega) 0 v1, (Kept.of_grown hg h.K (fun k hk => h.R.1 k hk)).setCell h.P _, hZ.setCell h.P0 _⟩
theorem info_el : (Try.prog.info? 71).map (fun i => (i.zero, i.size, i.bytes)) = some (some (.agg #[.int .i64 0, .int .i64 0, .int .i64 0]), 3, 24) := by kernel_rfl
theorem assert_el (x : S) (W : World) : (Instr.typeAssert (.iface 71 (elV x)) 20 71 false).run Try.prog W = .ok (.agg #[.int .i64 x.f0, .int .i64 x.f1, .int .i64 x.f2]) W := by kernel_rfl
set_option maxHeartbeats 1000000 in
theorem pushm_any {w0 w W : World} {Q : Nat → Prop} {p : Nat} {v : Value} {xs : List S} (h : IsH w0 w W Q p v xs) (x : S) (hm : xs.length ≤ 1099511627776) :
    Calls Try.prog 95 #[.pointer (some ⟨p, 0, none⟩), .iface 71 (elV x)] W fun e W' => e = .returned (.tuple #[]) ∧ ∃ v', IsH w0 w W' Q p v' (xs ++ [x]) := by
  have H := Lib.hid h
  have hta := assert_el x
  have hcell := h.cell
  have hpf := blk_frozen h.B 0
  have hplt : p < W.heap.size := blk_lt h.B
  have ⟨A, c, hv, hc, hr⟩ := h.len
  subst hv
  clear h hc hr
  go_enter Try.func95, Try.ntmps95
  go_wp2_with fail
  have hne := Kd.R_ne H.out.R H.out.B (by decide)
  go_region_law
    ((refine Kd.R_append_step k71 (w0 := w0) (W := W.drew) w0.heap.size (by rfl) (.tmp 7) (.tmp 10) 69 71 (.agg #[.int .i64 0, .int .i64 0, .int .i64 0]) 24 (by rfl) Try.underlying69 info_el rfl (by decide) (by omega) (.slice A xs.length c) xs x [.int .i64 x.f0, .int .i64 x.f1, .int .i64 x.f2] (fun k => Q k ∨ w.heap.size ≤ k) (fun _ => False) (by rfl) (by rfl) (k71_mkM _ _ _ x) (fun _ hk => hk.elim) (fun k hk => .inr (Nat.le_trans H.out.K.1 hk)) (Kd.R_drew H.out.R) (below_drew H.out.Z) H.out.Z.size (by omega) ?_; intro v1 w1 hR1 hb1 hg1 hat1; obtain ⟨A1, c1, rfl⟩ := Kd.R_slice hR1; have hB1 : w1.heap[p]? = some (.cells #[.slice A xs.length c] 69 (0, 0)) := (hg1.block p hplt hne).trans H.out.B; have hc1 : w1.cell? ⟨p, 0, none⟩ = some (.slice A xs.length c) := (by simpa using blk_cell hB1 0); have hf1 := blk_frozen hB1 0; have HR1 := Lib.hid hR1; have HB1 := Lib.hid hb1; have HG1 := Lib.hid hg1; have HBB := Lib.hid hB1; clear hR1 hb1 hg1 hat1 hB1))
  all_goals go_end0
  all_goals exact ⟨rfl, _, (H.out.below (below_drew (Below.refl _ _))).grown HG1.out (by have hr := HR1.out; rw [List.length_append, List.length_singleton] at hr; exact hr) HB1.out⟩
theorem up_stop (lt : S → S → Bool) (k : Nat) (l : List S) (j : Nat) (h : (j - 1) / 2 = j) : Hp.up z lt k l j = l := by
  cases k with
  | zero => rfl
  | succ k => unfold Hp.up; rw [if_pos h]
theorem up_one (lt : S → S → Bool) (k : Nat) (l : List S) (j : Nat) (h : ¬ (j - 1) / 2 = j) : Hp.up z lt (k + 1) l j = if lt (l.getD j z) (l.getD ((j - 1) / 2) z) = true then Hp.up z lt k (Hp.swap z l ((j - 1) / 2) j) ((j - 1) / 2) else l := by
  rw [Hp.up, if_neg h]
set_option maxHeartbeats 2000000 in
theorem up_any {w0 w W : World} {Q : Nat → Prop} {p : Nat} {v : Value} {xs : List S} (h : IsH w0 w W Q p v xs) (j0 : Nat) (hj : j0 < xs.length) (hm : xs.length ≤ 1152921504606846976) (m0 : Nat) (hm0 : j0 < m0) :
    Calls Try.prog 71 #[.iface 76 (.pointer (some ⟨p, 0, none⟩)), .int .i64 (j0 : Int)] W fun e W' => e = .returned (.tuple #[]) ∧ IsH w0 w W' Q p v (Hp.up z ltC m0 xs j0) := by
  have H := Lib.hid h
  have hn1 := nil_any "Less" rfl
  have hn2 := nil_any "Swap" rfl
  have hm1 := fun (n : Nat) (w : World) (h : w.cell? ⟨p, 0, none⟩ = some v) => m_less ⟨p, 0, none⟩ v n w h
  have hm2 := fun (n : Nat) (w : World) (h : w.cell? ⟨p, 0, none⟩ = some v) => m_swap ⟨p, 0, none⟩ v n w h
  clear h
  go_enter Try.func71, Try.ntmps71
  go_wp2
  go_loopg [1] j0 (fun k q wr => ∃ (ys : List S) (j m : Nat), j ≤ k ∧ q = .int .i64 j ∧ Hid (ys.length = xs.length) ∧ j < xs.length ∧ j < m ∧ Hid (Hp.up z ltC m ys j = Hp.up z ltC m0 xs j0) ∧ IsH w0 w wr Q p v ys)
  case atStart => exact ⟨xs, j0, m0, Nat.le_refl _, rfl, Lib.hid rfl, hj, hm0, Lib.hid rfl, H.out⟩
  case round =>
    obtain ⟨ys, j, m, hk, rfl, hL, hjl, hjm, hD, hI⟩ := hrel
    have HK := Lib.hid hk
    have HI := Lib.hid hI
    have hcell := hI.cell
    clear H hk hI
    have hlen : ys.length ≤ xs.length := by rw [hL.out]; exact Nat.le_refl _
    have hlen2 : xs.length ≤ ys.length := by rw [hL.out]; exact Nat.le_refl _
    cases j with
    | zero =>
      go_wp2
      go_end0
      exact ⟨rfl, by rw [← hD.out, up_stop _ _ _ _ rfl]; exact HI.out⟩
    | succ j =>
      obtain ⟨m, rfl⟩ : ∃ m', m = m' + 1 := ⟨m - 1, by omega⟩
      obtain ⟨i, hi⟩ : ∃ i, j / 2 = i := ⟨_, rfl⟩
      have hil : i ≤ j := by omega
      have hii : (j : Int) / 2 = (i : Int) := by omega
      have hne1 : ((i : Int) == (j : Int) + 1) = false := beq_eq_false_iff_ne.2 (by omega)
      have HNE := Lib.hid (show ¬ (j + 1 - 1) / 2 = j + 1 by omega)
      have HE := Lib.hid (show (j + 1 - 1) / 2 = i by omega)
      have EJ := Lib.hid (show ((j : Int) + 1).toNat = j + 1 by omega)
      clear hi
      cases hl : ltC (ys.getD (j + 1) z) (ys.getD i z) with
      | true =>
        have HL1 := Lib.hid hl
        clear hl
        go_wp2_with (first
          | (go_at_call 92; go_must ((with_reducible refine (less_at HI.out ((j : Int) + 1) (i : Int) (by omega) (by omega) (by omega) (by omega)).mono ?_); rintro e w1 ⟨rfl, hI⟩; rw [EJ.out, Int.toNat_natCast, HL1.out]; clear hcell; have hcell := hI.cell; replace HI := Lib.hid hI; clear hI))
          | (go_at_call 93; go_must ((with_reducible refine (swap_at HI.out (i : Int) ((j : Int) + 1) (by omega) (by omega) (by omega) (by omega)).mono ?_); rintro e w1 ⟨rfl, hI⟩; rw [EJ.out, Int.toNat_natCast] at hI; clear hcell; have hcell := hI.cell; replace HI := Lib.hid hI; clear hI)))
        go_roundg i
        case measure => have := HK.out; omega
        case rel => exact ⟨_, i, m, Nat.le_refl _, rfl, Lib.hid (by rw [Hp.swap_len]; exact hL.out), by omega, by omega, Lib.hid (by rw [← hD.out, up_one _ _ _ _ HNE.out, HE.out, if_pos HL1.out]), HI.out⟩
      | false =>
        have HL1 := Lib.hid hl
        clear hl
        go_wp2_with (first
          | (go_at_call 92; go_must ((with_reducible refine (less_at HI.out ((j : Int) + 1) (i : Int) (by omega) (by omega) (by omega) (by omega)).mono ?_); rintro e w1 ⟨rfl, hI⟩; rw [EJ.out, Int.toNat_natCast, HL1.out]; clear hcell; have hcell := hI.cell; replace HI := Lib.hid hI; clear hI)))
        go_end0
        exact ⟨rfl, by rw [← hD.out, up_one _ _ _ _ HNE.out, HE.out, if_neg (by rw [HL1.out]; simp)]; exact HI.out⟩
set_option maxHeartbeats 1000000 in
theorem push_any {w0 w W : World} {Q : Nat → Prop} {p : Nat} {v : Value} {xs : List S} (h : IsH w0 w W Q p v xs) (x : S) (hm : xs.length ≤ 1099511627776) :
    Calls Try.prog 68 #[.iface 76 (.pointer (some ⟨p, 0, none⟩)), .iface 71 (elV x)] W fun e W' => e = .returned (.tuple #[]) ∧ ∃ v', IsH w0 w W' Q p v' (Hp.push z ltC xs x) := by
  have HI := Lib.hid h
  have hn1 := nil_any "Len" rfl
  have hn3 := nil_any "Push" rfl
  have hm1 := m_len ⟨p, 0, none⟩
  have hm3 := fun (n : Nat) (w : World) => m_push ⟨p, 0, none⟩ n w
  clear h
  obtain ⟨N, hN⟩ : ∃ N, xs.length = N := ⟨_, rfl⟩
  have HN := Lib.hid hN
  have HL := Lib.hid (show (xs ++ [x]).length = N + 1 by rw [List.length_append, List.length_singleton, hN])
  have hm' : N ≤ 1099511627776 := by omega
  clear hN hm
  go_enter Try.func68, Try.ntmps68
  go_wp2_with (first
    | (go_at_call 95; go_must ((with_reducible refine (pushm_any HI.out x (by rw [HN.out]; exact hm')).mono ?_); rintro e w1 ⟨rfl, v', hI⟩; have hcell := hI.cell; replace HI := Lib.hid hI; clear hI))
    | (go_at_call 91; go_must ((with_reducible refine (len_at HI.out).mono ?_); rintro e w1 ⟨rfl, rfl⟩; rw [HL.out]))
    | (go_at_call 71; go_must ((with_reducible refine (up_any HI.out N (by rw [HL.out]; omega) (by rw [HL.out]; omega) (N + 1) (by omega)).mono ?_); rintro e w1 ⟨rfl, hI⟩; replace HI := Lib.hid hI; clear hI)))
  go_end0
  have e : Hp.up z ltC (N + 1) (xs ++ [x]) N = Hp.push z ltC xs x := by unfold Hp.push; rw [HN.out]
  have h1 := HI.out
  rw [e] at h1
  exact ⟨rfl, _, h1⟩
end HC
end Go.Proofs.Ytcffmmdgjifaaaa
namespace Go.Proofs.Ytcffmmdgjifaaaa
open Go.RowKit Go.Proofs.YtcffmmdgjifaaaaW.PrintWords Go.Proofs.YtcffmmdgjifaaaaW.PrintLast Go.Proofs.YtcffmmdgjifaaaaW.PrintMore PPr HC
attribute [local go_sem] max2_int min2_int max_two min_two max_three min_three max_four min_four
set_option linter.unusedSimpArgs false
set_option linter.unusedVariables false
/-- one more to the first one, so many times -/
def giveTo : Nat → List Int → List S71 → Option (List Int)
  | 0, q, _ => some q
  | n + 1, q, l => if l.length = 0 then none else
    if 0 ≤ ((Hp.pop z71 ltC l).getD (l.length - 1) z71).f0 ∧ ((Hp.pop z71 ltC l).getD (l.length - 1) z71).f0 < (q.length : Int) then
      giveTo n (q.set ((Hp.pop z71 ltC l).getD (l.length - 1) z71).f0.toNat (wrap64 (rd q ((Hp.pop z71 ltC l).getD (l.length - 1) z71).f0 + 1))) ((Hp.pop z71 ltC l).take (l.length - 1))
    else none
def giveF (q : List Int) (l : List S71) (many : Int) : Option (List Int) := if (l.length ≤ 1152921504606846976 ∧ many ≤ 4611686018427387904) ∧ 0 ≤ many then giveTo many.toNat q (Hp.init z71 ltC l) else none
theorem assert_ok (x : S71) (W : World) : (Instr.typeAssert (.iface 71 (elV x)) 20 71 false).run Try.prog W = .ok (.agg #[.int .i64 x.f0, .int .i64 x.f1, .int .i64 x.f2]) W := by kernel_rfl
theorem own_keep {W W2 : World} {base g N cap : Nat} {e : TypeId} {Q : Nat → Prop} {cs : List Value} (h : W.ownsRow base e 1 (.slice (some ⟨g, 0, none⟩) N cap) N cs) (hK : Kept W W2 Q) (hg : g < W.heap.size) (hQ : ¬ Q g) : W2.ownsRow base e 1 (.slice (some ⟨g, 0, none⟩) N cap) N cs :=
  own_move h (fun k hk => by
    have hk : g = k := by simpa [Value.ownBlock] using hk
    subst hk
    exact hK.2 g hg hQ)
theorem kept_mono {W W2 : World} {Q S : Nat → Prop} (hK : Kept W W2 Q) (h : ∀ k, k < W.heap.size → Q k → S k) : Kept W W2 S := ⟨hK.1, fun i hi hn => hK.2 i hi (fun hq => hn (h i hi hq))⟩
theorem field_0 (a b c : Value) (W : World) : (Instr.field 71 (.agg #[a, b, c]) 0).run Try.prog W = .ok a W := by kernel_rfl
/-- what the rounds keep -/
structure Rnd (w0 w wr : World) (S : Nat → Prop) (Q : Nat → Prop) (u : Value) (N : Nat) (q : List Int) (v : Value) (ys : List S71) : Prop where
  O : wr.ownsRow w0.heap.size 3 1 u N (nums .i64 q)
  I : IsH w0 wr wr Q w.heap.size v ys
  K : Kept w wr S
theorem giveTo_succ {n : Nat} {q : List Int} {l : List S71} {r : List Int} (h : giveTo (n + 1) q l = some r) :
    ∃ x, (Hp.pop z71 ltC l).getD (l.length - 1) z71 = x ∧ 0 < l.length ∧ 0 ≤ x.f0 ∧ x.f0 < (q.length : Int) ∧ giveTo n (q.set x.f0.toNat (wrap64 (rd q x.f0 + 1))) ((Hp.pop z71 ltC l).take (l.length - 1)) = some r := by
  refine ⟨_, rfl, ?_⟩
  rw [giveTo] at h
  split at h
  · cases h
  · rename_i h0
    split at h
    · rename_i h1
      exact ⟨by omega, h1.1, h1.2, h⟩
    · cases h
set_option maxHeartbeats 2000000 in
theorem give_some (P0_ : Nat → Prop) (g cap : Nat) (l0 : List Int) (P1_ : Nat → Prop) (u1 : Value) (l1 : List S71) (n : Nat) (r : List Int) (w0 w : World) (hB : Below w0.heap.size w0 w) (ho : w.ownsRow w0.heap.size 3 1 (.slice (some ⟨g, 0, none⟩) l0.length cap) l0.length (nums .i64 l0)) (hP : P0_ g) (hg0 : w0.heap.size ≤ g) (hgw : g < w.heap.size)
    (hR : Kd.R k71 71 w w0.heap.size (fun k => P1_ k ∧ k ≠ g) u1 l1) (hm : l1.length ≤ 1152921504606846976) (hn : n ≤ 4611686018427387904) (h : giveTo n l0 (Hp.init z71 ltC l1) = some r) :
    Calls Try.prog 63 #[.slice (some ⟨g, 0, none⟩) l0.length cap, u1, .int .i64 (n : Int)] w fun e w' => e = .returned (.tuple #[]) ∧ w'.ownsRow w0.heap.size 3 1 (.slice (some ⟨g, 0, none⟩) l0.length cap) l0.length (nums .i64 r) ∧ Below w0.heap.size w0 w' ∧ Kept w w' (fun k_ => P0_ k_ ∨ P1_ k_) := by
  obtain ⟨A1, c1, rfl⟩ := Kd.R_slice hR
  have hta := assert_ok
  have hfd := field_0
  obtain ⟨N, hN⟩ : ∃ N, l0.length = N := ⟨_, rfl⟩
  rw [hN] at ho ⊢
  have HH := Lib.hid h
  have HO := Lib.hid ho
  have hQg : ¬ ((P1_ g ∧ g ≠ g) ∨ w.heap.size ≤ g) := by omega
  have I0 : IsH w0 w (w.alloc (.cells #[.slice A1 l1.length c1] 69)) (fun k => (P1_ k ∧ k ≠ g) ∨ w.heap.size ≤ k) w.heap.size (.slice A1 l1.length c1) l1 :=
    ⟨by simpa using heap_alloc_new w (.cells #[.slice A1 l1.length c1] 69), .inl (.inr (Nat.le_refl _)), hB.size, Kd.R_alloc (Kd.R_mono hR (fun k hk => .inl (.inl hk))) _, (Kept.refl w _).alloc _, hB.alloc hB.size _⟩
  have HI := Lib.hid I0
  clear h ho hR I0 hN
  go_enter Try.func63, Try.ntmps63
  go_wp2_with (go_at_call 66; go_must ((with_reducible refine (init_any HI.out hm).mono ?_); rintro e w1 ⟨rfl, hI⟩; have HJ := Lib.hid hI; clear hI))
  have hlen0 := Lib.hid (Hp.init_len z71 ltC l1)
  have R0 := Lib.hid (⟨own_keep HO.out HJ.out.K hgw hQg, HJ.out.self (fun k hk => .inr hk), kept_mono HJ.out.K (fun k hk hq => hq.elim (fun h => .inr h.1) (fun h => by omega))⟩ : Rnd w0 w w1 (fun k => P0_ k ∨ P1_ k) (fun k => (P1_ k ∧ k ≠ g) ∨ w.heap.size ≤ k) (.slice (some ⟨g, 0, none⟩) N cap) N l0 (.slice A1 l1.length c1) (Hp.init z71 ltC l1))
  go_loopg [9] n (fun k c wr => ∃ (i m : Nat) (q : List Int) (v : Value) (ys : List S71), m ≤ k ∧ c = .int .i64 i ∧ i ≤ n ∧ Hid (i + m = n) ∧ ys.length ≤ 1152921504606846976 ∧ Hid (giveTo m q ys = some r) ∧ Rnd w0 w wr (fun k => P0_ k ∨ P1_ k) (fun k => (P1_ k ∧ k ≠ g) ∨ w.heap.size ≤ k) (.slice (some ⟨g, 0, none⟩) N cap) N q v ys)
  case atStart => exact ⟨0, n, l0, _, _, Nat.le_refl _, rfl, by omega, Lib.hid (by omega), by rw [hlen0.out]; exact hm, HH, R0.out⟩
  case round =>
    obtain ⟨i, m, q, v, ys, hk, rfl, hi, him, hys, hD, hR⟩ := hrel
    have HK := Lib.hid hk
    have HR := Lib.hid hR
    clear hk hR
    by_cases hlt : i < n
    · obtain ⟨m, rfl⟩ : ∃ m', m = m' + 1 := ⟨m - 1, by have := him.out; omega⟩
      obtain ⟨x, hx, hpos, hx0, hx1, hD2⟩ := giveTo_succ hD.out
      have HX := Lib.hid hx
      have HD2 := Lib.hid hD2
      have hql : q.length = N := by have := HR.out.O.1; simpa [nums] using this
      rw [hql] at hx1
      have HQL := Lib.hid hql
      clear hx hD2 hql
      go_wp2_with (go_at_call 67; go_must ((with_reducible refine (pop_any HR.out.I hpos hys).mono ?_); rintro e w2 ⟨rfl, v', hI⟩; rw [HX.out]; obtain ⟨hc, hf⟩ := own_at (own_keep HR.out.O hI.K (Nat.lt_of_lt_of_le hgw HR.out.K.1) hQg) x.f0 hx0 hx1; have HI2 := Lib.hid hI; clear hI))
      have HO2 := Lib.hid (own_keep HR.out.O HI2.out.K (Nat.lt_of_lt_of_le hgw HR.out.K.1) hQg)
      go_roundg m
      case measure => have := HK.out; omega
      case rel =>
        have hst := own_store HO2.out x.f0 (wrap64 (rd q x.f0 + 1))
        exact ⟨i + 1, m, _, _, _, Nat.le_refl _, by go_num, by omega, Lib.hid (by have := him.out; omega), by rw [List.length_take, Hp.pop_len]; omega, HD2, ⟨hst.1, (HI2.out.self (fun k hk => .inr (Nat.le_trans HR.out.K.1 hk))).far hQg (Nat.lt_of_lt_of_le hgw (Nat.le_trans HR.out.K.1 HI2.out.K.1)) hg0, (HR.out.K.then_ HI2.out.K (fun k hk => hk.elim (fun h => .inl (.inr h.1)) .inr)).setCell (.inl (.inl hP)) _⟩⟩
    · obtain rfl : i = n := by omega
      have hm0 : m ≤ 0 := by have := him.out; omega
      obtain rfl : m = 0 := by omega
      have hr : q = r := by have := hD.out; rw [giveTo] at this; exact Option.some.inj this
      have HRR := Lib.hid hr
      clear hr
      go_wp2
      go_end0
      exact ⟨rfl, by rw [← HRR.out]; exact HR.out.O, HR.out.I.Z, HR.out.K⟩
set_option maxHeartbeats 1000000 in
theorem give_zero (u0 : Value) (P1_ : Nat → Prop) (u1 : Value) (l1 : List S71) (w0 w : World) (hB : Below w0.heap.size w0 w)
    (hR : Kd.R k71 71 w w0.heap.size P1_ u1 l1) (hm : l1.length ≤ 1152921504606846976) :
    Calls Try.prog 63 #[u0, u1, .int .i64 0] w fun e w' => e = .returned (.tuple #[]) ∧ Below w0.heap.size w0 w' ∧ Kept w w' P1_ := by
  obtain ⟨A1, c1, rfl⟩ := Kd.R_slice hR
  have I0 : IsH w0 w (w.alloc (.cells #[.slice A1 l1.length c1] 69)) P1_ w.heap.size (.slice A1 l1.length c1) l1 :=
    ⟨by simpa using heap_alloc_new w (.cells #[.slice A1 l1.length c1] 69), .inr (Nat.le_refl _), hB.size, Kd.R_alloc (Kd.R_mono hR (fun k hk => .inl hk)) _, (Kept.refl w _).alloc _, hB.alloc hB.size _⟩
  have HI := Lib.hid I0
  clear hR I0
  go_enter Try.func63, Try.ntmps63
  go_wp2_with (go_at_call 66; go_must ((with_reducible refine (init_any HI.out hm).mono ?_); rintro e w1 ⟨rfl, hI⟩; have HJ := Lib.hid hI; clear hI))
  go_loopg [9] 0 (fun k c wr => c = .int .i64 0 ∧ Below w0.heap.size w0 wr ∧ Kept w wr P1_)
  case atStart => exact ⟨rfl, HJ.out.Z, HJ.out.K⟩
  case round =>
    obtain ⟨rfl, hZ, hK⟩ := hrel
    go_wp2
    go_end0
    exact ⟨rfl, hZ, hK⟩
theorem give_any (P0_ : Nat → Prop) (u0 : Value) (l0 : List Int) (P1_ : Nat → Prop) (u1 : Value) (l1 : List S71) (many : Int) (r : List Int) (w0 w : World) (hB : Below w0.heap.size w0 w) (ho0 : Kd.R (Kd.int .i64) 3 w w0.heap.size P0_ u0 l0) (ho1 : Kd.R k71 71 w w0.heap.size P1_ u1 l1) (h : giveF l0 l1 many = some r) :
    Calls Try.prog 63 #[u0, u1, .int .i64 many] w fun e w' => e = .returned (.tuple #[]) ∧ Kd.R (Kd.int .i64) 3 w' w0.heap.size (fun k_ => ((P0_ k_ ∨ P1_ k_) ∨ w.heap.size ≤ k_)) u0 r ∧ Below w0.heap.size w0 w' ∧ Kept w w' (fun k_ => P0_ k_ ∨ P1_ k_) := by
  unfold giveF at h
  by_cases hc : (l1.length ≤ 1152921504606846976 ∧ many ≤ 4611686018427387904) ∧ 0 ≤ many
  case neg => rw [if_neg hc] at h; cases h
  rw [if_pos hc] at h
  obtain ⟨⟨hm, hn⟩, hmany⟩ := hc
  obtain ⟨n, rfl⟩ : ∃ n : Nat, many = n := ⟨many.toNat, by omega⟩
  rw [Int.toNat_natCast] at h
  have ho := Kd.own_of_R ho0
  rcases Nat.eq_zero_or_pos l0.length with h0 | h0
  · cases n with
    | succ n =>
      obtain ⟨x, _, _, hx0, hx1, _⟩ := giveTo_succ h
      omega
    | zero =>
      rw [giveTo] at h
      obtain rfl := Option.some.inj h
      refine (give_zero u0 (fun k => P1_ k ∧ some k ≠ u0.ownBlock) u1 l1 w0 w hB (Kd.R_apart' ho1 (Kd.R_typed ho0) (by decide)) hm).mono ?_
      rintro e w' ⟨rfl, hZ, hK⟩
      refine ⟨rfl, Kd.R_of_own (own_move ho (fun k hk => hK.2 k (own_lt ho k hk) (fun hh => hh.2 hk.symm))) (fun k hk => .inl (.inl (ho0.1 k hk))), hZ, hK.mono (fun k hk => .inr hk.1)⟩
  · obtain ⟨g, cap, rfl, hg0, hgw, cells, hgb⟩ := Kd.R_form ho0 h0
    refine (give_some P0_ g cap l0 P1_ u1 l1 n r w0 w hB ho (ho0.1 g rfl) hg0 hgw (Kd.R_types ho1 hgb (by intro q hq; simp [k71, Kd.iso, Kd.pair, Kd.int, Kd.scalar] at hq; omega)) hm (by omega) h).mono ?_
    rintro e w' ⟨rfl, hO, hZ, hK⟩
    have hl : r.length = l0.length := by have := hO.1; simpa [nums] using this
    refine ⟨rfl, Kd.R_of_own (by rw [hl]; exact hO) (fun k hk => ?_), hZ, hK⟩
    have hk : g = k := by simpa [Value.ownBlock] using hk
    subst hk
    exact .inl (.inl (ho0.1 _ rfl))
end Go.Proofs.Ytcffmmdgjifaaaa
namespace Go.Proofs.Ytcffmmdgjifaaaa
open Go.RowKit Go.Proofs.YtcffmmdgjifaaaaW.PrintWords Go.Proofs.YtcffmmdgjifaaaaW.PrintLast Go.Proofs.YtcffmmdgjifaaaaW.PrintMore PPr HC
attribute [local go_sem] max2_int min2_int max_two min_two max_three min_three max_four min_four
set_option linter.unusedSimpArgs false
set_option linter.unusedVariables false
/-- a symbol's claim -/
def mkC (q c : List Int) (s : Nat) : S71 := ⟨(s : Int), q.getD s 0, (1073741824 - c.getD s 0) * 256 + (s : Int)⟩
/-- the claims of the first i symbols -/
def claimsTo (q c : List Int) : Nat → List S71
  | 0 => []
  | i + 1 => claimsTo q c i ++ (if q.getD i 0 > 0 then [mkC q c i] else [])
theorem claimsTo_len (q c : List Int) : ∀ i, (claimsTo q c i).length ≤ i
  | 0 => by simp [claimsTo]
  | i + 1 => by
    have := claimsTo_len q c i
    rw [claimsTo, List.length_append]
    split <;> simp <;> omega
theorem claimsTo_hit (q c : List Int) (i : Nat) (h : q.getD i 0 > 0) : claimsTo q c (i + 1) = claimsTo q c i ++ [mkC q c i] := by rw [claimsTo, if_pos h]
theorem claimsTo_miss (q c : List Int) (i : Nat) (h : ¬ q.getD i 0 > 0) : claimsTo q c (i + 1) = claimsTo q c i := by rw [claimsTo, if_neg h, List.append_nil]
/-- one less of the first one, so many times -/
def takeTo : Nat → List Int → List S71 → Option (List Int)
  | 0, q, _ => some q
  | n + 1, q, l => if l.length = 0 then none else
    if 0 ≤ ((Hp.pop z71 ltC l).getD (l.length - 1) z71).f0 ∧ ((Hp.pop z71 ltC l).getD (l.length - 1) z71).f0 < (q.length : Int) then
      takeTo n (q.set ((Hp.pop z71 ltC l).getD (l.length - 1) z71).f0.toNat (wrap64 (rd q ((Hp.pop z71 ltC l).getD (l.length - 1) z71).f0 - 1)))
        (Hp.push z71 ltC ((Hp.pop z71 ltC l).take (l.length - 1)) ⟨((Hp.pop z71 ltC l).getD (l.length - 1) z71).f0, wrap64 (((Hp.pop z71 ltC l).getD (l.length - 1) z71).f1 - 1), ((Hp.pop z71 ltC l).getD (l.length - 1) z71).f2⟩)
    else none
theorem takeTo_succ {n : Nat} {q : List Int} {l : List S71} {r : List Int} (h : takeTo (n + 1) q l = some r) :
    ∃ x, (Hp.pop z71 ltC l).getD (l.length - 1) z71 = x ∧ 0 < l.length ∧ 0 ≤ x.f0 ∧ x.f0 < (q.length : Int) ∧ takeTo n (q.set x.f0.toNat (wrap64 (rd q x.f0 - 1))) (Hp.push z71 ltC ((Hp.pop z71 ltC l).take (l.length - 1)) ⟨x.f0, wrap64 (x.f1 - 1), x.f2⟩) = some r := by
  refine ⟨_, rfl, ?_⟩
  rw [takeTo] at h
  split at h
  · cases h
  · rename_i h0
    split at h
    · rename_i h1
      exact ⟨by omega, h1.1, h1.2, h⟩
    · cases h
def takeOk (q c : List Int) (many : Int) : Bool := decide (q.length ≤ c.length) && decide (q.length ≤ 1099511627776) && decide (0 ≤ many) && decide (many ≤ 4611686018427387904) && c.all fun x => decide (0 ≤ x) && decide (x ≤ 1073741824)
theorem takeOk_iff (q c : List Int) (many : Int) : takeOk q c many = true ↔ q.length ≤ c.length ∧ q.length ≤ 1099511627776 ∧ 0 ≤ many ∧ many ≤ 4611686018427387904 ∧ ∀ x, x ∈ c → 0 ≤ x ∧ x ≤ 1073741824 := by
  unfold takeOk
  simp only [Bool.and_eq_true, decide_eq_true_iff, List.all_eq_true]
  constructor
  · rintro ⟨⟨⟨⟨h1, h2⟩, h3⟩, h4⟩, h5⟩; exact ⟨h1, h2, h3, h4, h5⟩
  · rintro ⟨h1, h2, h3, h4, h5⟩; exact ⟨⟨⟨⟨h1, h2⟩, h3⟩, h4⟩, h5⟩
def takeF (q c : List Int) (many : Int) : Option (List Int) := if takeOk q c many = true then takeTo many.toNat q (Hp.init z71 ltC (claimsTo q c q.length)) else none
theorem push_at {w0 w W : World} {Q : Nat → Prop} {p : Nat} {v : Value} {xs : List S} (h : IsH w0 w W Q p v xs) (a b c : Int) (hm : xs.length ≤ 1099511627776) :
    Calls Try.prog 68 #[.iface 76 (.pointer (some ⟨p, 0, none⟩)), .iface 71 (.agg #[.int .i64 a, .int .i64 b, .int .i64 c])] W fun e W' => e = .returned (.tuple #[]) ∧ ∃ v', IsH w0 w W' Q p v' (Hp.push z ltC xs ⟨a, b, c⟩) := push_any h ⟨a, b, c⟩ hm
theorem zero_claims (W : World) : Sem.run Try.prog (zeroValue 69) W = .ok (.slice none 0 0) W := by kernel_rfl
set_option maxHeartbeats 4000000 in
theorem take_some (P0_ : Nat → Prop) (g cap : Nat) (l0 : List Int) (A : Option Addr) (cc : Nat) (l1 : List Int) (n : Nat) (r : List Int) (w0 w : World) (hB : Below w0.heap.size w0 w) (ho : w.ownsRow w0.heap.size 3 1 (.slice (some ⟨g, 0, none⟩) l0.length cap) l0.length (nums .i64 l0)) (hP : P0_ g) (hg0 : w0.heap.size ≤ g) (hgw : g < w.heap.size)
    (hr1 : ∀ W_, Kept w W_ (fun k_ => P0_ k_) → ReadsInt W_ .i64 A l1.length l1) (hl : l0.length ≤ l1.length) (hm : l0.length ≤ 1099511627776) (hn : n ≤ 4611686018427387904) (hc : ∀ x, x ∈ l1 → 0 ≤ x ∧ x ≤ 1073741824) (h : takeTo n l0 (Hp.init z71 ltC (claimsTo l0 l1 l0.length)) = some r) :
    Calls Try.prog 64 #[.slice (some ⟨g, 0, none⟩) l0.length cap, .slice A l1.length cc, .int .i64 (n : Int)] w fun e w' => e = .returned (.tuple #[]) ∧ w'.ownsRow w0.heap.size 3 1 (.slice (some ⟨g, 0, none⟩) l0.length cap) l0.length (nums .i64 r) ∧ Below w0.heap.size w0 w' ∧ Kept w w' (fun k_ => P0_ k_) := by
  have hta := assert_ok
  have hz := zero_claims
  have HH := Lib.hid h
  have HO := Lib.hid ho
  have HR1 := Lib.hid hr1
  have HCC := Lib.hid hc
  have hQg : ¬ (w.heap.size ≤ g) := by omega
  have I0 : IsH w0 w (w.alloc (.cells #[.slice none 0 0] 69)) (fun k => w.heap.size ≤ k) w.heap.size (.slice none 0 0) [] :=
    ⟨by simpa using heap_alloc_new w (.cells #[.slice none 0 0] 69), .inl (Nat.le_refl _), hB.size, Kd.R_nil _ _ _ _ _, (Kept.refl w _).alloc _, hB.alloc hB.size _⟩
  have HI := Lib.hid I0
  clear h ho hr1 I0 hc
  go_enter Try.func64, Try.ntmps64
  go_wp2
  clear hz
  go_loopg [12] l0.length (fun k q wr => ∃ (i : Nat) (v : Value), i ≤ l0.length ∧ k = l0.length - i ∧ q = .int .i64 i ∧ IsH w0 w wr (fun k => w.heap.size ≤ k) w.heap.size v (claimsTo l0 l1 i))
  case atStart => exact ⟨0, _, by omega, rfl, rfl, HI.out⟩
  case round =>
    obtain ⟨i, v, hi, hk, rfl, hI⟩ := hrel
    have HK := Lib.hid hk
    clear HI
    have HI := Lib.hid hI
    clear hk hI
    by_cases hlt : i < l0.length
    · obtain ⟨hcq, hfq⟩ := own_at (own_keep HO.out HI.out.K hgw hQg) (i : Int) (by omega) (by omega)
      obtain ⟨ad, hA, hcell⟩ := reads_cell (HR1.out _ (kept_mono HI.out.K (fun k h1 h2 => absurd h2 (by omega)))) i (by omega)
      subst hA
      have hXb := HCC.out _ (show l1.getD i 0 ∈ l1 by rw [List.getD_eq_getElem?_getD, List.getElem?_eq_getElem (show i < l1.length by omega)]; exact List.getElem_mem _)
      have hMK : mkC l0 l1 i = ⟨(i : Int), l0.getD i 0, (1073741824 - l1.getD i 0) * 256 + (i : Int)⟩ := rfl
      have hHit := fun h => claimsTo_hit l0 l1 i h
      have hMiss := fun h => claimsTo_miss l0 l1 i h
      rw [show rd l0 (i : Int) = l0.getD i 0 from rfl] at hcq
      rw [Int.toNat_natCast] at hcq hfq
      obtain ⟨X, hX⟩ : ∃ X, l0.getD i 0 = X := ⟨_, rfl⟩
      obtain ⟨Y, hY⟩ : ∃ Y, l1.getD i 0 = Y := ⟨_, rfl⟩
      rw [hX] at hcq hMK hHit hMiss
      rw [hY] at hcell hXb hMK
      clear hX hY
      have HMK := Lib.hid hMK
      clear hMK
      have hil : (i : Int) < (l1.length : Int) := by omega
      by_cases hpos : X > 0
      · have HH1 := Lib.hid (hHit hpos)
        clear hHit hMiss
        have hbc := HI.out.cell
        have hbf := blk_frozen HI.out.B 0
        have hbl : w.heap.size < wr.heap.size := blk_lt HI.out.B
        have hu := Try.underlying71
        have ⟨AL, cl, hv, _, _⟩ := HI.out.len
        subst hv
        have hne := Kd.R_ne HI.out.R HI.out.B (by decide)
        have e1 : IntKind.i64.wrap (1073741824 - Y) = 1073741824 - Y := IntWalk.i64_in _ (by omega)
        have e2 : IntKind.i64.wrap ((1073741824 - Y) * 256) = (1073741824 - Y) * 256 := IntWalk.i64_in _ (by omega)
        have e3 : IntKind.i64.wrap ((1073741824 - Y) * 256 + (i : Int)) = (1073741824 - Y) * 256 + (i : Int) := IntWalk.i64_in _ (by omega)
        have HLL := Lib.hid (claimsTo_len l0 l1 i)
        go_wp2
        go_region_law
          ((refine Kd.R_append_step k71 (w0 := w0) (W := wr.drew) w0.heap.size (by rfl) (.tmp 19) (.tmp 31) 69 71 (.agg #[.int .i64 0, .int .i64 0, .int .i64 0]) 24 (by rfl) Try.underlying69 info_el rfl (by decide) (by omega) (.slice AL (claimsTo l0 l1 i).length cl) (claimsTo l0 l1 i) ⟨(i : Int), X, (1073741824 - Y) * 256 + (i : Int)⟩ [.int .i64 (i : Int), .int .i64 X, .int .i64 ((1073741824 - Y) * 256 + (i : Int))] (fun k => w.heap.size ≤ k ∨ w.heap.size ≤ k) (fun _ => False) (by rfl) (by rfl) (k71_mkM _ _ _ _) (fun _ hk => hk.elim) (fun k hk => .inr (Nat.le_trans HI.out.K.1 hk)) (Kd.R_drew HI.out.R) (below_drew HI.out.Z) HI.out.Z.size (by have := HLL.out; omega) ?_; intro v1 w1 hR1 hb1 hg1 hat1; obtain ⟨A1, c1, rfl⟩ := Kd.R_slice hR1; have hB1 : w1.heap[w.heap.size]? = some (.cells #[.slice AL (claimsTo l0 l1 i).length cl] 69 (0, 0)) := (hg1.block w.heap.size hbl hne).trans HI.out.B; have hc1 : w1.cell? ⟨w.heap.size, 0, none⟩ = some (.slice AL (claimsTo l0 l1 i).length cl) := (by simpa using blk_cell hB1 0); have hf1 := blk_frozen hB1 0; have HR1 := Lib.hid hR1; have HB1 := Lib.hid hb1; have HG1 := Lib.hid hg1; have HBB := Lib.hid hB1; clear hR1 hb1 hg1 hat1 hB1))
        all_goals go_wp2
        all_goals go_roundg (l0.length - (i + 1))
        all_goals try (have := HK.out; omega)
        all_goals exact ⟨i + 1, _, by omega, rfl, by go_num, by rw [HH1.out, HMK.out]; exact (HI.out.below (below_drew (Below.refl _ _))).grown HG1.out (by have hr := HR1.out; rw [List.length_append, List.length_singleton] at hr; exact hr) HB1.out⟩
      · have HH1 := Lib.hid (hMiss hpos)
        clear hHit hMiss
        go_wp2
        go_roundg (l0.length - (i + 1))
        case measure => have := HK.out; omega
        case rel => exact ⟨i + 1, _, by omega, rfl, by go_num, by rw [HH1.out]; exact HI.out⟩
    · obtain rfl : i = l0.length := by omega
      have hcl := claimsTo_len l0 l1 l0.length
      have hcell := HI.out.cell
      have hfd := field_0
      have hu := Try.underlying71
      go_wp2_with (go_at_call 66; go_must ((with_reducible refine (init_any HI.out (by omega)).mono ?_); rintro e w1 ⟨rfl, hI⟩; have HJ := Lib.hid hI; clear hI))
      have hlen0 := Lib.hid (Hp.init_len z71 ltC (claimsTo l0 l1 l0.length))
      have R0 := Lib.hid (⟨own_keep HO.out HJ.out.K hgw hQg, HJ.out.self (fun k hk => hk), kept_mono HJ.out.K (fun k hk hq => absurd hq (by omega))⟩ : Rnd w0 w w1 (fun k => P0_ k) (fun k => w.heap.size ≤ k) (.slice (some ⟨g, 0, none⟩) l0.length cap) l0.length l0 v (Hp.init z71 ltC (claimsTo l0 l1 l0.length)))
      clear HI hcell
      go_loopg [37] n (fun k c wr => ∃ (i m : Nat) (q : List Int) (v : Value) (ys : List S71), m ≤ k ∧ c = .int .i64 i ∧ i ≤ n ∧ Hid (i + m = n) ∧ ys.length ≤ 1099511627776 ∧ Hid (takeTo m q ys = some r) ∧ Rnd w0 w wr (fun k => P0_ k) (fun k => w.heap.size ≤ k) (.slice (some ⟨g, 0, none⟩) l0.length cap) l0.length q v ys)
      case atStart => exact ⟨0, n, l0, _, _, Nat.le_refl _, rfl, by omega, Lib.hid (by omega), by rw [hlen0.out]; omega, HH, R0.out⟩
      case round =>
        clear HK
        obtain ⟨i, m, q, v, ys, hk, rfl, hi, him, hys, hD, hR⟩ := hrel
        have HK := Lib.hid hk
        have HR := Lib.hid hR
        clear hk hR R0 HJ
        by_cases hlt : i < n
        · obtain ⟨m, rfl⟩ : ∃ m', m = m' + 1 := ⟨m - 1, by have := him.out; omega⟩
          obtain ⟨x, hx, hpos, hx0, hx1, hD2⟩ := takeTo_succ hD.out
          have HX := Lib.hid hx
          have HD2 := Lib.hid hD2
          have hql : q.length = l0.length := by have := HR.out.O.1; simpa [nums] using this
          rw [hql] at hx1
          have HQL := Lib.hid hql
          clear hx hD2 hql
          go_wp2_with (first
            | (go_at_call 67; go_must ((with_reducible refine (pop_any HR.out.I hpos (by omega)).mono ?_); rintro e w2 ⟨rfl, v', hI⟩; rw [HX.out]; obtain ⟨hc, hf⟩ := own_at (own_keep HR.out.O hI.K (Nat.lt_of_lt_of_le hgw HR.out.K.1) hQg) x.f0 hx0 hx1; have hgw2 : g < w2.heap.size := Nat.lt_of_lt_of_le hgw (Nat.le_trans HR.out.K.1 hI.K.1); have HP := Lib.hid (((hI.self (fun k hk => Nat.le_trans HR.out.K.1 hk)).far (j := x.f0.toNat) (u := .int .i64 (wrap64 (rd q x.f0 - 1))) hQg hgw2 hg0).alloc (.cells #[.int .i64 x.f0, .int .i64 (wrap64 (x.f1 - 1)), .int .i64 x.f2] 71)); have HI2 := Lib.hid hI; clear hI))
            | (go_at_call 68; go_must ((with_reducible refine (push_at HP.out x.f0 (wrap64 (x.f1 - 1)) x.f2 (by rw [List.length_take, Hp.pop_len]; omega)).mono ?_); rintro e w3 ⟨rfl, v3, hI3⟩; have HI3 := Lib.hid hI3; clear hI3)))
          go_roundg m
          case measure => have := HK.out; omega
          case rel =>
            have hst := own_store (own_keep HR.out.O HI2.out.K (Nat.lt_of_lt_of_le hgw HR.out.K.1) hQg) x.f0 (wrap64 (rd q x.f0 - 1))
            have hK2 := (HR.out.K.then_ HI2.out.K (fun k hk => .inr hk)).setCell (p := ⟨g, x.f0.toNat, none⟩) (.inl hP) (.int .i64 (wrap64 (rd q x.f0 - 1)))
            exact ⟨i + 1, m, _, _, _, Nat.le_refl _, by go_num, by omega, Lib.hid (by have := him.out; omega), by rw [Hp.push_len, List.length_take, Hp.pop_len]; omega, HD2,
              ⟨own_keep hst.1 HI3.out.K (by simpa [World.setCell] using hgw2) hQg, HI3.out.self (fun k hk => by
                have h1 : w2.heap.size ≤ k := by simpa [World.setCell] using hk
                exact Nat.le_trans HR.out.K.1 (Nat.le_trans HI2.out.K.1 h1)), hK2.then_ HI3.out.K (fun k hk => .inr hk)⟩⟩
        · obtain rfl : i = n := by omega
          have hm0 : m ≤ 0 := by have := him.out; omega
          obtain rfl : m = 0 := by omega
          have hr : q = r := by have := hD.out; rw [takeTo] at this; exact Option.some.inj this
          have HRR := Lib.hid hr
          clear hr
          go_wp2
          go_end0
          exact ⟨rfl, by rw [← HRR.out]; exact HR.out.O, HR.out.I.Z, HR.out.K⟩
set_option maxHeartbeats 1000000 in
theorem take_zero (A0 : Option Addr) (c0 : Nat) (A : Option Addr) (n1 cc : Nat) (w0 w : World) (hB : Below w0.heap.size w0 w) :
    Calls Try.prog 64 #[.slice A0 0 c0, .slice A n1 cc, .int .i64 0] w fun e w' => e = .returned (.tuple #[]) ∧ Below w0.heap.size w0 w' ∧ Below w.heap.size w w' := by
  have hz := zero_claims
  have I0 : IsH w0 w (w.alloc (.cells #[.slice none 0 0] 69)) (fun k => w.heap.size ≤ k) w.heap.size (.slice none 0 0) [] :=
    ⟨by simpa using heap_alloc_new w (.cells #[.slice none 0 0] 69), .inl (Nat.le_refl _), hB.size, Kd.R_nil _ _ _ _ _, (Kept.refl w _).alloc _, hB.alloc hB.size _⟩
  have HI := Lib.hid I0
  have HZ := Lib.hid (((Below.refl w.heap.size w).alloc (Nat.le_refl _) (.cells #[.slice none 0 0] 69)))
  clear I0
  go_enter Try.func64, Try.ntmps64
  go_wp2
  clear hz
  go_loopg [12] 0 (fun k q wr => q = .int .i64 0 ∧ IsH w0 w wr (fun k => w.heap.size ≤ k) w.heap.size (.slice none 0 0) [])
  case atStart => exact ⟨rfl, HI.out⟩
  case round =>
    obtain ⟨rfl, hI⟩ := hrel
    have HI := Lib.hid hI
    have hcell := hI.cell
    clear hI
    go_wp2_with (go_at_call 66; go_must ((with_reducible refine (init_any HI.out (by simp)).mono ?_); rintro e w1 ⟨rfl, hI⟩; have HJ := Lib.hid hI; clear hI))
    go_loopg [37] 0 (fun k c wr => c = .int .i64 0 ∧ IsH w0 w wr (fun k => w.heap.size ≤ k) w.heap.size (.slice none 0 0) (Hp.init z71 ltC []))
    case atStart => exact ⟨rfl, HJ.out⟩
    case round =>
      obtain ⟨rfl, hI⟩ := hrel
      have HI := Lib.hid hI
      clear hI
      go_wp2
      go_end0
      have hK := HI.out.K
      exact ⟨rfl, HI.out.Z, ⟨(HI.out.Z).os.trans hB.os.symm, (HI.out.Z).tape.trans hB.tape.symm, (HI.out.Z).output.trans hB.output.symm, hK.1, fun i hi => hK.2 i hi (by omega)⟩⟩
theorem take_any (P0_ : Nat → Prop) (u0 : Value) (l0 : List Int) (A1 : Option Addr) (c1 : Nat) (l1 : List Int) (many : Int) (r : List Int) (w0 w : World) (hB : Below w0.heap.size w0 w) (ho0 : Kd.R (Kd.int .i64) 3 w w0.heap.size P0_ u0 l0) (hr1 : ∀ W_, Kept w W_ (fun k_ => P0_ k_) → Kd.C (Kd.int .i64) W_ A1 l1.length l1) (hc1 : l1.length ≤ c1) (h : takeF l0 l1 many = some r) :
    Calls Try.prog 64 #[u0, .slice A1 l1.length c1, .int .i64 many] w fun e w' => e = .returned (.tuple #[]) ∧ Kd.R (Kd.int .i64) 3 w' w0.heap.size (fun k_ => (P0_ k_ ∨ w.heap.size ≤ k_)) u0 r ∧ Below w0.heap.size w0 w' ∧ Kept w w' (fun k_ => P0_ k_) := by
  unfold takeF at h
  by_cases hok : takeOk l0 l1 many = true
  case neg => rw [if_neg hok] at h; cases h
  rw [if_pos hok] at h
  obtain ⟨hl, hm, hmany, hn, hc⟩ := (takeOk_iff l0 l1 many).1 hok
  obtain ⟨n, rfl⟩ : ∃ n : Nat, many = n := ⟨many.toNat, by omega⟩
  rw [Int.toNat_natCast] at h
  have ho := Kd.own_of_R ho0
  rcases Nat.eq_zero_or_pos l0.length with h0 | h0
  · cases n with
    | succ n =>
      obtain ⟨x, _, _, hx0, hx1, _⟩ := takeTo_succ h
      omega
    | zero =>
      rw [takeTo] at h
      obtain rfl := Option.some.inj h
      obtain ⟨A0, c0, hu⟩ := Kd.R_slice ho0
      rw [h0] at hu
      subst hu
      refine (take_zero A0 c0 A1 l1.length c1 w0 w hB).mono ?_
      rintro e w' ⟨rfl, hZ, hK⟩
      exact ⟨rfl, Kd.R_mono (Kd.R_below ho0 hK) (fun k hk => .inl hk), hZ, Kept.of_below hK _⟩
  · obtain ⟨g, cap, rfl, hg0, hgw, cells, hgb⟩ := Kd.R_form ho0 h0
    refine (take_some P0_ g cap l0 A1 c1 l1 n r w0 w hB ho (ho0.1 g rfl) hg0 hgw (fun W_ hK => Kd.reads_of_C (d := (0 : Int)) (hr1 W_ hK)) hl hm (by omega) hc h).mono ?_
    rintro e w' ⟨rfl, hO, hZ, hK⟩
    have hl : r.length = l0.length := by have := hO.1; simpa [nums] using this
    refine ⟨rfl, Kd.R_of_own (by rw [hl]; exact hO) (fun k hk => ?_), hZ, hK⟩
    have hk : g = k := by simpa [Value.ownBlock] using hk
    subst hk
    exact .inl (ho0.1 _ rfl)
end Go.Proofs.Ytcffmmdgjifaaaa
