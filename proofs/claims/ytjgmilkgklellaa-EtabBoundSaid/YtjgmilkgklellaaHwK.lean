/- Contracts of container/heap over a variable that holds a row of elements: what each call does to the row is what Hp tells. Contracts of container/heap over a variable that holds a row: Init, Pop, Push. -/
import Derived.Test.YtjgmilkgklellaaHp
import Derived.Test.YtjgmilkgklellaaBase
import Derived.Test.YtjgmilkgklellaaPPrx3
import Derived.Test.YtjgmilkgklellaaPPrx3
import Derived.Test.YtjgmilkgklellaaFc
import Derived.Deep.RegionWith
import Derived.Deep.DeepMust
import Derived.Deep.RegionLaw
namespace Go.Proofs.Ytjgmilkgklellaa
open Go.RowKit Go.Proofs.YtjgmilkgklellaaW.PrintWords Go.Proofs.YtjgmilkgklellaaW.PrintLast Go.Proofs.YtjgmilkgklellaaW.PrintMore PPr
attribute [local go_sem] max2_int min2_int max_two min_two max_three min_three max_four min_four
set_option linter.unusedSimpArgs false
set_option linter.unusedVariables false
namespace HK
/-- does a type have a method of this number -/
def hasM (P : Program) (t : TypeId) (name : String) (f : FuncId) (b : Bool) : Bool :=
  match P.info? t with
  | none => false
  | some ti => match ti.methods.find? (fun m => m.name == name) with
    | none => false
    | some m => m.path.size == 0 && (match m.func with | some (g, c) => g == f && c == b | none => false)
theorem hasM_val {P : Program} {t e : TypeId} {f : FuncId} {name : String} (h : hasM P t name f false = true) (hu : P.underlying t = some (.pointer e)) (a : Addr) (v : Value) (n : Nat) (w : World) (hl : (loadVar e a).run P w = .ok v w) :
    (method (n + 1) t (.pointer (some a)) name).run P w = .ok (f, v) w := by
  unfold hasM at h
  cases hi : P.info? t with
  | none => rw [hi] at h; cases h
  | some ti =>
    rw [hi] at h
    cases hm : ti.methods.find? (fun m => m.name == name) with
    | none => simp [hm] at h
    | some m =>
      simp only [hm, Bool.and_eq_true, beq_iff_eq] at h
      obtain ⟨hp, hf⟩ := h
      have hp : m.path = #[] := Array.eq_empty_of_size_eq_zero hp
      cases hf2 : m.func with
      | none => rw [hf2] at hf; cases hf
      | some gc =>
        obtain ⟨g, c⟩ := gc
        rw [hf2] at hf
        simp only [Bool.and_eq_true, beq_iff_eq] at hf
        obtain ⟨rfl, rfl⟩ := hf
        unfold method
        have hw : ∀ s : String, Builtin.ssaWrapNilChk_ #[t] t #[Value.pointer (some a), strVal "", strVal s] = pure (.pointer (some a)) := fun _ => rfl
        simp only [typeInfo, hi, hm, hp, hf2, follow, receiverAt, run_underlying hu, Place.get, asAddr]
        simp [hi, hm, hp, hf2, run_underlying hu, hl]
        simp [follow, run_underlying hu, hw, hl]
theorem hasM_ptr {P : Program} {t e : TypeId} {f : FuncId} {name : String} (h : hasM P t name f true = true) (hu : P.underlying t = some (.pointer e)) (a : Addr) (n : Nat) (w : World) :
    (method (n + 1) t (.pointer (some a)) name).run P w = .ok (f, .pointer (some a)) w := by
  unfold hasM at h
  cases hi : P.info? t with
  | none => rw [hi] at h; cases h
  | some ti =>
    rw [hi] at h
    cases hm : ti.methods.find? (fun m => m.name == name) with
    | none => simp [hm] at h
    | some m =>
      simp only [hm, Bool.and_eq_true, beq_iff_eq] at h
      obtain ⟨hp, hf⟩ := h
      have hp : m.path = #[] := Array.eq_empty_of_size_eq_zero hp
      cases hf2 : m.func with
      | none => rw [hf2] at hf; cases hf
      | some gc =>
        obtain ⟨g, c⟩ := gc
        rw [hf2] at hf
        simp only [Bool.and_eq_true, beq_iff_eq] at hf
        obtain ⟨rfl, rfl⟩ := hf
        unfold method
        simp [typeInfo, hi, hm, hp, hf2, follow, receiverAt, run_underlying hu, Place.get]
theorem nil_any (name : String) (hn : (name == "Len" || name == "Less" || name == "Swap" || name == "Pop" || name == "Push") = true) (a : Addr) (n : Nat) (w : World) : (nilAhead (n + 1) 75 (.pointer (some a)) name).run Try.prog w = .ok (some false) w := by
  simp only [Bool.or_eq_true, beq_iff_eq] at hn
  rcases hn with (((rfl | rfl) | rfl) | rfl) | rfl <;> kernel_rfl
theorem load_v (a : Addr) (v : Value) (w : World) (h : w.cell? a = some v) : (loadVar 73 a).run Try.prog w = .ok v w := by simp [go_sem, h]
theorem m_len (a : Addr) (v : Value) (n : Nat) (w : World) (h : w.cell? a = some v) : (method (n + 1) 75 (.pointer (some a)) "Len").run Try.prog w = .ok (40, v) w :=
  hasM_val (by kernel_rfl) Try.underlying75 a v n w (load_v a v w h)
theorem m_less (a : Addr) (v : Value) (n : Nat) (w : World) (h : w.cell? a = some v) : (method (n + 1) 75 (.pointer (some a)) "Less").run Try.prog w = .ok (68, v) w :=
  hasM_val (by kernel_rfl) Try.underlying75 a v n w (load_v a v w h)
theorem m_swap (a : Addr) (v : Value) (n : Nat) (w : World) (h : w.cell? a = some v) : (method (n + 1) 75 (.pointer (some a)) "Swap").run Try.prog w = .ok (69, v) w :=
  hasM_val (by kernel_rfl) Try.underlying75 a v n w (load_v a v w h)
theorem m_pop (a : Addr) (n : Nat) (w : World) : (method (n + 1) 75 (.pointer (some a)) "Pop").run Try.prog w = .ok (74, .pointer (some a)) w :=
  hasM_ptr (by kernel_rfl) Try.underlying75 a n w
theorem m_push (a : Addr) (n : Nat) (w : World) : (method (n + 1) 75 (.pointer (some a)) "Push").run Try.prog w = .ok (75, .pointer (some a)) w :=
  hasM_ptr (by kernel_rfl) Try.underlying75 a n w
abbrev S := S68
abbrev z : S := z68
/-- a variable at block p of W holds the row v, whose elements are xs; since w just the blocks of Q, and new ones, have turned -/
structure IsH (w0 w W : World) (Q : Nat → Prop) (p : Nat) (v : Value) (xs : List S) : Prop where
  B : W.heap[p]? = some (.cells #[v] 73 (0, 0))
  P : Q p ∨ w.heap.size ≤ p
  P0 : w0.heap.size ≤ p
  R : Kd.R k68 68 W w0.heap.size (fun k => Q k ∨ w.heap.size ≤ k) v xs
  K : Kept w W Q
  Z : Below w0.heap.size w0 W
theorem IsH.cell {w0 w W : World} {Q : Nat → Prop} {p : Nat} {v : Value} {xs : List S} (h : IsH w0 w W Q p v xs) : W.cell? ⟨p, 0, none⟩ = some v := by
  have := blk_cell h.B 0
  simpa using this
theorem IsH.below {w0 w W W1 : World} {Q : Nat → Prop} {p : Nat} {v : Value} {xs : List S} (h : IsH w0 w W Q p v xs) (hb : Below W.heap.size W W1) : IsH w0 w W1 Q p v xs :=
  ⟨(hb.block _ (blk_lt h.B)).trans h.B, h.P, h.P0, Kd.R_below h.R hb, h.K.below hb, h.Z.trans (hb.mono h.Z.size)⟩
/-- apart from its own variable -/
theorem IsH.apart {w0 w W : World} {Q : Nat → Prop} {p : Nat} {v : Value} {xs : List S} (h : IsH w0 w W Q p v xs) : Kd.R k68 68 W w0.heap.size (fun k => (Q k ∨ w.heap.size ≤ k) ∧ k ≠ p) v xs :=
  Kd.R_types h.R h.B (by intro q hq; simp [k68, Kd.iso, Kd.pair, Kd.int, Kd.scalar] at hq; omega)
theorem IsH.put {w0 w W : World} {Q : Nat → Prop} {p : Nat} {v v' : Value} {xs ys : List S} (h : IsH w0 w W Q p v xs) (hR : Kd.R k68 68 W w0.heap.size (fun k => Q k ∨ w.heap.size ≤ k) v' ys) : IsH w0 w (W.setCell ⟨p, 0, none⟩ v') Q p v' ys :=
  ⟨by simpa using blk_set h.B 0 v', h.P, h.P0, Kd.R_set hR h.B (by intro q hq; simp [k68, Kd.iso, Kd.pair, Kd.int, Kd.scalar] at hq; omega) 0 v', h.K.setCell h.P _, h.Z.setCell h.P0 _⟩
/-- the same, as of now -/
theorem IsH.self {w0 w W : World} {Q : Nat → Prop} {p : Nat} {v : Value} {xs : List S} (h : IsH w0 w W Q p v xs) (hQ : ∀ k, w.heap.size ≤ k → Q k) : IsH w0 W W Q p v xs :=
  ⟨h.B, h.P.elim .inl (fun k => .inl (hQ _ k)), h.P0, Kd.R_mono h.R (fun k hk => hk.elim .inl (fun k2 => .inl (hQ _ k2))), Kept.refl _ _, h.Z⟩
theorem IsH.far {w0 W : World} {Q : Nat → Prop} {p g j : Nat} {u v : Value} {xs : List S} (h : IsH w0 W W Q p v xs) (hg : ¬ Q g) (hlt : g < W.heap.size) (h0 : w0.heap.size ≤ g) : IsH w0 (W.setCell ⟨g, j, none⟩ u) (W.setCell ⟨g, j, none⟩ u) Q p v xs := by
  have hp : p ≠ g := by
    rintro rfl
    rcases h.P with h1 | h1
    · exact hg h1
    · omega
  refine ⟨blk_far h.B hp u, ?_, h.P0, Kd.R_mono (Kd.R_far (p := ⟨g, j, none⟩) h.R (fun k hk => ?_) u) (fun k hk => ?_), Kept.refl _ _, h.Z.setCell h0 _⟩
  · simpa [World.setCell] using h.P
  · rintro rfl
    rcases hk with h1 | h1
    · exact hg h1
    · omega
  · simpa [World.setCell] using hk
theorem IsH.alloc {w0 w W : World} {Q : Nat → Prop} {p : Nat} {v : Value} {xs : List S} (h : IsH w0 w W Q p v xs) (o : Obj) : IsH w0 w (W.alloc o) Q p v xs := h.below (below_alloc (Below.refl _ _) o)
theorem IsH.drewN {w0 w W : World} {Q : Nat → Prop} {p : Nat} {v : Value} {xs : List S} (h : IsH w0 w W Q p v xs) (n : Nat) : IsH w0 w (W.drewN n) Q p v xs := h.below (pw_below_drewN (Below.refl _ _) n)
theorem IsH.len {w0 w W : World} {Q : Nat → Prop} {p : Nat} {v : Value} {xs : List S} (h : IsH w0 w W Q p v xs) : ∃ A c, v = .slice A xs.length c ∧ xs.length ≤ c ∧ Kd.C k68 W A xs.length xs := Kd.R_reads h.R
theorem less_f (xs : List S) (a b : Int) (ha : 0 ≤ a) (ha' : a < xs.length) (hb : 0 ≤ b) (hb' : b < xs.length) : spread_keys_Less.f xs a b = some (ltK (xs.getD a.toNat z) (xs.getD b.toNat z)) := by
  unfold spread_keys_Less.f
  rw [if_pos ha, if_pos ha', if_pos hb, if_pos hb']
  have e := cmpF_eq (xs.getD a.toNat z) (xs.getD b.toNat z)
  show (cmpF (xs.getD a.toNat z).f0 (xs.getD a.toNat z).f1 (xs.getD a.toNat z).f2 (xs.getD b.toNat z).f0 (xs.getD b.toNat z).f1 (xs.getD b.toNat z).f2).bind (fun t => some (decide (t < 0))) = _
  rw [e]
  rfl
theorem less_at {w0 w W : World} {Q : Nat → Prop} {p : Nat} {v : Value} {xs : List S} (h : IsH w0 w W Q p v xs) (a b : Int) (ha : 0 ≤ a) (ha' : a < xs.length) (hb : 0 ≤ b) (hb' : b < xs.length) :
    Calls Try.prog 68 #[v, .int .i64 a, .int .i64 b] W fun e W' => e = .returned (.bool (ltK (xs.getD a.toNat z) (xs.getD b.toNat z))) ∧ IsH w0 w W' Q p v xs := by
  obtain ⟨A, c, rfl, hc, hr⟩ := h.len
  refine (spread_keys_Less.calls A c xs a b _ W hr hc (less_f xs a b ha ha' hb hb')).mono ?_
  rintro e W' ⟨rfl, hb⟩
  exact ⟨rfl, h.below hb⟩
theorem swap_f (xs : List S) (a b : Int) (ha : 0 ≤ a) (ha' : a < xs.length) (hb : 0 ≤ b) (hb' : b < xs.length) : spread_keys_Swap.f xs a b = some (Hp.swap z xs a.toNat b.toNat) := by
  unfold spread_keys_Swap.f
  rw [if_pos hb, if_pos hb', if_pos ha, if_pos ha']
  rfl
theorem swap_at {w0 w W : World} {Q : Nat → Prop} {p : Nat} {v : Value} {xs : List S} (h : IsH w0 w W Q p v xs) (a b : Int) (ha : 0 ≤ a) (ha' : a < xs.length) (hb : 0 ≤ b) (hb' : b < xs.length) :
    Calls Try.prog 69 #[v, .int .i64 a, .int .i64 b] W fun e W' => e = .returned (.tuple #[]) ∧ IsH w0 w W' Q p v (Hp.swap z xs a.toNat b.toNat) := by
  refine (spread_keys_Swap.calls (fun k => (Q k ∨ w.heap.size ≤ k) ∧ k ≠ p) v xs a b _ w0 W h.Z h.apart (swap_f xs a b ha ha' hb hb')).mono ?_
  rintro e W' ⟨rfl, hR, hZ, hK⟩
  refine ⟨rfl, ⟨blk_kept h.B hK (fun hh => hh.2 rfl), h.P, h.P0, Kd.R_mono hR ?_, h.K.then_ hK (fun k hk => hk.1), hZ⟩⟩
  intro k hk
  rcases hk with hk | hk
  · exact hk.1
  · exact .inr (Nat.le_trans h.K.1 hk)
theorem len_at {w0 w W : World} {Q : Nat → Prop} {p : Nat} {v : Value} {xs : List S} (h : IsH w0 w W Q p v xs) :
    Calls Try.prog 40 #[v] W fun e W' => e = .returned (.int .i64 (xs.length : Int)) ∧ W = W' := by
  obtain ⟨A, c, rfl, hc, hr⟩ := h.len
  clear h hr
  go_enter Try.func40, Try.ntmps40
  go_wp2
  go_ret
  exact ⟨rfl, rfl⟩
/-- one round of down -/
theorem down_stop (lt : S → S → Bool) (k : Nat) (l : List S) (i n : Nat) (h : n ≤ 2 * i + 1) : Hp.down z lt k l i n = l := by
  cases k with
  | zero => rfl
  | succ k => unfold Hp.down; rw [if_pos h]
theorem down_two (lt : S → S → Bool) (k : Nat) (l : List S) (i n : Nat) (h : 2 * i + 2 < n) (hl : lt (l.getD (2 * i + 2) z) (l.getD (2 * i + 1) z) = true) :
    Hp.down z lt (k + 1) l i n = if lt (l.getD (2 * i + 2) z) (l.getD i z) = true then Hp.down z lt k (Hp.swap z l i (2 * i + 2)) (2 * i + 2) n else l := by
  rw [Hp.down, if_neg (by omega)]
  simp only [h, hl, and_self, if_true]
theorem down_one (lt : S → S → Bool) (k : Nat) (l : List S) (i n : Nat) (h0 : 2 * i + 1 < n) (h : ¬ (2 * i + 2 < n ∧ lt (l.getD (2 * i + 2) z) (l.getD (2 * i + 1) z) = true)) :
    Hp.down z lt (k + 1) l i n = if lt (l.getD (2 * i + 1) z) (l.getD i z) = true then Hp.down z lt k (Hp.swap z l i (2 * i + 1)) (2 * i + 1) n else l := by
  rw [Hp.down, if_neg (by omega)]
  simp only [if_neg h]
def SomeBool (e : Ending) : Prop := ∃ b, e = .returned (.bool b)
theorem someBool (b : Bool) : SomeBool (.returned (.bool b)) := ⟨b, rfl⟩
set_option maxHeartbeats 2000000 in
theorem down_any {w0 w W : World} {Q : Nat → Prop} {p : Nat} {v : Value} {xs : List S} (h : IsH w0 w W Q p v xs) (i n : Nat) (hn : n ≤ xs.length) (hm : xs.length ≤ 1152921504606846976) (hi : i ≤ 1152921504606846976) :
    Calls Try.prog 46 #[.iface 75 (.pointer (some ⟨p, 0, none⟩)), .int .i64 (i : Int), .int .i64 (n : Int)] W fun e W' => SomeBool e ∧ IsH w0 w W' Q p v (Hp.down z ltK xs.length xs i n) := by
  have H := Lib.hid h
  have hn1 := nil_any "Less" rfl
  have hn2 := nil_any "Swap" rfl
  have hm1 := fun (n : Nat) (w : World) (h : w.cell? ⟨p, 0, none⟩ = some v) => m_less ⟨p, 0, none⟩ v n w h
  have hm2 := fun (n : Nat) (w : World) (h : w.cell? ⟨p, 0, none⟩ = some v) => m_swap ⟨p, 0, none⟩ v n w h
  clear h
  go_enter Try.func46, Try.ntmps46
  go_wp2
  go_loopg [7] (2 * n - i) (fun k q wr => ∃ (ys : List S) (j m : Nat), k = 2 * n - j ∧ q = .int .i64 j ∧ ys.length = xs.length ∧ n ≤ m + j ∧ j ≤ 1152921504606846976 ∧ Hid (Hp.down z ltK m ys j n = Hp.down z ltK xs.length xs i n) ∧ IsH w0 w wr Q p v ys)
  case atStart => exact ⟨xs, i, xs.length, rfl, rfl, rfl, by omega, hi, Lib.hid rfl, H.out⟩
  case round =>
    obtain ⟨ys, j, m, hk, rfl, hlen, hmj, hj, hD, hI⟩ := hrel
    have HK := Lib.hid hk
    have HL := Lib.hid hlen
    have HI := Lib.hid hI
    have hcell := hI.cell
    clear H hk hlen hI
    have hlen : ys.length ≤ xs.length := by rw [HL.out]; exact Nat.le_refl _
    have hlen2 : xs.length ≤ ys.length := by rw [HL.out]; exact Nat.le_refl _
    by_cases h1 : n ≤ 2 * j + 1
    · go_wp2
      go_ret
      refine ⟨someBool _, ?_⟩
      rw [← hD.out, down_stop _ _ _ _ _ h1]
      exact HI.out
    · obtain ⟨m, rfl⟩ : ∃ m', m = m' + 1 := ⟨m - 1, by omega⟩
      have e1 : (2 * (j : Int) + 1).toNat = 2 * j + 1 := by omega
      have e2 : (2 * (j : Int) + 1 + 1).toNat = 2 * j + 2 := by omega
      have E1 := Lib.hid e1
      have E2 := Lib.hid e2
      clear e1 e2
      by_cases h2 : 2 * j + 2 < n
      · cases hl : ltK (ys.getD (2 * j + 2) z) (ys.getD (2 * j + 1) z) with
        | true =>
          have HL1 := Lib.hid hl
          cases hl2 : ltK (ys.getD (2 * j + 2) z) (ys.getD j z) with
          | true =>
            have HL2 := Lib.hid hl2
            have S1 := Lib.hid trivial
            clear hl hl2
            go_wp2_with (first
              | (go_at_call 68; clear S1; go_must ((with_reducible refine (less_at HI.out (2 * (j : Int) + 1 + 1) (2 * (j : Int) + 1) (by omega) (by omega) (by omega) (by omega)).mono ?_); rintro e w1 ⟨rfl, hI⟩; rw [E1.out, E2.out, HL1.out]; clear hcell; have hcell := hI.cell; replace HI := Lib.hid hI; clear hI))
              | (go_at_call 68; go_must ((with_reducible refine (less_at HI.out (2 * (j : Int) + 1 + 1) (j : Int) (by omega) (by omega) (by omega) (by omega)).mono ?_); rintro e w1 ⟨rfl, hI⟩; rw [E2.out, Int.toNat_natCast, HL2.out]; clear hcell; have hcell := hI.cell; replace HI := Lib.hid hI; clear hI))
              | (go_at_call 69; go_must ((with_reducible refine (swap_at HI.out (j : Int) (2 * (j : Int) + 1 + 1) (by omega) (by omega) (by omega) (by omega)).mono ?_); rintro e w1 ⟨rfl, hI⟩; rw [E2.out, Int.toNat_natCast] at hI; clear hcell; have hcell := hI.cell; replace HI := Lib.hid hI; clear hI)))
            go_roundg (2 * n - (2 * j + 2))
            case measure => have := HK.out; omega
            case rel => exact ⟨_, 2 * j + 2, m, rfl, by go_num, by rw [Hp.swap_len]; exact HL.out, by omega, by omega, Lib.hid (by rw [← hD.out, down_two _ _ _ _ _ h2 HL1.out, if_pos HL2.out]), HI.out⟩
          | false =>
            have HL2 := Lib.hid hl2
            have S1 := Lib.hid trivial
            clear hl hl2
            go_wp2_with (first
              | (go_at_call 68; clear S1; go_must ((with_reducible refine (less_at HI.out (2 * (j : Int) + 1 + 1) (2 * (j : Int) + 1) (by omega) (by omega) (by omega) (by omega)).mono ?_); rintro e w1 ⟨rfl, hI⟩; rw [E1.out, E2.out, HL1.out]; clear hcell; have hcell := hI.cell; replace HI := Lib.hid hI; clear hI))
              | (go_at_call 68; go_must ((with_reducible refine (less_at HI.out (2 * (j : Int) + 1 + 1) (j : Int) (by omega) (by omega) (by omega) (by omega)).mono ?_); rintro e w1 ⟨rfl, hI⟩; rw [E2.out, Int.toNat_natCast, HL2.out]; clear hcell; have hcell := hI.cell; replace HI := Lib.hid hI; clear hI)))
            go_ret
            refine ⟨someBool _, ?_⟩
            rw [← hD.out, down_two _ _ _ _ _ h2 HL1.out, if_neg (by rw [HL2.out]; simp)]
            exact HI.out
        | false =>
          have HL1 := Lib.hid hl
          have HN := Lib.hid (show ¬ (2 * j + 2 < n ∧ ltK (ys.getD (2 * j + 2) z) (ys.getD (2 * j + 1) z) = true) from fun hh => by rw [hl] at hh; simp at hh)
          cases hl2 : ltK (ys.getD (2 * j + 1) z) (ys.getD j z) with
          | true =>
            have HL2 := Lib.hid hl2
            have S1 := Lib.hid trivial
            clear hl hl2
            go_wp2_with (first
              | (go_at_call 68; clear S1; go_must ((with_reducible refine (less_at HI.out (2 * (j : Int) + 1 + 1) (2 * (j : Int) + 1) (by omega) (by omega) (by omega) (by omega)).mono ?_); rintro e w1 ⟨rfl, hI⟩; rw [E1.out, E2.out, HL1.out]; clear hcell; have hcell := hI.cell; replace HI := Lib.hid hI; clear hI))
              | (go_at_call 68; go_must ((with_reducible refine (less_at HI.out (2 * (j : Int) + 1) (j : Int) (by omega) (by omega) (by omega) (by omega)).mono ?_); rintro e w1 ⟨rfl, hI⟩; rw [E1.out, Int.toNat_natCast, HL2.out]; clear hcell; have hcell := hI.cell; replace HI := Lib.hid hI; clear hI))
              | (go_at_call 69; go_must ((with_reducible refine (swap_at HI.out (j : Int) (2 * (j : Int) + 1) (by omega) (by omega) (by omega) (by omega)).mono ?_); rintro e w1 ⟨rfl, hI⟩; rw [E1.out, Int.toNat_natCast] at hI; clear hcell; have hcell := hI.cell; replace HI := Lib.hid hI; clear hI)))
            go_roundg (2 * n - (2 * j + 1))
            case measure => have := HK.out; omega
            case rel => exact ⟨_, 2 * j + 1, m, rfl, by go_num, by rw [Hp.swap_len]; exact HL.out, by omega, by omega, Lib.hid (by rw [← hD.out, down_one _ _ _ _ _ (by omega) HN.out, if_pos HL2.out]), HI.out⟩
          | false =>
            have HL2 := Lib.hid hl2
            have S1 := Lib.hid trivial
            clear hl hl2
            go_wp2_with (first
              | (go_at_call 68; clear S1; go_must ((with_reducible refine (less_at HI.out (2 * (j : Int) + 1 + 1) (2 * (j : Int) + 1) (by omega) (by omega) (by omega) (by omega)).mono ?_); rintro e w1 ⟨rfl, hI⟩; rw [E1.out, E2.out, HL1.out]; clear hcell; have hcell := hI.cell; replace HI := Lib.hid hI; clear hI))
              | (go_at_call 68; go_must ((with_reducible refine (less_at HI.out (2 * (j : Int) + 1) (j : Int) (by omega) (by omega) (by omega) (by omega)).mono ?_); rintro e w1 ⟨rfl, hI⟩; rw [E1.out, Int.toNat_natCast, HL2.out]; clear hcell; have hcell := hI.cell; replace HI := Lib.hid hI; clear hI)))
            go_ret
            refine ⟨someBool _, ?_⟩
            rw [← hD.out, down_one _ _ _ _ _ (by omega) HN.out, if_neg (by rw [HL2.out]; simp)]
            exact HI.out
      · have HN := Lib.hid (show ¬ (2 * j + 2 < n ∧ ltK (ys.getD (2 * j + 2) z) (ys.getD (2 * j + 1) z) = true) from fun hh => h2 hh.1)
        cases hl2 : ltK (ys.getD (2 * j + 1) z) (ys.getD j z) with
        | true =>
          have HL2 := Lib.hid hl2
          clear hl2
          go_wp2_with (first
            | (go_at_call 68; go_must ((with_reducible refine (less_at HI.out (2 * (j : Int) + 1) (j : Int) (by omega) (by omega) (by omega) (by omega)).mono ?_); rintro e w1 ⟨rfl, hI⟩; rw [E1.out, Int.toNat_natCast, HL2.out]; clear hcell; have hcell := hI.cell; replace HI := Lib.hid hI; clear hI))
            | (go_at_call 69; go_must ((with_reducible refine (swap_at HI.out (j : Int) (2 * (j : Int) + 1) (by omega) (by omega) (by omega) (by omega)).mono ?_); rintro e w1 ⟨rfl, hI⟩; rw [E1.out, Int.toNat_natCast] at hI; clear hcell; have hcell := hI.cell; replace HI := Lib.hid hI; clear hI)))
          go_roundg (2 * n - (2 * j + 1))
          case measure => have := HK.out; omega
          case rel => exact ⟨_, 2 * j + 1, m, rfl, by go_num, by rw [Hp.swap_len]; exact HL.out, by omega, by omega, Lib.hid (by rw [← hD.out, down_one _ _ _ _ _ (by omega) HN.out, if_pos HL2.out]), HI.out⟩
        | false =>
          have HL2 := Lib.hid hl2
          clear hl2
          go_wp2_with (first
            | (go_at_call 68; go_must ((with_reducible refine (less_at HI.out (2 * (j : Int) + 1) (j : Int) (by omega) (by omega) (by omega) (by omega)).mono ?_); rintro e w1 ⟨rfl, hI⟩; rw [E1.out, Int.toNat_natCast, HL2.out]; clear hcell; have hcell := hI.cell; replace HI := Lib.hid hI; clear hI)))
          go_ret
          refine ⟨someBool _, ?_⟩
          rw [← hD.out, down_one _ _ _ _ _ (by omega) HN.out, if_neg (by rw [HL2.out]; simp)]
          exact HI.out
end HK
end Go.Proofs.Ytjgmilkgklellaa
namespace Go.Proofs.Ytjgmilkgklellaa
open Go.RowKit Go.Proofs.YtjgmilkgklellaaW.PrintWords Go.Proofs.YtjgmilkgklellaaW.PrintLast Go.Proofs.YtjgmilkgklellaaW.PrintMore PPr
attribute [local go_sem] max2_int min2_int max_two min_two max_three min_three max_four min_four
set_option linter.unusedSimpArgs false
set_option linter.unusedVariables false
namespace HK
/-- an element as a value -/
def elV (x : S) : Value := .agg #[.int .i64 x.f0, .int .i64 x.f1, .int .i64 x.f2]
set_option maxHeartbeats 1000000 in
theorem popm_any {w0 w W : World} {Q : Nat → Prop} {p : Nat} {v : Value} {xs : List S} (h : IsH w0 w W Q p v xs) (hl : 0 < xs.length) (hm : xs.length ≤ 1152921504606846976) :
    Calls Try.prog 74 #[.pointer (some ⟨p, 0, none⟩)] W fun e W' => e = .returned (.iface 68 (elV (xs.getD (xs.length - 1) z))) ∧ ∃ v', IsH w0 w W' Q p v' (xs.take (xs.length - 1)) := by
  obtain ⟨g, cap, rfl, hg, hg2, cells, hgb⟩ := Kd.R_form h.R hl
  obtain ⟨c, hcl, hM, hcc, hfr⟩ := Kd.R_elem h.R z ((xs.length - 1 : Nat) : Int) (by omega) (by omega)
  obtain rfl := k68_openM hM
  have hx0 : W.cell? ⟨g, (xs.length - 1) * 3, none⟩ = some (.int .i64 (xs.getD (xs.length - 1) z).f0) := hcc 0 _ rfl
  have hx1 : W.cell? ⟨g, (xs.length - 1) * 3 + 1, none⟩ = some (.int .i64 (xs.getD (xs.length - 1) z).f1) := hcc 1 _ rfl
  have hx2 : W.cell? ⟨g, (xs.length - 1) * 3 + 2, none⟩ = some (.int .i64 (xs.getD (xs.length - 1) z).f2) := hcc 2 _ rfl
  have hpf := blk_frozen h.B 0
  have hcell := h.cell
  have hplt : p < W.heap.size := blk_lt h.B
  have hne : g ≠ p := by
    rintro rfl
    have h1 := h.B
    rw [hgb] at h1
    injection h1 with h1
    injection h1 with _ h1
    exact absurd h1 (by decide)
  obtain ⟨N, hN⟩ : ∃ N, xs.length = N + 1 := ⟨xs.length - 1, by omega⟩
  obtain ⟨X, hX⟩ : ∃ X, xs.getD (xs.length - 1) z = X := ⟨_, rfl⟩
  have HX := Lib.hid hX
  have HN := Lib.hid hN
  have hcap : N + 1 ≤ cap := by have := (Kd.R_reads' h.R).2.1; omega
  rw [hX] at hx0 hx1 hx2
  rw [hN, Nat.add_sub_cancel] at hx0 hx1 hx2
  have H := Lib.hid h
  rw [hN] at hcell
  clear h hcl hM hcc hfr hX hN hl
  have hm : N ≤ 1152921504606846976 := by have := HN.out; omega
  rw [HN.out]
  go_enter Try.func74, Try.ntmps74
  go_wp2
  go_ret
  refine ⟨?_, _, ((H.out.put ?_).alloc _)⟩
  · rw [← HN.out, HX.out]; rfl
  · rw [Nat.add_sub_cancel]
    have h1 := H.out.R
    rw [HN.out] at h1
    exact Kd.R_take h1 (by rw [HN.out]; omega)
theorem down_0 {w0 w W : World} {Q : Nat → Prop} {p : Nat} {v : Value} {xs : List S} (h : IsH w0 w W Q p v xs) (n : Nat) (hn : n ≤ xs.length) (hm : xs.length ≤ 1152921504606846976) :
    Calls Try.prog 46 #[.iface 75 (.pointer (some ⟨p, 0, none⟩)), .int .i64 0, .int .i64 (n : Int)] W fun e W' => SomeBool e ∧ IsH w0 w W' Q p v (Hp.down z ltK xs.length xs 0 n) := down_any h 0 n hn hm (by omega)
set_option maxHeartbeats 1000000 in
theorem pop_any {w0 w W : World} {Q : Nat → Prop} {p : Nat} {v : Value} {xs : List S} (h : IsH w0 w W Q p v xs) (hl : 0 < xs.length) (hm : xs.length ≤ 1152921504606846976) :
    Calls Try.prog 41 #[.iface 75 (.pointer (some ⟨p, 0, none⟩))] W fun e W' => e = .returned (.iface 68 (elV ((Hp.pop z ltK xs).getD (xs.length - 1) z))) ∧ ∃ v', IsH w0 w W' Q p v' ((Hp.pop z ltK xs).take (xs.length - 1)) := by
  have HI := Lib.hid h
  have hn1 := nil_any "Len" rfl
  have hn2 := nil_any "Swap" rfl
  have hn3 := nil_any "Pop" rfl
  have hm1 := fun (n : Nat) (w : World) (h : w.cell? ⟨p, 0, none⟩ = some v) => m_len ⟨p, 0, none⟩ v n w h
  have hm2 := fun (n : Nat) (w : World) (h : w.cell? ⟨p, 0, none⟩ = some v) => m_swap ⟨p, 0, none⟩ v n w h
  have hm3 := fun (n : Nat) (w : World) => m_pop ⟨p, 0, none⟩ n w
  have hcell := h.cell
  clear h
  obtain ⟨N, hN⟩ : ∃ N, xs.length = N + 1 := ⟨xs.length - 1, by omega⟩
  have HN := Lib.hid hN
  have hm : N ≤ 1152921504606846976 := by omega
  have EN := Lib.hid (show ((xs.length : Int) - 1).toNat = N by omega)
  have hxl : xs.length ≤ N + 1 := by omega
  have hxl2 : N + 1 ≤ xs.length := by omega
  clear hN hl
  go_enter Try.func41, Try.ntmps41
  go_wp2_with (first
    | (go_at_call 40; go_must ((with_reducible refine (len_at HI.out).mono ?_); rintro e w1 ⟨rfl, rfl⟩; rw [HN.out]))
    | (go_at_call 69; go_must ((with_reducible refine (swap_at HI.out 0 (N : Int) (by omega) (by omega) (by omega) (by omega)).mono ?_); rintro e w1 ⟨rfl, hI⟩; replace hI : IsH w0 w w1 Q p v (Hp.swap z xs 0 N) := hI; clear hcell; have hcell := hI.cell; replace HI := Lib.hid hI; clear hI))
    | (go_at_call 46; go_must ((with_reducible refine (down_0 HI.out N (by rw [Hp.swap_len]; omega) (by rw [Hp.swap_len]; omega)).mono ?_); rintro e w1 ⟨⟨b, rfl⟩, hI⟩; rw [Hp.swap_len] at hI; clear hcell; have hcell := hI.cell; replace HI := Lib.hid hI; clear hI))
    | (go_at_call 74; go_must ((with_reducible refine (popm_any HI.out (by rw [Hp.down_len, Hp.swap_len]; omega) (by rw [Hp.down_len, Hp.swap_len]; omega)).mono ?_); rintro e w1 ⟨rfl, v', hI⟩; rw [Hp.down_len, Hp.swap_len] at hI ⊢; replace HI := Lib.hid hI; clear hI)))
  go_ret
  have e : Hp.down z ltK xs.length (Hp.swap z xs 0 N) 0 N = Hp.pop z ltK xs := by unfold Hp.pop; rw [HN.out, Nat.add_sub_cancel]
  have h1 := HI.out
  rw [e] at h1 ⊢
  exact ⟨rfl, _, h1⟩
theorem IsH.grown {w0 w W W1 : World} {Q : Nat → Prop} {p : Nat} {v v1 : Value} {xs ys : List S} (h : IsH w0 w W Q p v xs) (hg : W.grownBy W1 v.ownBlock) (hR : Kd.R k68 68 W1 w0.heap.size (fun k => Q k ∨ w.heap.size ≤ k) v1 ys) (hZ : Below w0.heap.size w0 W1) : IsH w0 w (W1.setCell ⟨p, 0, none⟩ v1) Q p v1 ys := by
  have hne := Kd.R_ne h.R h.B (by decide)
  have hB : W1.heap[p]? = some (.cells #[v] 73 (0, 0)) := (hg.block p (blk_lt h.B) hne).trans h.B
  exact ⟨by simpa using blk_set hB 0 v1, h.P, h.P0, Kd.R_set hR hB (by intro q hq; simp [k68, Kd.iso, Kd.pair, Kd.int, Kd.scalar] at hq; omega) 0 v1, (Kept.of_grown hg h.K (fun k hk => h.R.1 k hk)).setCell h.P _, hZ.setCell h.P0 _⟩
theorem info_el : (Try.prog.info? 68).map (fun i => (i.zero, i.size, i.bytes)) = some (some (.agg #[.int .i64 0, .int .i64 0, .int .i64 0]), 3, 24) := by kernel_rfl
theorem assert_el (x : S) (W : World) : (Instr.typeAssert (.iface 68 (elV x)) 20 68 false).run Try.prog W = .ok (.agg #[.int .i64 x.f0, .int .i64 x.f1, .int .i64 x.f2]) W := by kernel_rfl
set_option maxHeartbeats 1000000 in
theorem pushm_any {w0 w W : World} {Q : Nat → Prop} {p : Nat} {v : Value} {xs : List S} (h : IsH w0 w W Q p v xs) (x : S) (hm : xs.length ≤ 1099511627776) :
    Calls Try.prog 75 #[.pointer (some ⟨p, 0, none⟩), .iface 68 (elV x)] W fun e W' => e = .returned (.tuple #[]) ∧ ∃ v', IsH w0 w W' Q p v' (xs ++ [x]) := by
  have H := Lib.hid h
  have hta := assert_el x
  have hcell := h.cell
  have hpf := blk_frozen h.B 0
  have hplt : p < W.heap.size := blk_lt h.B
  have ⟨A, c, hv, hc, hr⟩ := h.len
  subst hv
  clear h hc hr
  go_enter Try.func75, Try.ntmps75
  go_wp2_with fail
  have hne := Kd.R_ne H.out.R H.out.B (by decide)
  go_region_law
    ((refine Kd.R_append_step k68 (w0 := w0) (W := W.drew) w0.heap.size (by rfl) (.tmp 7) (.tmp 10) 73 68 (.agg #[.int .i64 0, .int .i64 0, .int .i64 0]) 24 (by rfl) Try.underlying73 info_el rfl (by decide) (by omega) (.slice A xs.length c) xs x [.int .i64 x.f0, .int .i64 x.f1, .int .i64 x.f2] (fun k => Q k ∨ w.heap.size ≤ k) (fun _ => False) (by rfl) (by rfl) (k68_mkM _ _ _ x) (fun _ hk => hk.elim) (fun k hk => .inr (Nat.le_trans H.out.K.1 hk)) (Kd.R_drew H.out.R) (below_drew H.out.Z) H.out.Z.size (by omega) ?_; intro v1 w1 hR1 hb1 hg1 hat1; obtain ⟨A1, c1, rfl⟩ := Kd.R_slice hR1; have hB1 : w1.heap[p]? = some (.cells #[.slice A xs.length c] 73 (0, 0)) := (hg1.block p hplt hne).trans H.out.B; have hc1 : w1.cell? ⟨p, 0, none⟩ = some (.slice A xs.length c) := (by simpa using blk_cell hB1 0); have hf1 := blk_frozen hB1 0; have HR1 := Lib.hid hR1; have HB1 := Lib.hid hb1; have HG1 := Lib.hid hg1; have HBB := Lib.hid hB1; clear hR1 hb1 hg1 hat1 hB1))
  all_goals go_end0
  all_goals exact ⟨rfl, _, (H.out.below (below_drew (Below.refl _ _))).grown HG1.out (by have hr := HR1.out; rw [List.length_append, List.length_singleton] at hr; exact hr) HB1.out⟩
theorem up_stop (lt : S → S → Bool) (k : Nat) (l : List S) (j : Nat) (h : (j - 1) / 2 = j) : Hp.up z lt k l j = l := by
  cases k with
  | zero => rfl
  | succ k => unfold Hp.up; rw [if_pos h]
theorem up_one (lt : S → S → Bool) (k : Nat) (l : List S) (j : Nat) (h : ¬ (j - 1) / 2 = j) : Hp.up z lt (k + 1) l j = if lt (l.getD j z) (l.getD ((j - 1) / 2) z) = true then Hp.up z lt k (Hp.swap z l ((j - 1) / 2) j) ((j - 1) / 2) else l := by
  rw [Hp.up, if_neg h]
set_option maxHeartbeats 2000000 in
theorem up_any {w0 w W : World} {Q : Nat → Prop} {p : Nat} {v : Value} {xs : List S} (h : IsH w0 w W Q p v xs) (j0 : Nat) (hj : j0 < xs.length) (hm : xs.length ≤ 1152921504606846976) (m0 : Nat) (hm0 : j0 < m0) :
    Calls Try.prog 45 #[.iface 75 (.pointer (some ⟨p, 0, none⟩)), .int .i64 (j0 : Int)] W fun e W' => e = .returned (.tuple #[]) ∧ IsH w0 w W' Q p v (Hp.up z ltK m0 xs j0) := by
  have H := Lib.hid h
  have hn1 := nil_any "Less" rfl
  have hn2 := nil_any "Swap" rfl
  have hm1 := fun (n : Nat) (w : World) (h : w.cell? ⟨p, 0, none⟩ = some v) => m_less ⟨p, 0, none⟩ v n w h
  have hm2 := fun (n : Nat) (w : World) (h : w.cell? ⟨p, 0, none⟩ = some v) => m_swap ⟨p, 0, none⟩ v n w h
  clear h
  go_enter Try.func45, Try.ntmps45
  go_wp2
  go_loopg [1] j0 (fun k q wr => ∃ (ys : List S) (j m : Nat), j ≤ k ∧ q = .int .i64 j ∧ Hid (ys.length = xs.length) ∧ j < xs.length ∧ j < m ∧ Hid (Hp.up z ltK m ys j = Hp.up z ltK m0 xs j0) ∧ IsH w0 w wr Q p v ys)
  case atStart => exact ⟨xs, j0, m0, Nat.le_refl _, rfl, Lib.hid rfl, hj, hm0, Lib.hid rfl, H.out⟩
  case round =>
    obtain ⟨ys, j, m, hk, rfl, hL, hjl, hjm, hD, hI⟩ := hrel
    have HK := Lib.hid hk
    have HI := Lib.hid hI
    have hcell := hI.cell
    clear H hk hI
    have hlen : ys.length ≤ xs.length := by rw [hL.out]; exact Nat.le_refl _
    have hlen2 : xs.length ≤ ys.length := by rw [hL.out]; exact Nat.le_refl _
    cases j with
    | zero =>
      go_wp2
      go_end0
      exact ⟨rfl, by rw [← hD.out, up_stop _ _ _ _ rfl]; exact HI.out⟩
    | succ j =>
      obtain ⟨m, rfl⟩ : ∃ m', m = m' + 1 := ⟨m - 1, by omega⟩
      obtain ⟨i, hi⟩ : ∃ i, j / 2 = i := ⟨_, rfl⟩
      have hil : i ≤ j := by omega
      have hii : (j : Int) / 2 = (i : Int) := by omega
      have hne1 : ((i : Int) == (j : Int) + 1) = false := beq_eq_false_iff_ne.2 (by omega)
      have HNE := Lib.hid (show ¬ (j + 1 - 1) / 2 = j + 1 by omega)
      have HE := Lib.hid (show (j + 1 - 1) / 2 = i by omega)
      have EJ := Lib.hid (show ((j : Int) + 1).toNat = j + 1 by omega)
      clear hi
      cases hl : ltK (ys.getD (j + 1) z) (ys.getD i z) with
      | true =>
        have HL1 := Lib.hid hl
        clear hl
        go_wp2_with (first
          | (go_at_call 68; go_must ((with_reducible refine (less_at HI.out ((j : Int) + 1) (i : Int) (by omega) (by omega) (by omega) (by omega)).mono ?_); rintro e w1 ⟨rfl, hI⟩; rw [EJ.out, Int.toNat_natCast, HL1.out]; clear hcell; have hcell := hI.cell; replace HI := Lib.hid hI; clear hI))
          | (go_at_call 69; go_must ((with_reducible refine (swap_at HI.out (i : Int) ((j : Int) + 1) (by omega) (by omega) (by omega) (by omega)).mono ?_); rintro e w1 ⟨rfl, hI⟩; rw [EJ.out, Int.toNat_natCast] at hI; clear hcell; have hcell := hI.cell; replace HI := Lib.hid hI; clear hI)))
        go_roundg i
        case measure => have := HK.out; omega
        case rel => exact ⟨_, i, m, Nat.le_refl _, rfl, Lib.hid (by rw [Hp.swap_len]; exact hL.out), by omega, by omega, Lib.hid (by rw [← hD.out, up_one _ _ _ _ HNE.out, HE.out, if_pos HL1.out]), HI.out⟩
      | false =>
        have HL1 := Lib.hid hl
        clear hl
        go_wp2_with (first
          | (go_at_call 68; go_must ((with_reducible refine (less_at HI.out ((j : Int) + 1) (i : Int) (by omega) (by omega) (by omega) (by omega)).mono ?_); rintro e w1 ⟨rfl, hI⟩; rw [EJ.out, Int.toNat_natCast, HL1.out]; clear hcell; have hcell := hI.cell; replace HI := Lib.hid hI; clear hI)))
        go_end0
        exact ⟨rfl, by rw [← hD.out, up_one _ _ _ _ HNE.out, HE.out, if_neg (by rw [HL1.out]; simp)]; exact HI.out⟩
set_option maxHeartbeats 1000000 in
theorem push_any {w0 w W : World} {Q : Nat → Prop} {p : Nat} {v : Value} {xs : List S} (h : IsH w0 w W Q p v xs) (x : S) (hm : xs.length ≤ 1099511627776) :
    Calls Try.prog 39 #[.iface 75 (.pointer (some ⟨p, 0, none⟩)), .iface 68 (elV x)] W fun e W' => e = .returned (.tuple #[]) ∧ ∃ v', IsH w0 w W' Q p v' (Hp.push z ltK xs x) := by
  have HI := Lib.hid h
  have hn1 := nil_any "Len" rfl
  have hn3 := nil_any "Push" rfl
  have hm1 := m_len ⟨p, 0, none⟩
  have hm3 := fun (n : Nat) (w : World) => m_push ⟨p, 0, none⟩ n w
  clear h
  obtain ⟨N, hN⟩ : ∃ N, xs.length = N := ⟨_, rfl⟩
  have HN := Lib.hid hN
  have HL := Lib.hid (show (xs ++ [x]).length = N + 1 by rw [List.length_append, List.length_singleton, hN])
  have hm' : N ≤ 1099511627776 := by omega
  clear hN hm
  go_enter Try.func39, Try.ntmps39
  go_wp2_with (first
    | (go_at_call 75; go_must ((with_reducible refine (pushm_any HI.out x (by rw [HN.out]; exact hm')).mono ?_); rintro e w1 ⟨rfl, v', hI⟩; have hcell := hI.cell; replace HI := Lib.hid hI; clear hI))
    | (go_at_call 40; go_must ((with_reducible refine (len_at HI.out).mono ?_); rintro e w1 ⟨rfl, rfl⟩; rw [HL.out]))
    | (go_at_call 45; go_must ((with_reducible refine (up_any HI.out N (by rw [HL.out]; omega) (by rw [HL.out]; omega) (N + 1) (by omega)).mono ?_); rintro e w1 ⟨rfl, hI⟩; replace HI := Lib.hid hI; clear hI)))
  go_end0
  have e : Hp.up z ltK (N + 1) (xs ++ [x]) N = Hp.push z ltK xs x := by unfold Hp.push; rw [HN.out]
  have h1 := HI.out
  rw [e] at h1
  exact ⟨rfl, _, h1⟩
end HK
end Go.Proofs.Ytjgmilkgklellaa
