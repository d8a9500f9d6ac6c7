/- The contract of spread.order: all keys, the least one first, as the heap tells them. -/
import Derived.Test.YtjgmilkgklellaaHwK
import Derived.Test.YtjgmilkgklellaaPPrx1
namespace Go.Proofs.Ytjgmilkgklellaa
open Go.RowKit Go.Proofs.YtjgmilkgklellaaW.PrintWords Go.Proofs.YtjgmilkgklellaaW.PrintLast Go.Proofs.YtjgmilkgklellaaW.PrintMore PPr HK
attribute [local go_sem] max2_int min2_int max_two min_two max_three min_three max_four min_four
set_option linter.unusedSimpArgs false
set_option linter.unusedVariables false
/-- the heap of the first keys -/
def keysTo (q : List Int) : Nat → List S
  | 0 => []
  | i + 1 => if q.getD i 0 > 0 then Hp.push z ltK (keysTo q i) ⟨q.getD i 0, q.getD i 0, (i : Int)⟩ else keysTo q i
theorem keysTo_len (q : List Int) : ∀ i, (keysTo q i).length ≤ i
  | 0 => by simp [keysTo]
  | i + 1 => by
    have := keysTo_len q i
    rw [keysTo]
    split
    · rw [Hp.push_len]; omega
    · omega
/-- is there a next one -/
def moreK (x : S) : Bool := rightK x.f0 x.f1 x.f2 && !decide (wrap64 (x.f0 + 1) = wrap64 (2 * x.f1))
theorem next_yes (x : S) (h : moreK x = true) : frac_Next.f x.f0 x.f1 x.f2 = some (wrap64 (x.f0 + 1), x.f1, x.f2, true) := by
  unfold moreK at h
  rw [Bool.and_eq_true, Bool.not_eq_true', decide_eq_false_iff_not] at h
  unfold frac_Next.f
  rw [right_some, h.1, Option.bind_some, if_pos rfl, if_neg h.2]
theorem next_no (x : S) (h : moreK x = false) : frac_Next.f x.f0 x.f1 x.f2 = some (0, 0, 0, false) := by
  unfold moreK at h
  unfold frac_Next.f
  rw [right_some]
  cases hr : rightK x.f0 x.f1 x.f2 with
  | false => rfl
  | true =>
    rw [hr, Bool.true_and, Bool.not_eq_false', decide_eq_true_iff] at h
    rw [Option.bind_some, if_pos rfl, if_pos h]
/-- one comes off, and its next one in -/
def ordTo : Nat → List S → List S → Option (List S)
  | 0, _, _ => none
  | k + 1, l, out => if l.length = 0 then some out else
    if moreK ((Hp.pop z ltK l).getD (l.length - 1) z) = true then
      ordTo k (Hp.push z ltK ((Hp.pop z ltK l).take (l.length - 1)) ⟨wrap64 (((Hp.pop z ltK l).getD (l.length - 1) z).f0 + 1), ((Hp.pop z ltK l).getD (l.length - 1) z).f1, ((Hp.pop z ltK l).getD (l.length - 1) z).f2⟩) (out ++ [(Hp.pop z ltK l).getD (l.length - 1) z])
    else ordTo k ((Hp.pop z ltK l).take (l.length - 1)) (out ++ [(Hp.pop z ltK l).getD (l.length - 1) z])
def orderF (q : List Int) : Option (List S) := if q.length ≤ 4096 then ordTo 5000 (keysTo q q.length) [] else none
theorem k46_E : k68.E = [] := rfl
/-- a heap in a variable, and a row, apart from each other -/
structure Twin (w W : World) (u : Value) (out : List S) (p : Nat) (v : Value) (ys : List S) : Prop where
  I : IsH w W W (fun k => w.heap.size ≤ k ∧ some k ≠ u.ownBlock) p v ys
  O : Kd.R k68 68 W w.heap.size (fun k => k ≠ p) u out
theorem Twin.own_lt {w W : World} {u : Value} {out : List S} {p : Nat} {v : Value} {ys : List S} (h : Twin w W u out p v ys) (k : Nat) (hk : u.ownBlock = some k) : k < W.heap.size := (Kd.R_bound h.O).1 k hk |>.2.2.1
theorem Twin.step {w W W2 : World} {u : Value} {out : List S} {p : Nat} {v v2 : Value} {ys zs : List S} (h : Twin w W u out p v ys) (h2 : IsH w W W2 (fun k => w.heap.size ≤ k ∧ some k ≠ u.ownBlock) p v2 zs) : Twin w W2 u out p v2 zs := by
  have hn : ∀ k, W.heap.size ≤ k → some k ≠ u.ownBlock := fun k hk e => by have := h.own_lt k e.symm; omega
  have hs : w.heap.size ≤ W.heap.size := h.I.Z.size
  have hq : ∀ k, ((w.heap.size ≤ k ∧ some k ≠ u.ownBlock) ∨ W.heap.size ≤ k) → (w.heap.size ≤ k ∧ some k ≠ u.ownBlock) := fun k hk => hk.elim id (fun h => ⟨by omega, hn k h⟩)
  exact ⟨⟨h2.B, .inl (hq _ h2.P), h2.P0, Kd.R_mono h2.R (fun k hk => .inl (hq k hk)), Kept.refl _ _, h2.Z⟩,
    Kd.R_mono (Kd.R_kept (Kd.R_tight k46_E h.O) h2.K (fun k hk hQ => hQ.2 hk)) (fun k hk => h.O.1 k hk.symm)⟩
theorem Twin.below {w W W2 : World} {u : Value} {out : List S} {p : Nat} {v : Value} {ys : List S} (h : Twin w W u out p v ys) (hb : Below W.heap.size W W2) : Twin w W2 u out p v ys := h.step (h.I.below hb)
theorem Twin.app {w W W1 : World} {u u1 : Value} {out o1 : List S} {p : Nat} {v : Value} {ys : List S} (h : Twin w W u out p v ys) (hR : Kd.R k68 68 W1 w.heap.size (fun k => k ≠ p) u1 o1) (hb : Below w.heap.size w W1) (hg : W.grownBy W1 u.ownBlock) (hat : u1.ownBlock = u.ownBlock ∨ ∃ b, u1.ownBlock = some b ∧ W.heap.size ≤ b) : Twin w W1 u1 o1 p v ys := by
  have hlt := blk_lt h.I.B
  have hp : some p ≠ u.ownBlock := fun e => h.O.1 p e.symm rfl
  have hq : ∀ k, k < W.heap.size → some k ≠ u.ownBlock → some k ≠ u1.ownBlock := by
    intro k hk hn e
    rcases hat with ha | ⟨b, ha, hb⟩
    · exact hn (e.trans ha)
    · rw [ha] at e; cases e; omega
  refine ⟨⟨(hg.block p hlt hp).trans h.I.B, .inl ⟨h.I.P0, hq p hlt hp⟩, h.I.P0, ?_, Kept.refl _ _, hb⟩, hR⟩
  refine Kd.R_mono (Kd.R_grown (Kd.R_bound h.I.R) hg (fun k hk => ?_)) (fun k hk => .inl ⟨hk.2.1, hq k hk.2.2.1 ?_⟩)
  · rcases hk.1 with h1 | h1
    · exact h1.2
    · have := hk.2.2.1; omega
  · rcases hk.1 with h1 | h1
    · exact h1.2
    · have := hk.2.2.1; omega
theorem zero_keys (W : World) : Sem.run Try.prog (zeroValue 73) W = .ok (.slice none 0 0) W := by kernel_rfl
theorem zero_out (W : World) : Sem.run Try.prog (zeroValue 65) W = .ok (.slice none 0 0) W := by kernel_rfl
theorem pushk_at {w0 w W : World} {Q : Nat → Prop} {p : Nat} {v : Value} {xs : List S} (h : IsH w0 w W Q p v xs) (a b c : Int) (hm : xs.length ≤ 1099511627776) :
    Calls Try.prog 39 #[.iface 75 (.pointer (some ⟨p, 0, none⟩)), .iface 68 (.agg #[.int .i64 a, .int .i64 b, .int .i64 c])] W fun e W' => e = .returned (.tuple #[]) ∧ ∃ v', IsH w0 w W' Q p v' (Hp.push z ltK xs ⟨a, b, c⟩) := push_any h ⟨a, b, c⟩ hm
set_option maxHeartbeats 4000000 in
theorem order_any (A0 : Option Addr) (c0 : Nat) (l0 : List Int) (r : List S) (w : World) (hr0 : ReadsInt w .i64 A0 l0.length l0) (hm : l0.length ≤ 4096) (h : ordTo 5000 (keysTo l0 l0.length) [] = some r) :
    Calls Try.prog 31 #[.slice A0 l0.length c0] w fun e w' => ∃ v0_ : Value, e = .returned (v0_) ∧ Kd.R k68 68 w' w.heap.size (fun _ => True) v0_ r ∧ Below w.heap.size w w' := by
  have hz := zero_keys
  have hz2 := zero_out
  have HH := Lib.hid h
  have HR := Lib.hid hr0
  have I0 : IsH w w (w.alloc (.cells #[.slice none 0 0] 73)) (fun k => w.heap.size ≤ k) w.heap.size (.slice none 0 0) [] :=
    ⟨by simpa using heap_alloc_new w (.cells #[.slice none 0 0] 73), .inl (Nat.le_refl _), Nat.le_refl _, Kd.R_nil _ _ _ _ _, (Kept.refl w _).alloc _, (Below.refl w.heap.size w).alloc (Nat.le_refl _) _⟩
  have HI := Lib.hid I0
  clear h hr0 I0
  go_enter Try.func31, Try.ntmps31
  go_wp2_with fail
  clear hz
  go_loopg [12] l0.length (fun k q wr => ∃ (i : Nat) (v : Value), i ≤ l0.length ∧ k = l0.length - i ∧ q = .int .i64 i ∧ Hid (IsH w w wr (fun k => w.heap.size ≤ k) w.heap.size v (keysTo l0 i)))
  case atStart => exact ⟨0, _, by omega, rfl, rfl, HI⟩
  case round =>
    obtain ⟨i, v, hi, hk, rfl, hI⟩ := hrel
    have HK := Lib.hid hk
    clear HI hk
    have HI := hI
    clear hI
    by_cases hlt : i < l0.length
    · obtain ⟨ad, hA, hc⟩ := reads_cell HR.out i hlt
      subst hA
      have hc' := pw_cell_below HI.out.Z hc
      have HL := Lib.hid (keysTo_len l0 i)
      obtain ⟨X, hX⟩ : ∃ X, l0.getD i 0 = X := ⟨_, rfl⟩
      rw [hX] at hc'
      clear hc
      by_cases hpos : X > 0
      · have hK1 : keysTo l0 (i + 1) = Hp.push z ltK (keysTo l0 i) ⟨X, X, (i : Int)⟩ := by rw [keysTo, hX, if_pos hpos]
        have HK1 := Lib.hid hK1
        clear hK1 hX
        go_wp2_with (go_at_call 39; go_must ((with_reducible refine (pushk_at HI.out X X (i : Int) (by have := HL.out; omega)).mono ?_); rintro e w3 ⟨rfl, v3, hI3⟩; have HI3 := Lib.hid hI3; clear hI3))
        go_roundg (l0.length - (i + 1))
        case measure => have := HK.out; omega
        case rel => exact ⟨i + 1, v3, by omega, rfl, by go_num, by rw [HK1.out]; exact HI3⟩
      · have hK1 : keysTo l0 (i + 1) = keysTo l0 i := by rw [keysTo, hX, if_neg hpos]
        have HK1 := Lib.hid hK1
        clear hK1 hX
        go_wp2
        go_roundg (l0.length - (i + 1))
        case measure => have := HK.out; omega
        case rel => exact ⟨i + 1, v, by omega, rfl, by go_num, by rw [HK1.out]; exact HI⟩
    · obtain rfl : i = l0.length := by omega
      go_wp2_with fail
      clear hz2
      have hta := assert_el
      have T0 : Twin w wr (.slice none 0 0) [] w.heap.size v (keysTo l0 l0.length) :=
        ⟨⟨HI.out.B, .inl ⟨HI.out.P0, by simp [Value.ownBlock]⟩, HI.out.P0, Kd.R_mono (Kd.R_bound HI.out.R) (fun k hk => .inl ⟨hk.2.1, by simp [Value.ownBlock]⟩), Kept.refl _ _, HI.out.Z⟩, Kd.R_nil _ _ _ _ _⟩
      have TT0 := Lib.hid T0
      have HL0 := Lib.hid (keysTo_len l0 l0.length)
      clear T0 HI HK
      go_loopg [6] 5000 (fun k q wr => ∃ (m : Nat) (out ys : List S) (v : Value), Hid (m ≤ k) ∧ Hid (Twin w wr q out w.heap.size v ys) ∧ Hid (ordTo m ys out = some r) ∧ Hid (ys.length ≤ 4096) ∧ Hid (out.length + m ≤ 5000))
      case atStart => exact ⟨5000, [], _, v, Lib.hid (by omega), TT0, HH, Lib.hid (by have := HL0.out; omega), Lib.hid (by simp)⟩
      case round =>
        clear TT0 HH HL0
        obtain ⟨m, out, ys, v, hk, T, hD, hy, ho⟩ := hrel
        have hcell := T.out.I.cell
        obtain ⟨m, rfl⟩ : ∃ m', m = m' + 1 := by
          cases m with
          | zero => have := hD.out; rw [ordTo] at this; cases this
          | succ m => exact ⟨m, rfl⟩
        by_cases h0 : ys.length = 0
        · have hr : out = r := by have := hD.out; rw [ordTo, if_pos h0] at this; exact Option.some.inj this
          have HRR := Lib.hid hr
          have H0 := Lib.hid h0
          clear hr h0
          go_wp2_with (go_at_call 40; go_must ((with_reducible refine (len_at T.out.I).mono ?_); rintro e w1 ⟨rfl, rfl⟩; rw [H0.out]))
          go_ret
          exact ⟨_, rfl, by rw [← HRR.out]; exact Kd.R_mono T.out.O (fun _ _ => trivial), T.out.I.Z⟩
        · have hpos : 0 < ys.length := by omega
          obtain ⟨x, hx⟩ : ∃ x, (Hp.pop z ltK ys).getD (ys.length - 1) z = x := ⟨_, rfl⟩
          have HX := Lib.hid hx
          have hlen : ((ys.length : Int) > 0) := by omega
          clear hx h0
          have hpw : ¬ (w.heap.size = wr.heap.size) := by have := blk_lt T.out.I.B; omega
          have HB0 := Lib.hid (show w.heap.size < wr.heap.size from blk_lt T.out.I.B)
          have POP := Lib.hid (show ((Hp.pop z ltK ys).take (ys.length - 1)).length ≤ 4096 by rw [List.length_take]; have := hy.out; omega)
          cases hmore : moreK x with
          | true =>
            have HN := Lib.hid (next_yes x hmore)
            have HD := Lib.hid (show ordTo m (Hp.push z ltK ((Hp.pop z ltK ys).take (ys.length - 1)) ⟨wrap64 (x.f0 + 1), x.f1, x.f2⟩) (out ++ [x]) = some r by have := hD.out; rw [ordTo, if_neg (by omega), HX.out, if_pos hmore] at this; exact this)
            clear hmore
            go_wp2_with (first
              | (go_at_call 40; go_must ((with_reducible refine (len_at T.out.I).mono ?_); rintro e w1 ⟨rfl, rfl⟩))
              | (go_at_call 41; go_must ((with_reducible refine (pop_any T.out.I hpos (by have := hy.out; omega)).mono ?_); rintro e w2 ⟨rfl, v', hI⟩; rw [HX.out]; have T2 := Lib.hid (T.out.step hI); have T3 := Lib.hid (T2.out.below (below_alloc (Below.refl _ _) (.cells #[.int .i64 x.f0, .int .i64 x.f1, .int .i64 x.f2] 68))); have OW := Lib.hid (show some w2.heap.size ≠ u6.ownBlock from fun e => by have := T2.out.own_lt _ e.symm; omega); have HSZ := Lib.hid (show w.heap.size < w2.heap.size from blk_lt T2.out.I.B); clear hI))
              | ((with_reducible refine gate_builtin (b := .append) (xs := #[.tmp 33, .tmp 35]) rfl ?_); at_builtin; go_must (refine Kd.R_append k68 (w0 := w) (W := w2.alloc (.cells #[.int .i64 x.f0, .int .i64 x.f1, .int .i64 x.f2] 68)) w.heap.size rfl (.tmp 33) (.tmp 35) 65 68 (.agg #[(.int .i64 0), (.int .i64 0), (.int .i64 0)]) 24 rfl Try.underlying65 info_el rfl (by decide) (by omega) u6 out x [.int .i64 x.f0, .int .i64 x.f1, .int .i64 x.f2] (fun k => k ≠ w.heap.size) (fun _ => False) rfl (by simp; rfl) (k68_mkM _ _ _ x) (fun _ hk => hk.elim) (fun k hk => by have := HSZ.out; simp at hk; omega) T3.out.O T3.out.I.Z T3.out.I.Z.size (by have := ho.out; omega) ?_; intro v1 w4 hR1 hb1 hg1 hat1; have T4 := Lib.hid (T3.out.app hR1 hb1 hg1 hat1); have BX := Lib.hid ((hg1.block w2.heap.size (by simp) OW.out).trans (heap_alloc_new w2 (.cells #[.int .i64 x.f0, .int .i64 x.f1, .int .i64 x.f2] 68))); clear hR1 hb1 hg1 hat1; have kc0 := blk_cell BX.out 0; have kc1 := blk_cell BX.out 1; have kc2 := blk_cell BX.out 2))
              | (go_at_call 42; go_must ((with_reducible refine (frac_Next.calls x.f0 x.f1 x.f2 _ _ _ _ _ HN.out).mono ?_); rintro e w5 ⟨rfl, hb⟩; have T5 := Lib.hid (T4.out.below hb); clear hb; have T6 := Lib.hid (T5.out.below (below_alloc (Below.refl _ _) (.cells #[.int .i64 (wrap64 (x.f0 + 1)), .int .i64 x.f1, .int .i64 x.f2] 68)))))
              | (go_at_call 39; go_must ((with_reducible refine (pushk_at T6.out.I (wrap64 (x.f0 + 1)) x.f1 x.f2 (by have := POP.out; omega)).mono ?_); rintro e w7 ⟨rfl, v7, hI7⟩; have T7 := Lib.hid (T6.out.step hI7); clear hI7)))
            go_roundg m
            case measure => have := hk.out; omega
            case rel => exact ⟨m, out ++ [x], _, _, Lib.hid (Nat.le_refl _), T7, HD, Lib.hid (by rw [Hp.push_len, List.length_take]; have := hy.out; have := POP.out; omega), Lib.hid (by rw [List.length_append, List.length_singleton]; have := ho.out; omega)⟩
          | false =>
            have HN := Lib.hid (next_no x hmore)
            have HD := Lib.hid (show ordTo m ((Hp.pop z ltK ys).take (ys.length - 1)) (out ++ [x]) = some r by have := hD.out; rw [ordTo, if_neg (by omega), HX.out, if_neg (by rw [hmore]; simp)] at this; exact this)
            clear hmore
            go_wp2_with (first
              | (go_at_call 40; go_must ((with_reducible refine (len_at T.out.I).mono ?_); rintro e w1 ⟨rfl, rfl⟩))
              | (go_at_call 41; go_must ((with_reducible refine (pop_any T.out.I hpos (by have := hy.out; omega)).mono ?_); rintro e w2 ⟨rfl, v', hI⟩; rw [HX.out]; have T2 := Lib.hid (T.out.step hI); have T3 := Lib.hid (T2.out.below (below_alloc (Below.refl _ _) (.cells #[.int .i64 x.f0, .int .i64 x.f1, .int .i64 x.f2] 68))); have OW := Lib.hid (show some w2.heap.size ≠ u6.ownBlock from fun e => by have := T2.out.own_lt _ e.symm; omega); have HSZ := Lib.hid (show w.heap.size < w2.heap.size from blk_lt T2.out.I.B); clear hI))
              | ((with_reducible refine gate_builtin (b := .append) (xs := #[.tmp 33, .tmp 35]) rfl ?_); at_builtin; go_must (refine Kd.R_append k68 (w0 := w) (W := w2.alloc (.cells #[.int .i64 x.f0, .int .i64 x.f1, .int .i64 x.f2] 68)) w.heap.size rfl (.tmp 33) (.tmp 35) 65 68 (.agg #[(.int .i64 0), (.int .i64 0), (.int .i64 0)]) 24 rfl Try.underlying65 info_el rfl (by decide) (by omega) u6 out x [.int .i64 x.f0, .int .i64 x.f1, .int .i64 x.f2] (fun k => k ≠ w.heap.size) (fun _ => False) rfl (by simp; rfl) (k68_mkM _ _ _ x) (fun _ hk => hk.elim) (fun k hk => by have := HSZ.out; simp at hk; omega) T3.out.O T3.out.I.Z T3.out.I.Z.size (by have := ho.out; omega) ?_; intro v1 w4 hR1 hb1 hg1 hat1; have T4 := Lib.hid (T3.out.app hR1 hb1 hg1 hat1); have BX := Lib.hid ((hg1.block w2.heap.size (by simp) OW.out).trans (heap_alloc_new w2 (.cells #[.int .i64 x.f0, .int .i64 x.f1, .int .i64 x.f2] 68))); clear hR1 hb1 hg1 hat1; have kc0 := blk_cell BX.out 0; have kc1 := blk_cell BX.out 1; have kc2 := blk_cell BX.out 2))
              | (go_at_call 42; go_must ((with_reducible refine (frac_Next.calls x.f0 x.f1 x.f2 _ _ _ _ _ HN.out).mono ?_); rintro e w5 ⟨rfl, hb⟩; have T5 := Lib.hid (T4.out.below hb); clear hb; have T6 := Lib.hid (T5.out.below (below_alloc (Below.refl _ _) (.cells #[.int .i64 0, .int .i64 0, .int .i64 0] 68))))))
            go_roundg m
            case measure => have := hk.out; omega
            case rel => exact ⟨m, out ++ [x], _, _, Lib.hid (Nat.le_refl _), T6, HD, Lib.hid (by have := POP.out; omega), Lib.hid (by rw [List.length_append, List.length_singleton]; have := ho.out; omega)⟩
theorem order_calls (A0 : Option Addr) (c0 : Nat) (l0 : List Int) (r : List S) (w : World) (hr0 : Kd.C (Kd.int .i64) w A0 l0.length l0) (h : orderF l0 = some r) :
    Calls Try.prog 31 #[.slice A0 l0.length c0] w fun e w' => ∃ v0_ : Value, e = .returned (v0_) ∧ Kd.R k68 68 w' w.heap.size (fun _ => True) v0_ r ∧ Below w.heap.size w w' := by
  unfold orderF at h
  by_cases hm : l0.length ≤ 4096
  · rw [if_pos hm] at h
    exact order_any A0 c0 l0 r w (Kd.reads_of_C (d := (0 : Int)) hr0) hm h
  · rw [if_neg hm] at h; cases h
end Go.Proofs.Ytjgmilkgklellaa
