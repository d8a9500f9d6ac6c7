/- The contract of norm.give: one more to the first claims, as the heap tells them. -/
import Derived.Test.YtlcpcnachdbboaaHxC
namespace Go.Proofs.Ytlcpcnachdbboaa
open Go.RowKit Go.Proofs.YtlcpcnachdbboaaW.PrintWords Go.Proofs.YtlcpcnachdbboaaW.PrintLast Go.Proofs.YtlcpcnachdbboaaW.PrintMore PPr HC
attribute [local go_sem] max2_int min2_int max_two min_two max_three min_three max_four min_four
set_option linter.unusedSimpArgs false
set_option linter.unusedVariables false
/-- one more to the first one, so many times -/
def giveTo : Nat → List Int → List S40 → Option (List Int)
  | 0, q, _ => some q
  | n + 1, q, l => if l.length = 0 then none else
    if 0 ≤ ((Hp.pop z40 ltC l).getD (l.length - 1) z40).f0 ∧ ((Hp.pop z40 ltC l).getD (l.length - 1) z40).f0 < (q.length : Int) then
      giveTo n (q.set ((Hp.pop z40 ltC l).getD (l.length - 1) z40).f0.toNat (wrap64 (rd q ((Hp.pop z40 ltC l).getD (l.length - 1) z40).f0 + 1))) ((Hp.pop z40 ltC l).take (l.length - 1))
    else none
def giveF (q : List Int) (l : List S40) (many : Int) : Option (List Int) := if (l.length ≤ 1152921504606846976 ∧ many ≤ 4611686018427387904) ∧ 0 ≤ many then giveTo many.toNat q (Hp.init z40 ltC l) else none
theorem assert_ok (x : S40) (W : World) : (Instr.typeAssert (.iface 40 (elV x)) 20 40 false).run Try.prog W = .ok (.agg #[.int .i64 x.f0, .int .i64 x.f1, .int .i64 x.f2]) W := by kernel_rfl
theorem own_keep {W W2 : World} {base g N cap : Nat} {e : TypeId} {Q : Nat → Prop} {cs : List Value} (h : W.ownsRow base e 1 (.slice (some ⟨g, 0, none⟩) N cap) N cs) (hK : Kept W W2 Q) (hg : g < W.heap.size) (hQ : ¬ Q g) : W2.ownsRow base e 1 (.slice (some ⟨g, 0, none⟩) N cap) N cs :=
  own_move h (fun k hk => by
    have hk : g = k := by simpa [Value.ownBlock] using hk
    subst hk
    exact hK.2 g hg hQ)
theorem kept_mono {W W2 : World} {Q S : Nat → Prop} (hK : Kept W W2 Q) (h : ∀ k, k < W.heap.size → Q k → S k) : Kept W W2 S := ⟨hK.1, fun i hi hn => hK.2 i hi (fun hq => hn (h i hi hq))⟩
theorem field_0 (a b c : Value) (W : World) : (Instr.field 40 (.agg #[a, b, c]) 0).run Try.prog W = .ok a W := by kernel_rfl
/-- what the rounds keep -/
structure Rnd (w0 w wr : World) (S : Nat → Prop) (Q : Nat → Prop) (u : Value) (N : Nat) (q : List Int) (v : Value) (ys : List S40) : Prop where
  O : wr.ownsRow w0.heap.size 3 1 u N (nums .i64 q)
  I : IsH w0 wr wr Q w.heap.size v ys
  K : Kept w wr S
theorem giveTo_succ {n : Nat} {q : List Int} {l : List S40} {r : List Int} (h : giveTo (n + 1) q l = some r) :
    ∃ x, (Hp.pop z40 ltC l).getD (l.length - 1) z40 = x ∧ 0 < l.length ∧ 0 ≤ x.f0 ∧ x.f0 < (q.length : Int) ∧ giveTo n (q.set x.f0.toNat (wrap64 (rd q x.f0 + 1))) ((Hp.pop z40 ltC l).take (l.length - 1)) = some r := by
  refine ⟨_, rfl, ?_⟩
  rw [giveTo] at h
  split at h
  · cases h
  · rename_i h0
    split at h
    · rename_i h1
      exact ⟨by omega, h1.1, h1.2, h⟩
    · cases h
set_option maxHeartbeats 2000000 in
theorem give_some (P0_ : Nat → Prop) (g cap : Nat) (l0 : List Int) (P1_ : Nat → Prop) (u1 : Value) (l1 : List S40) (n : Nat) (r : List Int) (w0 w : World) (hB : Below w0.heap.size w0 w) (ho : w.ownsRow w0.heap.size 3 1 (.slice (some ⟨g, 0, none⟩) l0.length cap) l0.length (nums .i64 l0)) (hP : P0_ g) (hg0 : w0.heap.size ≤ g) (hgw : g < w.heap.size)
    (hR : Kd.R k40 40 w w0.heap.size (fun k => P1_ k ∧ k ≠ g) u1 l1) (hm : l1.length ≤ 1152921504606846976) (hn : n ≤ 4611686018427387904) (h : giveTo n l0 (Hp.init z40 ltC l1) = some r) :
    Calls Try.prog 19 #[.slice (some ⟨g, 0, none⟩) l0.length cap, u1, .int .i64 (n : Int)] w fun e w' => e = .returned (.tuple #[]) ∧ w'.ownsRow w0.heap.size 3 1 (.slice (some ⟨g, 0, none⟩) l0.length cap) l0.length (nums .i64 r) ∧ Below w0.heap.size w0 w' ∧ Kept w w' (fun k_ => P0_ k_ ∨ P1_ k_) := by
  obtain ⟨A1, c1, rfl⟩ := Kd.R_slice hR
  have hta := assert_ok
  have hfd := field_0
  obtain ⟨N, hN⟩ : ∃ N, l0.length = N := ⟨_, rfl⟩
  rw [hN] at ho ⊢
  have HH := Lib.hid h
  have HO := Lib.hid ho
  have hQg : ¬ ((P1_ g ∧ g ≠ g) ∨ w.heap.size ≤ g) := by omega
  have I0 : IsH w0 w (w.alloc (.cells #[.slice A1 l1.length c1] 38)) (fun k => (P1_ k ∧ k ≠ g) ∨ w.heap.size ≤ k) w.heap.size (.slice A1 l1.length c1) l1 :=
    ⟨by simpa using heap_alloc_new w (.cells #[.slice A1 l1.length c1] 38), .inl (.inr (Nat.le_refl _)), hB.size, Kd.R_alloc (Kd.R_mono hR (fun k hk => .inl (.inl hk))) _, (Kept.refl w _).alloc _, hB.alloc hB.size _⟩
  have HI := Lib.hid I0
  clear h ho hR I0 hN
  go_enter Try.func19, Try.ntmps19
  go_wp2_with (go_at_call 28; go_must ((with_reducible refine (init_any HI.out hm).mono ?_); rintro e w1 ⟨rfl, hI⟩; have HJ := Lib.hid hI; clear hI))
  have hlen0 := Lib.hid (Hp.init_len z40 ltC l1)
  have R0 := Lib.hid (⟨own_keep HO.out HJ.out.K hgw hQg, HJ.out.self (fun k hk => .inr hk), kept_mono HJ.out.K (fun k hk hq => hq.elim (fun h => .inr h.1) (fun h => by omega))⟩ : Rnd w0 w w1 (fun k => P0_ k ∨ P1_ k) (fun k => (P1_ k ∧ k ≠ g) ∨ w.heap.size ≤ k) (.slice (some ⟨g, 0, none⟩) N cap) N l0 (.slice A1 l1.length c1) (Hp.init z40 ltC l1))
  go_loopg [9] n (fun k c wr => ∃ (i m : Nat) (q : List Int) (v : Value) (ys : List S40), m ≤ k ∧ c = .int .i64 i ∧ i ≤ n ∧ Hid (i + m = n) ∧ ys.length ≤ 1152921504606846976 ∧ Hid (giveTo m q ys = some r) ∧ Rnd w0 w wr (fun k => P0_ k ∨ P1_ k) (fun k => (P1_ k ∧ k ≠ g) ∨ w.heap.size ≤ k) (.slice (some ⟨g, 0, none⟩) N cap) N q v ys)
  case atStart => exact ⟨0, n, l0, _, _, Nat.le_refl _, rfl, by omega, Lib.hid (by omega), by rw [hlen0.out]; exact hm, HH, R0.out⟩
  case round =>
    obtain ⟨i, m, q, v, ys, hk, rfl, hi, him, hys, hD, hR⟩ := hrel
    have HK := Lib.hid hk
    have HR := Lib.hid hR
    clear hk hR
    by_cases hlt : i < n
    · obtain ⟨m, rfl⟩ : ∃ m', m = m' + 1 := ⟨m - 1, by have := him.out; omega⟩
      obtain ⟨x, hx, hpos, hx0, hx1, hD2⟩ := giveTo_succ hD.out
      have HX := Lib.hid hx
      have HD2 := Lib.hid hD2
      have hql : q.length = N := by have := HR.out.O.1; simpa [nums] using this
      rw [hql] at hx1
      have HQL := Lib.hid hql
      clear hx hD2 hql
      go_wp2_with (go_at_call 29; go_must ((with_reducible refine (pop_any HR.out.I hpos hys).mono ?_); rintro e w2 ⟨rfl, v', hI⟩; rw [HX.out]; obtain ⟨hc, hf⟩ := own_at (own_keep HR.out.O hI.K (Nat.lt_of_lt_of_le hgw HR.out.K.1) hQg) x.f0 hx0 hx1; have HI2 := Lib.hid hI; clear hI))
      have HO2 := Lib.hid (own_keep HR.out.O HI2.out.K (Nat.lt_of_lt_of_le hgw HR.out.K.1) hQg)
      go_roundg m
      case measure => have := HK.out; omega
      case rel =>
        have hst := own_store HO2.out x.f0 (wrap64 (rd q x.f0 + 1))
        exact ⟨i + 1, m, _, _, _, Nat.le_refl _, by go_num, by omega, Lib.hid (by have := him.out; omega), by rw [List.length_take, Hp.pop_len]; omega, HD2, ⟨hst.1, (HI2.out.self (fun k hk => .inr (Nat.le_trans HR.out.K.1 hk))).far hQg (Nat.lt_of_lt_of_le hgw (Nat.le_trans HR.out.K.1 HI2.out.K.1)) hg0, (HR.out.K.then_ HI2.out.K (fun k hk => hk.elim (fun h => .inl (.inr h.1)) .inr)).setCell (.inl (.inl hP)) _⟩⟩
    · obtain rfl : i = n := by omega
      have hm0 : m ≤ 0 := by have := him.out; omega
      obtain rfl : m = 0 := by omega
      have hr : q = r := by have := hD.out; rw [giveTo] at this; exact Option.some.inj this
      have HRR := Lib.hid hr
      clear hr
      go_wp2
      go_end0
      exact ⟨rfl, by rw [← HRR.out]; exact HR.out.O, HR.out.I.Z, HR.out.K⟩
set_option maxHeartbeats 1000000 in
theorem give_zero (u0 : Value) (P1_ : Nat → Prop) (u1 : Value) (l1 : List S40) (w0 w : World) (hB : Below w0.heap.size w0 w)
    (hR : Kd.R k40 40 w w0.heap.size P1_ u1 l1) (hm : l1.length ≤ 1152921504606846976) :
    Calls Try.prog 19 #[u0, u1, .int .i64 0] w fun e w' => e = .returned (.tuple #[]) ∧ Below w0.heap.size w0 w' ∧ Kept w w' P1_ := by
  obtain ⟨A1, c1, rfl⟩ := Kd.R_slice hR
  have I0 : IsH w0 w (w.alloc (.cells #[.slice A1 l1.length c1] 38)) P1_ w.heap.size (.slice A1 l1.length c1) l1 :=
    ⟨by simpa using heap_alloc_new w (.cells #[.slice A1 l1.length c1] 38), .inr (Nat.le_refl _), hB.size, Kd.R_alloc (Kd.R_mono hR (fun k hk => .inl hk)) _, (Kept.refl w _).alloc _, hB.alloc hB.size _⟩
  have HI := Lib.hid I0
  clear hR I0
  go_enter Try.func19, Try.ntmps19
  go_wp2_with (go_at_call 28; go_must ((with_reducible refine (init_any HI.out hm).mono ?_); rintro e w1 ⟨rfl, hI⟩; have HJ := Lib.hid hI; clear hI))
  go_loopg [9] 0 (fun k c wr => c = .int .i64 0 ∧ Below w0.heap.size w0 wr ∧ Kept w wr P1_)
  case atStart => exact ⟨rfl, HJ.out.Z, HJ.out.K⟩
  case round =>
    obtain ⟨rfl, hZ, hK⟩ := hrel
    go_wp2
    go_end0
    exact ⟨rfl, hZ, hK⟩
theorem give_any (P0_ : Nat → Prop) (u0 : Value) (l0 : List Int) (P1_ : Nat → Prop) (u1 : Value) (l1 : List S40) (many : Int) (r : List Int) (w0 w : World) (hB : Below w0.heap.size w0 w) (ho0 : Kd.R (Kd.int .i64) 3 w w0.heap.size P0_ u0 l0) (ho1 : Kd.R k40 40 w w0.heap.size P1_ u1 l1) (h : giveF l0 l1 many = some r) :
    Calls Try.prog 19 #[u0, u1, .int .i64 many] w fun e w' => e = .returned (.tuple #[]) ∧ Kd.R (Kd.int .i64) 3 w' w0.heap.size (fun k_ => ((P0_ k_ ∨ P1_ k_) ∨ w.heap.size ≤ k_)) u0 r ∧ Below w0.heap.size w0 w' ∧ Kept w w' (fun k_ => P0_ k_ ∨ P1_ k_) := by
  unfold giveF at h
  by_cases hc : (l1.length ≤ 1152921504606846976 ∧ many ≤ 4611686018427387904) ∧ 0 ≤ many
  case neg => rw [if_neg hc] at h; cases h
  rw [if_pos hc] at h
  obtain ⟨⟨hm, hn⟩, hmany⟩ := hc
  obtain ⟨n, rfl⟩ : ∃ n : Nat, many = n := ⟨many.toNat, by omega⟩
  rw [Int.toNat_natCast] at h
  have ho := Kd.own_of_R ho0
  rcases Nat.eq_zero_or_pos l0.length with h0 | h0
  · cases n with
    | succ n =>
      obtain ⟨x, _, _, hx0, hx1, _⟩ := giveTo_succ h
      omega
    | zero =>
      rw [giveTo] at h
      obtain rfl := Option.some.inj h
      refine (give_zero u0 (fun k => P1_ k ∧ some k ≠ u0.ownBlock) u1 l1 w0 w hB (Kd.R_apart' ho1 (Kd.R_typed ho0) (by decide)) hm).mono ?_
      rintro e w' ⟨rfl, hZ, hK⟩
      refine ⟨rfl, Kd.R_of_own (own_move ho (fun k hk => hK.2 k (own_lt ho k hk) (fun hh => hh.2 hk.symm))) (fun k hk => .inl (.inl (ho0.1 k hk))), hZ, hK.mono (fun k hk => .inr hk.1)⟩
  · obtain ⟨g, cap, rfl, hg0, hgw, cells, hgb⟩ := Kd.R_form ho0 h0
    refine (give_some P0_ g cap l0 P1_ u1 l1 n r w0 w hB ho (ho0.1 g rfl) hg0 hgw (Kd.R_types ho1 hgb (by intro q hq; simp [k40, Kd.iso, Kd.pair, Kd.int, Kd.scalar] at hq; omega)) hm (by omega) h).mono ?_
    rintro e w' ⟨rfl, hO, hZ, hK⟩
    have hl : r.length = l0.length := by have := hO.1; simpa [nums] using this
    refine ⟨rfl, Kd.R_of_own (by rw [hl]; exact hO) (fun k hk => ?_), hZ, hK⟩
    have hk : g = k := by simpa [Value.ownBlock] using hk
    subst hk
    exact .inl (.inl (ho0.1 _ rfl))
end Go.Proofs.Ytlcpcnachdbboaa
