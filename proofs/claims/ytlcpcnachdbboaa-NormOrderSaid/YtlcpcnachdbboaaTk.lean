/- The contract of norm.take: one less of the first claim, again and again, as the heap tells them. -/
import Derived.Test.YtlcpcnachdbboaaGv
import Derived.IntWalk
namespace Go.Proofs.Ytlcpcnachdbboaa
open Go.RowKit Go.Proofs.YtlcpcnachdbboaaW.PrintWords Go.Proofs.YtlcpcnachdbboaaW.PrintLast Go.Proofs.YtlcpcnachdbboaaW.PrintMore PPr HC
attribute [local go_sem] max2_int min2_int max_two min_two max_three min_three max_four min_four
set_option linter.unusedSimpArgs false
set_option linter.unusedVariables false
/-- a symbol's claim -/
def mkC (q c : List Int) (s : Nat) : S40 := ⟨(s : Int), q.getD s 0, (1073741824 - c.getD s 0) * 256 + (s : Int)⟩
/-- the claims of the first i symbols -/
def claimsTo (q c : List Int) : Nat → List S40
  | 0 => []
  | i + 1 => claimsTo q c i ++ (if q.getD i 0 > 0 then [mkC q c i] else [])
theorem claimsTo_len (q c : List Int) : ∀ i, (claimsTo q c i).length ≤ i
  | 0 => by simp [claimsTo]
  | i + 1 => by
    have := claimsTo_len q c i
    rw [claimsTo, List.length_append]
    split <;> simp <;> omega
theorem claimsTo_hit (q c : List Int) (i : Nat) (h : q.getD i 0 > 0) : claimsTo q c (i + 1) = claimsTo q c i ++ [mkC q c i] := by rw [claimsTo, if_pos h]
theorem claimsTo_miss (q c : List Int) (i : Nat) (h : ¬ q.getD i 0 > 0) : claimsTo q c (i + 1) = claimsTo q c i := by rw [claimsTo, if_neg h, List.append_nil]
/-- one less of the first one, so many times -/
def takeTo : Nat → List Int → List S40 → Option (List Int)
  | 0, q, _ => some q
  | n + 1, q, l => if l.length = 0 then none else
    if 0 ≤ ((Hp.pop z40 ltC l).getD (l.length - 1) z40).f0 ∧ ((Hp.pop z40 ltC l).getD (l.length - 1) z40).f0 < (q.length : Int) then
      takeTo n (q.set ((Hp.pop z40 ltC l).getD (l.length - 1) z40).f0.toNat (wrap64 (rd q ((Hp.pop z40 ltC l).getD (l.length - 1) z40).f0 - 1)))
        (Hp.push z40 ltC ((Hp.pop z40 ltC l).take (l.length - 1)) ⟨((Hp.pop z40 ltC l).getD (l.length - 1) z40).f0, wrap64 (((Hp.pop z40 ltC l).getD (l.length - 1) z40).f1 - 1), ((Hp.pop z40 ltC l).getD (l.length - 1) z40).f2⟩)
    else none
theorem takeTo_succ {n : Nat} {q : List Int} {l : List S40} {r : List Int} (h : takeTo (n + 1) q l = some r) :
    ∃ x, (Hp.pop z40 ltC l).getD (l.length - 1) z40 = x ∧ 0 < l.length ∧ 0 ≤ x.f0 ∧ x.f0 < (q.length : Int) ∧ takeTo n (q.set x.f0.toNat (wrap64 (rd q x.f0 - 1))) (Hp.push z40 ltC ((Hp.pop z40 ltC l).take (l.length - 1)) ⟨x.f0, wrap64 (x.f1 - 1), x.f2⟩) = some r := by
  refine ⟨_, rfl, ?_⟩
  rw [takeTo] at h
  split at h
  · cases h
  · rename_i h0
    split at h
    · rename_i h1
      exact ⟨by omega, h1.1, h1.2, h⟩
    · cases h
def takeOk (q c : List Int) (many : Int) : Bool := decide (q.length ≤ c.length) && decide (q.length ≤ 1099511627776) && decide (0 ≤ many) && decide (many ≤ 4611686018427387904) && c.all fun x => decide (0 ≤ x) && decide (x ≤ 1073741824)
theorem takeOk_iff (q c : List Int) (many : Int) : takeOk q c many = true ↔ q.length ≤ c.length ∧ q.length ≤ 1099511627776 ∧ 0 ≤ many ∧ many ≤ 4611686018427387904 ∧ ∀ x, x ∈ c → 0 ≤ x ∧ x ≤ 1073741824 := by
  unfold takeOk
  simp only [Bool.and_eq_true, decide_eq_true_iff, List.all_eq_true]
  constructor
  · rintro ⟨⟨⟨⟨h1, h2⟩, h3⟩, h4⟩, h5⟩; exact ⟨h1, h2, h3, h4, h5⟩
  · rintro ⟨h1, h2, h3, h4, h5⟩; exact ⟨⟨⟨⟨h1, h2⟩, h3⟩, h4⟩, h5⟩
def takeF (q c : List Int) (many : Int) : Option (List Int) := if takeOk q c many = true then takeTo many.toNat q (Hp.init z40 ltC (claimsTo q c q.length)) else none
theorem push_at {w0 w W : World} {Q : Nat → Prop} {p : Nat} {v : Value} {xs : List S} (h : IsH w0 w W Q p v xs) (a b c : Int) (hm : xs.length ≤ 1099511627776) :
    Calls Try.prog 30 #[.iface 50 (.pointer (some ⟨p, 0, none⟩)), .iface 40 (.agg #[.int .i64 a, .int .i64 b, .int .i64 c])] W fun e W' => e = .returned (.tuple #[]) ∧ ∃ v', IsH w0 w W' Q p v' (Hp.push z ltC xs ⟨a, b, c⟩) := push_any h ⟨a, b, c⟩ hm
theorem zero_claims (W : World) : Sem.run Try.prog (zeroValue 38) W = .ok (.slice none 0 0) W := by kernel_rfl
set_option maxHeartbeats 4000000 in
theorem take_some (P0_ : Nat → Prop) (g cap : Nat) (l0 : List Int) (A : Option Addr) (cc : Nat) (l1 : List Int) (n : Nat) (r : List Int) (w0 w : World) (hB : Below w0.heap.size w0 w) (ho : w.ownsRow w0.heap.size 3 1 (.slice (some ⟨g, 0, none⟩) l0.length cap) l0.length (nums .i64 l0)) (hP : P0_ g) (hg0 : w0.heap.size ≤ g) (hgw : g < w.heap.size)
    (hr1 : ∀ W_, Kept w W_ (fun k_ => P0_ k_) → ReadsInt W_ .i64 A l1.length l1) (hl : l0.length ≤ l1.length) (hm : l0.length ≤ 1099511627776) (hn : n ≤ 4611686018427387904) (hc : ∀ x, x ∈ l1 → 0 ≤ x ∧ x ≤ 1073741824) (h : takeTo n l0 (Hp.init z40 ltC (claimsTo l0 l1 l0.length)) = some r) :
    Calls Try.prog 20 #[.slice (some ⟨g, 0, none⟩) l0.length cap, .slice A l1.length cc, .int .i64 (n : Int)] w fun e w' => e = .returned (.tuple #[]) ∧ w'.ownsRow w0.heap.size 3 1 (.slice (some ⟨g, 0, none⟩) l0.length cap) l0.length (nums .i64 r) ∧ Below w0.heap.size w0 w' ∧ Kept w w' (fun k_ => P0_ k_) := by
  have hta := assert_ok
  have hz := zero_claims
  have HH := Lib.hid h
  have HO := Lib.hid ho
  have HR1 := Lib.hid hr1
  have HCC := Lib.hid hc
  have hQg : ¬ (w.heap.size ≤ g) := by omega
  have I0 : IsH w0 w (w.alloc (.cells #[.slice none 0 0] 38)) (fun k => w.heap.size ≤ k) w.heap.size (.slice none 0 0) [] :=
    ⟨by simpa using heap_alloc_new w (.cells #[.slice none 0 0] 38), .inl (Nat.le_refl _), hB.size, Kd.R_nil _ _ _ _ _, (Kept.refl w _).alloc _, hB.alloc hB.size _⟩
  have HI := Lib.hid I0
  clear h ho hr1 I0 hc
  go_enter Try.func20, Try.ntmps20
  go_wp2
  clear hz
  go_loopg [12] l0.length (fun k q wr => ∃ (i : Nat) (v : Value), i ≤ l0.length ∧ k = l0.length - i ∧ q = .int .i64 i ∧ IsH w0 w wr (fun k => w.heap.size ≤ k) w.heap.size v (claimsTo l0 l1 i))
  case atStart => exact ⟨0, _, by omega, rfl, rfl, HI.out⟩
  case round =>
    obtain ⟨i, v, hi, hk, rfl, hI⟩ := hrel
    have HK := Lib.hid hk
    clear HI
    have HI := Lib.hid hI
    clear hk hI
    by_cases hlt : i < l0.length
    · obtain ⟨hcq, hfq⟩ := own_at (own_keep HO.out HI.out.K hgw hQg) (i : Int) (by omega) (by omega)
      obtain ⟨ad, hA, hcell⟩ := reads_cell (HR1.out _ (kept_mono HI.out.K (fun k h1 h2 => absurd h2 (by omega)))) i (by omega)
      subst hA
      have hXb := HCC.out _ (show l1.getD i 0 ∈ l1 by rw [List.getD_eq_getElem?_getD, List.getElem?_eq_getElem (show i < l1.length by omega)]; exact List.getElem_mem _)
      have hMK : mkC l0 l1 i = ⟨(i : Int), l0.getD i 0, (1073741824 - l1.getD i 0) * 256 + (i : Int)⟩ := rfl
      have hHit := fun h => claimsTo_hit l0 l1 i h
      have hMiss := fun h => claimsTo_miss l0 l1 i h
      rw [show rd l0 (i : Int) = l0.getD i 0 from rfl] at hcq
      rw [Int.toNat_natCast] at hcq hfq
      obtain ⟨X, hX⟩ : ∃ X, l0.getD i 0 = X := ⟨_, rfl⟩
      obtain ⟨Y, hY⟩ : ∃ Y, l1.getD i 0 = Y := ⟨_, rfl⟩
      rw [hX] at hcq hMK hHit hMiss
      rw [hY] at hcell hXb hMK
      clear hX hY
      have HMK := Lib.hid hMK
      clear hMK
      have hil : (i : Int) < (l1.length : Int) := by omega
      by_cases hpos : X > 0
      · have HH1 := Lib.hid (hHit hpos)
        clear hHit hMiss
        have hbc := HI.out.cell
        have hbf := blk_frozen HI.out.B 0
        have hbl : w.heap.size < wr.heap.size := blk_lt HI.out.B
        have hu := Try.underlying40
        have ⟨AL, cl, hv, _, _⟩ := HI.out.len
        subst hv
        have hne := Kd.R_ne HI.out.R HI.out.B (by decide)
        have e1 : IntKind.i64.wrap (1073741824 - Y) = 1073741824 - Y := IntWalk.i64_in _ (by omega)
        have e2 : IntKind.i64.wrap ((1073741824 - Y) * 256) = (1073741824 - Y) * 256 := IntWalk.i64_in _ (by omega)
        have e3 : IntKind.i64.wrap ((1073741824 - Y) * 256 + (i : Int)) = (1073741824 - Y) * 256 + (i : Int) := IntWalk.i64_in _ (by omega)
        have HLL := Lib.hid (claimsTo_len l0 l1 i)
        go_wp2
        go_region_law
          ((refine Kd.R_append_step k40 (w0 := w0) (W := wr.drew) w0.heap.size (by rfl) (.tmp 19) (.tmp 31) 38 40 (.agg #[.int .i64 0, .int .i64 0, .int .i64 0]) 24 (by rfl) Try.underlying38 info_el rfl (by decide) (by omega) (.slice AL (claimsTo l0 l1 i).length cl) (claimsTo l0 l1 i) ⟨(i : Int), X, (1073741824 - Y) * 256 + (i : Int)⟩ [.int .i64 (i : Int), .int .i64 X, .int .i64 ((1073741824 - Y) * 256 + (i : Int))] (fun k => w.heap.size ≤ k ∨ w.heap.size ≤ k) (fun _ => False) (by rfl) (by rfl) (k40_mkM _ _ _ _) (fun _ hk => hk.elim) (fun k hk => .inr (Nat.le_trans HI.out.K.1 hk)) (Kd.R_drew HI.out.R) (below_drew HI.out.Z) HI.out.Z.size (by have := HLL.out; omega) ?_; intro v1 w1 hR1 hb1 hg1 hat1; obtain ⟨A1, c1, rfl⟩ := Kd.R_slice hR1; have hB1 : w1.heap[w.heap.size]? = some (.cells #[.slice AL (claimsTo l0 l1 i).length cl] 38 (0, 0)) := (hg1.block w.heap.size hbl hne).trans HI.out.B; have hc1 : w1.cell? ⟨w.heap.size, 0, none⟩ = some (.slice AL (claimsTo l0 l1 i).length cl) := (by simpa using blk_cell hB1 0); have hf1 := blk_frozen hB1 0; have HR1 := Lib.hid hR1; have HB1 := Lib.hid hb1; have HG1 := Lib.hid hg1; have HBB := Lib.hid hB1; clear hR1 hb1 hg1 hat1 hB1))
        all_goals go_wp2
        all_goals go_roundg (l0.length - (i + 1))
        all_goals try (have := HK.out; omega)
        all_goals exact ⟨i + 1, _, by omega, rfl, by go_num, by rw [HH1.out, HMK.out]; exact (HI.out.below (below_drew (Below.refl _ _))).grown HG1.out (by have hr := HR1.out; rw [List.length_append, List.length_singleton] at hr; exact hr) HB1.out⟩
      · have HH1 := Lib.hid (hMiss hpos)
        clear hHit hMiss
        go_wp2
        go_roundg (l0.length - (i + 1))
        case measure => have := HK.out; omega
        case rel => exact ⟨i + 1, _, by omega, rfl, by go_num, by rw [HH1.out]; exact HI.out⟩
    · obtain rfl : i = l0.length := by omega
      have hcl := claimsTo_len l0 l1 l0.length
      have hcell := HI.out.cell
      have hfd := field_0
      have hu := Try.underlying40
      go_wp2_with (go_at_call 28; go_must ((with_reducible refine (init_any HI.out (by omega)).mono ?_); rintro e w1 ⟨rfl, hI⟩; have HJ := Lib.hid hI; clear hI))
      have hlen0 := Lib.hid (Hp.init_len z40 ltC (claimsTo l0 l1 l0.length))
      have R0 := Lib.hid (⟨own_keep HO.out HJ.out.K hgw hQg, HJ.out.self (fun k hk => hk), kept_mono HJ.out.K (fun k hk hq => absurd hq (by omega))⟩ : Rnd w0 w w1 (fun k => P0_ k) (fun k => w.heap.size ≤ k) (.slice (some ⟨g, 0, none⟩) l0.length cap) l0.length l0 v (Hp.init z40 ltC (claimsTo l0 l1 l0.length)))
      clear HI hcell
      go_loopg [37] n (fun k c wr => ∃ (i m : Nat) (q : List Int) (v : Value) (ys : List S40), m ≤ k ∧ c = .int .i64 i ∧ i ≤ n ∧ Hid (i + m = n) ∧ ys.length ≤ 1099511627776 ∧ Hid (takeTo m q ys = some r) ∧ Rnd w0 w wr (fun k => P0_ k) (fun k => w.heap.size ≤ k) (.slice (some ⟨g, 0, none⟩) l0.length cap) l0.length q v ys)
      case atStart => exact ⟨0, n, l0, _, _, Nat.le_refl _, rfl, by omega, Lib.hid (by omega), by rw [hlen0.out]; omega, HH, R0.out⟩
      case round =>
        clear HK
        obtain ⟨i, m, q, v, ys, hk, rfl, hi, him, hys, hD, hR⟩ := hrel
        have HK := Lib.hid hk
        have HR := Lib.hid hR
        clear hk hR R0 HJ
        by_cases hlt : i < n
        · obtain ⟨m, rfl⟩ : ∃ m', m = m' + 1 := ⟨m - 1, by have := him.out; omega⟩
          obtain ⟨x, hx, hpos, hx0, hx1, hD2⟩ := takeTo_succ hD.out
          have HX := Lib.hid hx
          have HD2 := Lib.hid hD2
          have hql : q.length = l0.length := by have := HR.out.O.1; simpa [nums] using this
          rw [hql] at hx1
          have HQL := Lib.hid hql
          clear hx hD2 hql
          go_wp2_with (first
            | (go_at_call 29; go_must ((with_reducible refine (pop_any HR.out.I hpos (by omega)).mono ?_); rintro e w2 ⟨rfl, v', hI⟩; rw [HX.out]; obtain ⟨hc, hf⟩ := own_at (own_keep HR.out.O hI.K (Nat.lt_of_lt_of_le hgw HR.out.K.1) hQg) x.f0 hx0 hx1; have hgw2 : g < w2.heap.size := Nat.lt_of_lt_of_le hgw (Nat.le_trans HR.out.K.1 hI.K.1); have HP := Lib.hid (((hI.self (fun k hk => Nat.le_trans HR.out.K.1 hk)).far (j := x.f0.toNat) (u := .int .i64 (wrap64 (rd q x.f0 - 1))) hQg hgw2 hg0).alloc (.cells #[.int .i64 x.f0, .int .i64 (wrap64 (x.f1 - 1)), .int .i64 x.f2] 40)); have HI2 := Lib.hid hI; clear hI))
            | (go_at_call 30; go_must ((with_reducible refine (push_at HP.out x.f0 (wrap64 (x.f1 - 1)) x.f2 (by rw [List.length_take, Hp.pop_len]; omega)).mono ?_); rintro e w3 ⟨rfl, v3, hI3⟩; have HI3 := Lib.hid hI3; clear hI3)))
          go_roundg m
          case measure => have := HK.out; omega
          case rel =>
            have hst := own_store (own_keep HR.out.O HI2.out.K (Nat.lt_of_lt_of_le hgw HR.out.K.1) hQg) x.f0 (wrap64 (rd q x.f0 - 1))
            have hK2 := (HR.out.K.then_ HI2.out.K (fun k hk => .inr hk)).setCell (p := ⟨g, x.f0.toNat, none⟩) (.inl hP) (.int .i64 (wrap64 (rd q x.f0 - 1)))
            exact ⟨i + 1, m, _, _, _, Nat.le_refl _, by go_num, by omega, Lib.hid (by have := him.out; omega), by rw [Hp.push_len, List.length_take, Hp.pop_len]; omega, HD2,
              ⟨own_keep hst.1 HI3.out.K (by simpa [World.setCell] using hgw2) hQg, HI3.out.self (fun k hk => by
                have h1 : w2.heap.size ≤ k := by simpa [World.setCell] using hk
                exact Nat.le_trans HR.out.K.1 (Nat.le_trans HI2.out.K.1 h1)), hK2.then_ HI3.out.K (fun k hk => .inr hk)⟩⟩
        · obtain rfl : i = n := by omega
          have hm0 : m ≤ 0 := by have := him.out; omega
          obtain rfl : m = 0 := by omega
          have hr : q = r := by have := hD.out; rw [takeTo] at this; exact Option.some.inj this
          have HRR := Lib.hid hr
          clear hr
          go_wp2
          go_end0
          exact ⟨rfl, by rw [← HRR.out]; exact HR.out.O, HR.out.I.Z, HR.out.K⟩
set_option maxHeartbeats 1000000 in
theorem take_zero (A0 : Option Addr) (c0 : Nat) (A : Option Addr) (n1 cc : Nat) (w0 w : World) (hB : Below w0.heap.size w0 w) :
    Calls Try.prog 20 #[.slice A0 0 c0, .slice A n1 cc, .int .i64 0] w fun e w' => e = .returned (.tuple #[]) ∧ Below w0.heap.size w0 w' ∧ Below w.heap.size w w' := by
  have hz := zero_claims
  have I0 : IsH w0 w (w.alloc (.cells #[.slice none 0 0] 38)) (fun k => w.heap.size ≤ k) w.heap.size (.slice none 0 0) [] :=
    ⟨by simpa using heap_alloc_new w (.cells #[.slice none 0 0] 38), .inl (Nat.le_refl _), hB.size, Kd.R_nil _ _ _ _ _, (Kept.refl w _).alloc _, hB.alloc hB.size _⟩
  have HI := Lib.hid I0
  have HZ := Lib.hid (((Below.refl w.heap.size w).alloc (Nat.le_refl _) (.cells #[.slice none 0 0] 38)))
  clear I0
  go_enter Try.func20, Try.ntmps20
  go_wp2
  clear hz
  go_loopg [12] 0 (fun k q wr => q = .int .i64 0 ∧ IsH w0 w wr (fun k => w.heap.size ≤ k) w.heap.size (.slice none 0 0) [])
  case atStart => exact ⟨rfl, HI.out⟩
  case round =>
    obtain ⟨rfl, hI⟩ := hrel
    have HI := Lib.hid hI
    have hcell := hI.cell
    clear hI
    go_wp2_with (go_at_call 28; go_must ((with_reducible refine (init_any HI.out (by simp)).mono ?_); rintro e w1 ⟨rfl, hI⟩; have HJ := Lib.hid hI; clear hI))
    go_loopg [37] 0 (fun k c wr => c = .int .i64 0 ∧ IsH w0 w wr (fun k => w.heap.size ≤ k) w.heap.size (.slice none 0 0) (Hp.init z40 ltC []))
    case atStart => exact ⟨rfl, HJ.out⟩
    case round =>
      obtain ⟨rfl, hI⟩ := hrel
      have HI := Lib.hid hI
      clear hI
      go_wp2
      go_end0
      have hK := HI.out.K
      exact ⟨rfl, HI.out.Z, ⟨(HI.out.Z).os.trans hB.os.symm, (HI.out.Z).tape.trans hB.tape.symm, (HI.out.Z).output.trans hB.output.symm, hK.1, fun i hi => hK.2 i hi (by omega)⟩⟩
theorem take_any (P0_ : Nat → Prop) (u0 : Value) (l0 : List Int) (A1 : Option Addr) (c1 : Nat) (l1 : List Int) (many : Int) (r : List Int) (w0 w : World) (hB : Below w0.heap.size w0 w) (ho0 : Kd.R (Kd.int .i64) 3 w w0.heap.size P0_ u0 l0) (hr1 : ∀ W_, Kept w W_ (fun k_ => P0_ k_) → Kd.C (Kd.int .i64) W_ A1 l1.length l1) (hc1 : l1.length ≤ c1) (h : takeF l0 l1 many = some r) :
    Calls Try.prog 20 #[u0, .slice A1 l1.length c1, .int .i64 many] w fun e w' => e = .returned (.tuple #[]) ∧ Kd.R (Kd.int .i64) 3 w' w0.heap.size (fun k_ => (P0_ k_ ∨ w.heap.size ≤ k_)) u0 r ∧ Below w0.heap.size w0 w' ∧ Kept w w' (fun k_ => P0_ k_) := by
  unfold takeF at h
  by_cases hok : takeOk l0 l1 many = true
  case neg => rw [if_neg hok] at h; cases h
  rw [if_pos hok] at h
  obtain ⟨hl, hm, hmany, hn, hc⟩ := (takeOk_iff l0 l1 many).1 hok
  obtain ⟨n, rfl⟩ : ∃ n : Nat, many = n := ⟨many.toNat, by omega⟩
  rw [Int.toNat_natCast] at h
  have ho := Kd.own_of_R ho0
  rcases Nat.eq_zero_or_pos l0.length with h0 | h0
  · cases n with
    | succ n =>
      obtain ⟨x, _, _, hx0, hx1, _⟩ := takeTo_succ h
      omega
    | zero =>
      rw [takeTo] at h
      obtain rfl := Option.some.inj h
      obtain ⟨A0, c0, hu⟩ := Kd.R_slice ho0
      rw [h0] at hu
      subst hu
      refine (take_zero A0 c0 A1 l1.length c1 w0 w hB).mono ?_
      rintro e w' ⟨rfl, hZ, hK⟩
      exact ⟨rfl, Kd.R_mono (Kd.R_below ho0 hK) (fun k hk => .inl hk), hZ, Kept.of_below hK _⟩
  · obtain ⟨g, cap, rfl, hg0, hgw, cells, hgb⟩ := Kd.R_form ho0 h0
    refine (take_some P0_ g cap l0 A1 c1 l1 n r w0 w hB ho (ho0.1 g rfl) hg0 hgw (fun W_ hK => Kd.reads_of_C (d := (0 : Int)) (hr1 W_ hK)) hl hm (by omega) hc h).mono ?_
    rintro e w' ⟨rfl, hO, hZ, hK⟩
    have hl : r.length = l0.length := by have := hO.1; simpa [nums] using this
    refine ⟨rfl, Kd.R_of_own (by rw [hl]; exact hO) (fun k hk => ?_), hZ, hK⟩
    have hk : g = k := by simpa [Value.ownBlock] using hk
    subst hk
    exact .inl (ho0.1 _ rfl)
end Go.Proofs.Ytlcpcnachdbboaa
