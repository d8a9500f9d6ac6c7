/- The layer etab: a table's memory (a map of places), and the contracts of New, Log, Count and Step. -/
import Derived.Test.YtjgmilkgklellaaPs
import Derived.Test.YtjgmilkgklellaaPPrx7
import Derived.Test.YtjgmilkgklellaaPPrx7
import Derived.Test.YtjgmilkgklellaaPPrx5
import Derived.Maps.GroupsBeside
import Derived.Maps.Views
import Derived.Deep.AppendLies
import Derived.Deep.RegionHeld3
import Derived.Outline
namespace Go.Proofs.Ytjgmilkgklellaa
open Go.RowKit Go.Maps Go.ChangeShapes Go.Proofs.YtjgmilkgklellaaW.PrintWords Go.Proofs.YtjgmilkgklellaaW.PrintLast Go.Proofs.YtjgmilkgklellaaW.PrintMore PPr
attribute [local go_sem] max2_int min2_int max_two min_two max_three min_three max_four min_four
set_option linter.unusedSimpArgs false
set_option linter.unusedVariables false
/-! places of a symbol -/
def plcTo (l : List Int) (s : Int) (i : Nat) : List Int := ((List.range i).filter fun j => l.getD j 0 == s).map fun (j : Nat) => (j : Int)
theorem plcTo_succ (l : List Int) (s : Int) (i : Nat) : plcTo l s (i + 1) = plcTo l s i ++ if l.getD i 0 = s then [(i : Int)] else [] := by
  unfold plcTo
  rw [List.range_succ, List.filter_append, List.map_append]
  congr 1
  by_cases h : l.getD i 0 = s
  · rw [if_pos h, List.filter_cons, if_pos (by rw [h]; exact beq_self_eq_true s)]; rfl
  · rw [if_neg h, List.filter_cons, if_neg (by intro e; exact h (eq_of_beq e))]; rfl
theorem plcTo_len (l : List Int) (s : Int) : ∀ i, (plcTo l s i).length ≤ i
  | 0 => by simp [plcTo]
  | i + 1 => by
    have := plcTo_len l s i
    rw [plcTo_succ, List.length_append]
    split <;> simp <;> omega
theorem plcTo_bd (l : List Int) (s : Int) (i : Nat) : ∀ z, z ∈ plcTo l s i → 0 ≤ z ∧ z < i := by
  intro z hz
  unfold plcTo at hz
  obtain ⟨j, hj, rfl⟩ := List.mem_map.1 hz
  have := List.mem_range.1 (List.mem_filter.1 hj).1
  omega
theorem plcTo_at (l : List Int) (s : Int) (p : Nat) : ∀ n, p < n → l.getD p 0 = s → (plcTo l s n).getD (plcTo l s p).length 0 = (p : Int)
  | 0, h, _ => by omega
  | n + 1, h, e => by
    rw [plcTo_succ]
    rcases Nat.lt_or_ge p n with h1 | h1
    · have ih := plcTo_at l s p n h1 e
      have hl : (plcTo l s p).length < (plcTo l s n).length := by
        rcases Nat.lt_or_ge (plcTo l s p).length (plcTo l s n).length with h2 | h2
        · exact h2
        · exfalso
          have hsub : ∀ m, p < m → (plcTo l s p).length < (plcTo l s m).length := by
            intro m hm
            induction m with
            | zero => omega
            | succ m ihm =>
              rw [plcTo_succ, List.length_append]
              rcases Nat.lt_or_ge p m with h3 | h3
              · have := ihm h3; omega
              · obtain rfl : p = m := by omega
                rw [if_pos e]; simp
          have := hsub n h1; omega
      rw [List.getD_eq_getElem?_getD, List.getElem?_append_left hl, ← List.getD_eq_getElem?_getD, ih]
    · obtain rfl : p = n := by omega
      rw [if_pos e, List.getD_eq_getElem?_getD, List.getElem?_append_right (Nat.le_refl _), Nat.sub_self]
      rfl
def itemsD : DataW Unit → List (DataW Unit)
  | .slice es _ => es
  | _ => []
/-- the map D has, of each byte, its places among the first i -/
def TblD (D : DataW Unit) (l : List Int) (i : Nat) : Prop := ∀ s : Int, 0 ≤ s → s ≤ 255 → itemsD (D.atKey (.int .u8 s) .nil) = lits .i64 (plcTo l s i)
theorem tblD_0 (l : List Int) : TblD (.map []) l 0 := fun s _ _ => rfl
theorem lits_inj {q : IntKind} : ∀ {a b : List Int}, lits (H := Unit) q a = lits q b → a = b
  | [], [], _ => rfl
  | [], b :: bs, h => by simp [lits] at h
  | a :: xs, [], h => by simp [lits] at h
  | a :: xs, b :: bs, h => by
    simp only [lits, List.map_cons, List.cons.injEq] at h
    obtain ⟨h1, h2⟩ := h
    have := lits_inj (q := q) (a := xs) (b := bs) h2
    injection h1 with h1
    injection h1 with _ h1
    rw [h1, this]
theorem tblD_zs {D : DataW Unit} {l : List Int} {i : Nat} (h : TblD D l i) {s : Int} (h0 : 0 ≤ s) (h1 : s ≤ 255) {w : World} {base e : Nat} {v : Value} {zs : List Int} (hat : D.atKey (.int .u8 s) .nil = rowDatum .i64 v zs) (ho : w.ownsInts base e .i64 v zs) : zs = plcTo l s i := by
  have := h s h0 h1
  rw [hat] at this
  rcases ho.datum (H := Unit) with ⟨e1, rfl⟩ | e1
  · rw [e1] at this
    exact lits_inj this
  · rw [e1] at this
    exact lits_inj this
theorem key_u8 (s : Int) (h0 : 0 ≤ s) (h1 : s ≤ 255) : keyOf Try.prog 5 (.int .u8 s) = some (.int .u8 s) := keyOf_int_mk Try.underlying5 (WalkArith.wf_u8 ⟨h0, h1⟩)
theorem law_u8 : Keyed Try.prog 5 := int_keyed Try.underlying5
theorem zero_ints (w : World) : (zeroValue 22).run Try.prog w = .ok (.slice none 0 0) w := by kernel_rfl
theorem tblD_put {D : DataW Unit} {l : List Int} {i : Nat} (h : TblD D l i) (hm : IsMap D) {x : Int} (hx : l.getD i 0 = x) (hx0 : 0 ≤ x) (hx1 : x ≤ 255) {v : Value} {w : World} {base e : Nat} (ho : w.ownsInts base e .i64 v (plcTo l x i ++ [(i : Int)])) : TblD (D.put (.int .u8 x) (rowDatum .i64 v (plcTo l x i ++ [(i : Int)]))) l (i + 1) := by
  intro s h0 h1
  rw [plcTo_succ]
  by_cases hs : s = x
  · subst hs
    rw [atKey_put_same hm (show WideAt.IsKeyLit (.int .u8 s) from trivial), if_pos hx, ho.datum_pos (by simp)]
    rfl
  · rw [atKey_put_other (by intro e; injection e with _ e; exact hs e), if_neg (by rw [hx]; exact fun e => hs e.symm), List.append_nil]
    exact h s h0 h1
theorem tblD_put' {D : DataW Unit} {l : List Int} {i : Nat} (h : TblD D l i) (hm : IsMap D) {x : Int} (hx : l.getD i 0 = x) (hb : 0 ≤ x ∧ x ≤ 255) {v : Value} {w : World} {base e : Nat} {zs : List Int} (hz : zs = plcTo l x i) (ho : w.ownsInts base e .i64 v (zs ++ [(i : Int)])) : TblD (D.put (.int .u8 x) (rowDatum .i64 v (zs ++ [(i : Int)]))) l (i + 1) := by
  subst hz
  exact tblD_put h hm hx hb.1 hb.2 ho
theorem groups_below {w w' : World} {base b n : Nat} {D : DataW Unit} (h : w.ownsGroups Try.prog 5 base 3 .i64 b n D) (hb : Below w.heap.size w w') : w'.ownsGroups Try.prog 5 base 3 .i64 b n D :=
  h.kept (row := none) ⟨hb.os, hb.tape, hb.output, hb.size, fun k hk _ => hb.block k hk⟩ (by simp) (fun es clock _ x _ => by cases x.val.ownBlock <;> simp)
/-- a table's memory -/
def IsTbl (w : World) (g : Nat) (r : Int) (l : List Int) : Prop :=
  ∃ (B base n : Nat) (D : DataW Unit), w.heap[g]? = some (.cells #[.int .i64 r, .map (some B)] 56 (0, 0)) ∧ w.ownsGroups Try.prog 5 base 3 .i64 B n D ∧ n ≤ 4096 ∧ TblD D l l.length
theorem IsTbl.below {w w' : World} {g : Nat} {r : Int} {l : List Int} (h : IsTbl w g r l) (hb : Below w.heap.size w w') : IsTbl w' g r l := by
  obtain ⟨B, base, n, D, h1, h2, h3, h4⟩ := h
  exact ⟨B, base, n, D, (hb.block g (blk_lt h1)).trans h1, groups_below h2 hb, h3, h4⟩
theorem info_i64 : (Try.prog.info? 3).map (fun i => (i.zero, i.size, i.bytes)) = some (some (.int .i64 0), 1, 8) := by kernel_rfl
theorem group_store {w w1 : World} {base b n : Nat} {D : DataW Unit} {k x : Int} {v : Value} {zs : List Int} {gg cap H : Nat}
    (hback : w.groupBack Try.prog 54 5 base 3 .i64 b n D (.int .u8 x) (.int .u8 x) v) (hoi : w.ownsInts base 3 .i64 v zs) (hzl : zs.length ≤ n) (hk0 : 0 ≤ k) (hk1 : k ≤ 4611686018427387904)
    (hown : w1.ownsRow base 3 1 (.slice (some ⟨gg, 0, none⟩) (zs.length + 1) cap) (zs.length + 1) (zs.map (Value.int .i64) ++ [.int .i64 k])) (hg : w.grownBy w1 v.ownBlock) (hat : v.ownBlock = some gg ∨ gg = H) (hH : w.heap.size ≤ H) :
    ∃ w2, (Instr.mapUpdate 54 (.map (some b)) (.int .u8 x) (.slice (some ⟨gg, 0, none⟩) (zs.length + 1) cap)).run Try.prog w1 = .ok () w2 ∧ w2.ownsGroups Try.prog 5 base 3 .i64 b (n + 1) (D.put (.int .u8 x) (rowDatum .i64 (.slice (some ⟨gg, 0, none⟩) (zs.length + 1) cap) (zs ++ [k]))) ∧ w1.grownBy w2 (some b) ∧ w1.ownsInts base 3 .i64 (.slice (some ⟨gg, 0, none⟩) (zs.length + 1) cap) (zs ++ [k]) := by
  have ho := hoi.appended hown (WalkArith.wf_i64 ⟨by omega, by omega⟩)
  obtain ⟨w2, h1, h2, h3⟩ := hback w1 _ (zs ++ [k]) hg ho (by simp; omega) (by
    rcases hat with h | h
    · left; rw [h]; rfl
    · right; exact ⟨gg, rfl, by omega⟩)
  exact ⟨w2, h1, h2, h3, ho⟩
set_option maxRecDepth 20000 in
set_option maxHeartbeats 1600000 in
theorem enew_ok (A : Option Addr) (c : Nat) (q : List Int) (w : World) (hr : Kd.C (Kd.int .i64) w A q.length q) (hc : q.length ≤ c) {k1 k2 : Nat} {l : List Int} {r : Int} (hof : spread_Of.f k1 q = some (l, 0)) (hlog : spread_Log.f k2 q = some r) (hl : l.length ≤ 4096) (hok : ∀ x, x ∈ l → 0 ≤ x ∧ x ≤ 255) :
    Calls Try.prog 10 #[.slice A q.length c] w fun e w' => ∃ g, e = .returned (.tuple #[.pointer (some ⟨g, 0, none⟩), .int .i64 0]) ∧ IsTbl w' g r l ∧ Below w.heap.size w w' := by
  have HR := Lib.hid hr
  have HOF := Lib.hid (fun w hr => spread_Of.calls k1 A c q l 0 w hr hc hof)
  have HLG := Lib.hid (fun w hr => spread_Log.calls k2 A c q r w hr hc hlog)
  have HLN := Lib.hid hl
  have HOK := Lib.hid hok
  clear hr hof hlog hok
  have hmm := @run_makeMap Try.prog
  go_enter Try.func10, Try.ntmps10
  go_wp2_with (first
    | (go_at_call 20; (with_reducible refine (HOF.out _ HR.out).mono ?_); rintro e w1 ⟨v0, rfl, hR, hb⟩; obtain ⟨A1, c1, rfl⟩ := Kd.R_slice hR; obtain ⟨_, _, hC⟩ := Kd.R_reads' hR; have HL := Lib.hid hC; have HB := Lib.hid hb; replace HR := Lib.hid (Kd.C_below HR.out hb); clear hR hb hC)
    | (go_at_call 21; (with_reducible refine (HLG.out _ HR.out).mono ?_); rintro e w2 ⟨rfl, nd, rfl⟩))
  obtain ⟨i0, hi, hz0, hz1, hz2⟩ := info_parts info_i64
  obtain ⟨W0, hW0⟩ : ∃ W0, W0 = ((w1.drewN nd).alloc (Obj.map #[] 0)).alloc (Obj.cells #[.int .i64 r, .map (some w1.heap.size)] 56) := ⟨_, rfl⟩
  rw [← hW0]
  have HG0 := Lib.hid (show W0.heap[w1.heap.size + 1]? = some (.cells #[.int .i64 r, .map (some w1.heap.size)] 56 (0, 0)) by
    subst hW0
    have := heap_alloc_new ((w1.drewN nd).alloc (Obj.map #[] 0)) (Obj.cells #[.int .i64 r, .map (some w1.heap.size)] 56)
    simpa using this)
  have HO0 := Lib.hid (show W0.ownsGroups (H := Unit) Try.prog 5 (w1.heap.size + 1) 3 .i64 w1.heap.size 0 (.map []) by
    subst hW0
    exact groups_below (World.ownsGroups_made (w1.drewN nd) _ _ _ _) ((Below.refl _ _).alloc (Nat.le_refl _) _))
  have HB0 := Lib.hid (show Below w1.heap.size w1 W0 by
    subst hW0
    exact ((pw_below_drewN (Below.refl _ _) nd).alloc (Nat.le_refl _) _).alloc (by simp) _)
  clear hW0
  go_loopw [24] (fun i wr => ∃ (k : Nat) (D : DataW Unit), k ≤ l.length ∧ i = .int .i64 k ∧ Hid (wr.heap[w1.heap.size + 1]? = some (.cells #[.int .i64 r, .map (some w1.heap.size)] 56 (0, 0))) ∧ Hid (wr.ownsGroups Try.prog 5 (w1.heap.size + 1) 3 .i64 w1.heap.size k D) ∧ Hid (TblD D l k) ∧ Hid (IsMap D) ∧ Hid (Below w1.heap.size w1 wr)) (fun i _ => l.length - (intOf i).toNat)
  case atStart => exact ⟨0, .map [], Nat.zero_le _, rfl, HG0, HO0, Lib.hid (tblD_0 l), Lib.hid ⟨_, rfl⟩, HB0⟩
  case round =>
    obtain ⟨k, D, hk, rfl, HG, HO, HT, HM, HBW⟩ := hrel
    clear HG0 HO0 HB0
    have hln := HLN.out
    by_cases hlt : k < l.length
    · have i1 : (k : Int) < (l.length : Int) := by omega
      obtain ⟨ad, hA, hcell⟩ := Kd.at_int (Kd.C_below HL.out HBW.out) (k : Int) (by omega) (by omega)
      subst hA
      rw [Int.toNat_natCast] at hcell
      have HX := Lib.hid (show l.getD k 0 = rd l (k : Int) from rfl)
      have hx := HOK.out (rd l (k : Int)) (by rw [← HX.out, List.getD_eq_getElem?_getD, List.getElem?_eq_getElem hlt]; exact List.getElem_mem hlt)
      generalize rd l (k : Int) = x at *
      have hB := HBW.out.size
      have hGl := blk_lt HG.out
      go_wp2
      obtain ⟨v, zs, hrun, hat, hoi, hzl, hback⟩ := (groups_below HO.out (Below.refl _ _).drew).at law_u8 Try.underlying54 (zero_ints _) (by unfold maxLen; omega) (key_u8 x hx.1 hx.2)
      obtain ⟨v2, zs2, hrun2, hat2, hoi2, hzl2, hback2⟩ := (groups_below HO.out (((Below.refl _ _).alloc (Nat.le_refl _) (Obj.cells #[.int .i64 (k : Int)] 3)).drew)).at law_u8 Try.underlying54 (zero_ints _) (by unfold maxLen; omega) (key_u8 x hx.1 hx.2)
      have hzs := tblD_zs HT.out hx.1 hx.2 hat hoi
      have hzs2 := tblD_zs HT.out hx.1 hx.2 hat2 hoi2
      clear hat hat2
      have HOI := Lib.hid hoi
      have HOI2 := Lib.hid hoi2
      have HBK := Lib.hid hback
      have HBK2 := Lib.hid hback2
      have HZL := Lib.hid hzl
      have HZL2 := Lib.hid hzl2
      clear hoi hoi2 hback hback2 hzl hzl2
      have HZS := Lib.hid hzs
      have HZS2 := Lib.hid hzs2
      clear hzs hzs2
      have HGA := Lib.hid (show (wr.alloc (Obj.cells #[.int .i64 (k : Int)] 3)).heap[w1.heap.size + 1]? = some (.cells #[.int .i64 r, .map (some w1.heap.size)] 56 (0, 0)) from (by rw [heap_alloc_old _ _ hGl]; exact HG.out))
      have HS := Lib.hid (fun (W : World) (h : W.heap[w1.heap.size + 1]? = some (.cells #[.int .i64 r, .map (some w1.heap.size)] 56 (0, 0))) => (show W.cell? ⟨w1.heap.size + 1, 0, none⟩ = some (.int .i64 r) ∧ W.cell? ⟨w1.heap.size + 1, 1, none⟩ = some (.map (some w1.heap.size)) from ⟨by rw [blk_cell h]; rfl, by rw [blk_cell h]; rfl⟩))
      go_region_held3 (fun W => W.cell? ⟨w1.heap.size + 1, 0, none⟩ = some (.int .i64 r) ∧ W.cell? ⟨w1.heap.size + 1, 1, none⟩ = some (.map (some w1.heap.size))) (first | exact HS.out _ HG3.out | exact HS.out _ HG2.out | exact HS.out _ HGA.out | exact HS.out _ HG.out) (first
        | (refine step_append_lies _ (by rfl) (.tmp 39) (.tmp 41) 22 (by rfl) (w1.heap.size + 1) 3 i0 (.int .i64 0) 1 8 Try.underlying22 hi hz0 hz1 hz2 rfl (by decide) v zs.length (zs.map (Value.int .i64)) (by rfl) (HOI.out.1.kept (World.grownBy_alloc _ _ none) (by cases v.ownBlock <;> simp)) ⟨wr.heap.size, 0, none⟩ 1 1 [.int .i64 (k : Int)] (by rfl) (by rfl) (World.news_of_block (cs := #[.int .i64 (k : Int)]) (t := 3) (fr := (0, 0)) (heap_alloc_new wr _)) (by simp [Value.oneCell']) (by decide) (by have := HZL.out; unfold maxLen; omega) (by have := HZL.out; omega) (by simp; omega) (wr.heap.size + 1) (by simp) ?_
           intro gg cap w3 hown3 hgrow3 hat3 hlt3
           have hgw : wr.drew.grownBy w3 v.ownBlock := World.grownBy.trans (World.grownBy_alloc wr.drew _ _) hgrow3
           obtain ⟨w4, hup, hown4, hgrow4, hoi4⟩ := group_store HBK.out HOI.out HZL.out (by omega) (by omega) hown3 hgw hat3 (by simp)
           have HG2 := Lib.hid (show w3.heap[w1.heap.size + 1]? = some (.cells #[.int .i64 r, .map (some w1.heap.size)] 56 (0, 0)) from (hgrow3.block _ (by simp; omega) (own_ne HOI.out.1 HG.out (by decide))).trans HGA.out)
           have HG3 := Lib.hid (show w4.heap[w1.heap.size + 1]? = some (.cells #[.int .i64 r, .map (some w1.heap.size)] 56 (0, 0)) from (hgrow4.block _ (blk_lt HG2.out) (by simp)).trans HG2.out)
           have HO4 := Lib.hid hown4
           have HI4 := Lib.hid hoi4
           have HB4 := Lib.hid (show Below w1.heap.size w1 w4 from ((HBW.out.drew).groups HOI.out hgw hgrow4 (by simp; omega) (by omega) (Nat.le_refl _)))
           clear hown3 hgrow3 hat3 hlt3 hown4 hgrow4 hoi4
           clear hgw)
        | (refine step_append_lies _ (by rfl) (.tmp 39) (.tmp 41) 22 (by rfl) (w1.heap.size + 1) 3 i0 (.int .i64 0) 1 8 Try.underlying22 hi hz0 hz1 hz2 rfl (by decide) v2 zs2.length (zs2.map (Value.int .i64)) (by rfl) HOI2.out.1 ⟨wr.heap.size, 0, none⟩ 1 1 [.int .i64 (k : Int)] (by rfl) (by rfl) (World.news_of_block (cs := #[.int .i64 (k : Int)]) (t := 3) (fr := (0, 0)) (heap_alloc_new wr _)) (by simp [Value.oneCell']) (by decide) (by have := HZL2.out; unfold maxLen; omega) (by have := HZL2.out; omega) (by simp; omega) (wr.heap.size + 1) (by simp) ?_
           intro gg cap w3 hown3 hgrow3 hat3 hlt3
           obtain ⟨w4, hup, hown4, hgrow4, hoi4⟩ := group_store HBK2.out HOI2.out HZL2.out (by omega) (by omega) hown3 hgrow3 hat3 (by simp)
           have HG2 := Lib.hid (show w3.heap[w1.heap.size + 1]? = some (.cells #[.int .i64 r, .map (some w1.heap.size)] 56 (0, 0)) from (hgrow3.block _ (by simp; omega) (own_ne HOI2.out.1 HGA.out (by decide))).trans HGA.out)
           have HG3 := Lib.hid (show w4.heap[w1.heap.size + 1]? = some (.cells #[.int .i64 r, .map (some w1.heap.size)] 56 (0, 0)) from (hgrow4.block _ (blk_lt HG2.out) (by simp)).trans HG2.out)
           have HO4 := Lib.hid hown4
           have HI4 := Lib.hid hoi4
           have HB4 := Lib.hid (show Below w1.heap.size w1 w4 from ((((HBW.out.alloc hB _).drew)).groups HOI2.out hgrow3 hgrow4 (by simp; omega) (by omega) (Nat.le_refl _)))
           clear hown3 hgrow3 hat3 hlt3 hown4 hgrow4 hoi4))
      all_goals
        go_wp2
        go_roundw
        case rel => exact ⟨k + 1, _, by omega, by go_num, HG3, HO4, Lib.hid (by first | exact tblD_put' HT.out HM.out HX.out hx HZS.out HI4.out | exact tblD_put' HT.out HM.out HX.out hx HZS2.out HI4.out), Lib.hid (HM.out.put _ _), HB4⟩
        case measure => simp [intOf]; omega
    · have i1 : ¬ (k : Int) < (l.length : Int) := by omega
      obtain rfl : k = l.length := by omega
      go_wp2
      go_ret2
      exact ⟨_, rfl, ⟨_, _, _, _, HG.out, HO.out, by omega, HT.out⟩, below_then' HB.out HBW.out⟩
end Go.Proofs.Ytjgmilkgklellaa
