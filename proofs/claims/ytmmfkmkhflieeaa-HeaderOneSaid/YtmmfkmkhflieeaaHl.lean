/- The contracts of writers and readers of bits, lifted to what a call holds. -/
import Derived.Test.YtmmfkmkhflieeaaBw
import Derived.Test.YtmmfkmkhflieeaaBu
import Derived.Test.YtmmfkmkhflieeaaBv
namespace Go.Proofs.Ytmmfkmkhflieeaa
open Go.RowKit Go.Proofs.YtmmfkmkhflieeaaW.PrintWords Go.Proofs.YtmmfkmkhflieeaaW.PrintLast Go.Proofs.YtmmfkmkhflieeaaW.PrintMore
set_option linter.unusedSimpArgs false
set_option linter.unusedVariables false
theorem reads_some {w : World} {k : IntKind} {ad : Addr} {n : Nat} {l : List Int} (h : ReadsInt w k (some ad) n l) (i : Nat) (hi : i < n) (wr : World) (hb : Below w.heap.size w wr) : wr.cell? (ad.add i) = some (.int k (l.getD i 0)) := by
  obtain ⟨ad', e, hc⟩ := reads_cell (h.below hb) i hi
  cases e
  exact hc
theorem IsRow.nil {k : IntKind} {w : World} {a : Option Addr} {len cap : Nat} {zs : List Int} (h : IsRow k w a len cap zs) : a = none → cap = 0 := by
  rcases h with ⟨rfl, rfl, rfl, rfl⟩ | ⟨x, rfl, _⟩
  · intro _; rfl
  · intro e; cases e
section
variable {w0 W : World} {os : List Ob}
theorem hNew_r {A : Option Addr} {n : Nat} {l : List Int} {c : Nat} (H : Hold w0 W os) (hn : l.length = n) (hr : ReadsInt W .u8 A n l) (hm : n ≤ 140737488351232) (hnil : A = none → c = 0) :
    Calls Try.prog 17 #[.slice A n c] W fun e w' => ∃ g, e = .returned (.pointer (some ⟨g, 0, none⟩)) ∧ Hold w0 w' (rdO g l 0 :: os) ∧ Below W.heap.size W w' := by
  refine (bnew_any A n l c W hn hr hm hnil).mono ?_
  rintro e w' ⟨g, A1, c1, rfl, hg, hI, hA, hb⟩
  refine ⟨g, rfl, H.new hb ⟨A1, c1, hI, rfl⟩ ?_, hb⟩
  rintro k (rfl | ⟨_, ad, e, rfl⟩)
  · exact hg
  · exact hA ad e
theorem hLeft_r {g : Nat} {l : List Int} {t : Nat} (H : Hold w0 W (rdO g l t :: os)) (ht : t ≤ 8 * l.length) (hm : l.length ≤ 140737488351232) :
    Calls Try.prog 22 #[.pointer (some ⟨g, 0, none⟩)] W fun e w' => e = .returned (.int .i64 (8 * (l.length : Int) - t)) ∧ Hold w0 w' (rdO g l t :: os) :=
  H.call1 fun F ⟨A, c, hI, hF⟩ => (bleft_at g l t W hI ht hm).mono fun e w' ⟨h1, h2, h3⟩ => ⟨h1, by rw [hF]; exact rdO_turn h2 h3⟩
theorem hPad_r {g : Nat} {l : List Int} {t : Nat} (H : Hold w0 W (rdO g l t :: os)) (ht : t ≤ 8 * l.length) (hm : l.length ≤ 140737488351232) (hp : padOk l t = true) :
    Calls Try.prog 27 #[.pointer (some ⟨g, 0, none⟩)] W fun e w' => e = .returned (.bool true) ∧ Hold w0 w' (rdO g l (8 * ((t + 7) / 8)) :: os) :=
  H.call1 fun F ⟨A, c, hI, hF⟩ => (bpad_yes g l t W hI ht hm hp).mono fun e w' ⟨h1, h2, h3⟩ => ⟨h1, by rw [hF]; exact rdO_turn h2 h3⟩
theorem hTake_r {g : Nat} {l : List Int} {t n : Nat} (H : Hold w0 W (rdO g l t :: os)) (ht : t + n ≤ 8 * l.length) (hn : n ≤ 24) (hm : l.length ≤ 140737488351232) (hok : ∀ x, x ∈ l → 0 ≤ x ∧ x ≤ 255) :
    Calls Try.prog 67 #[.pointer (some ⟨g, 0, none⟩), .int .i64 (n : Int)] W fun e w' => e = .returned (.tuple #[.int .u32 (numAt l t n), .bool true]) ∧ Hold w0 w' (rdO g l (t + n) :: os) :=
  H.call1 fun F ⟨A, c, hI, hF⟩ => (btake_ok g l t n W hI ht hn hm hok).mono fun e w' ⟨h1, h2, h3⟩ => ⟨h1, by rw [hF]; exact rdO_turn h2 h3⟩
theorem hNew_q {A : Option Addr} {n : Nat} {l : List Int} {c : Nat} (H : Hold w0 W os) (hn : l.length = n) (hr : ReadsInt W .u8 A n l) (hok : ∀ x, x ∈ l → 0 ≤ x ∧ x ≤ 255) (hm : n ≤ 1000000000000) :
    Calls Try.prog 18 #[.slice A n c] W fun e w' => ∃ g, e = .returned (.pointer (some ⟨g, 0, none⟩)) ∧ Hold w0 w' (qrO g (bitsOf l) 0 :: os) ∧ Below W.heap.size W w' := by
  refine (qnew_any A n l c W hn hr hok hm).mono ?_
  rintro e w' ⟨g, A1, c1, rfl, hg, hI, hA, hb⟩
  refine ⟨g, rfl, H.new hb ⟨A1, c1, hI, rfl⟩ ?_, hb⟩
  rintro k (rfl | ⟨_, ad, e, rfl⟩)
  · exact hg
  · exact hA ad e
theorem hLeft_q {g : Nat} {l : List Int} {t : Nat} (H : Hold w0 W (qrO g (bitsOf l) t :: os)) (ht : t ≤ 8 * l.length) :
    Calls Try.prog 23 #[.pointer (some ⟨g, 0, none⟩)] W fun e w' => e = .returned (.int .i64 (8 * (l.length : Int) - t)) ∧ Hold w0 w' (qrO g (bitsOf l) t :: os) :=
  H.call1 fun F ⟨A, c, hI, hF⟩ => (qleft_at g (bitsOf l) t W hI (by rw [bitsOf_len]; exact ht)).mono fun e w' ⟨h1, h2, h3⟩ => ⟨by rw [h1, bitsOf_len]; rfl, by rw [hF]; exact qrO_turn h2 h3⟩
theorem hNew_w (H : Hold w0 W os) : Calls Try.prog 9 #[] W fun e w' => ∃ g, e = .returned (.pointer (some ⟨g, 0, none⟩)) ∧ Hold w0 w' (wrO g [] :: os) := by
  refine (wnew_any W).mono ?_
  rintro e w' ⟨g, F, rfl, hP, hF, hb⟩
  exact ⟨g, rfl, H.new hb hP hF⟩
theorem hBits_w {g : Nat} {bs : List Bool} (H : Hold w0 W (wrO g bs :: os)) :
    Calls Try.prog 12 #[.pointer (some ⟨g, 0, none⟩)] W fun e w' => e = .returned (.int .i64 (bs.length : Int)) ∧ w' = W := by
  obtain ⟨F, h⟩ := H.head
  exact wbits_any g bs W F h
theorem hBytes_w {g : Nat} {bs : List Bool} (H : Hold w0 W (wrO g bs :: os)) (hm : bs.length ≤ 1000000000000) :
    Calls Try.prog 14 #[.pointer (some ⟨g, 0, none⟩)] W fun e w' => ∃ A c, e = .returned (.slice A (bytesOf' bs).length c) ∧ ReadsInt w' .u8 A (bytesOf' bs).length (bytesOf' bs) ∧ (A = none → c = 0) ∧ (∀ ad, A = some ad → W.heap.size ≤ ad.block) ∧ Below W.heap.size W w' := by
  obtain ⟨F, h⟩ := H.head
  refine (wbytes_any g bs W F h hm).mono ?_
  rintro e w' ⟨v, rfl, ho, hb⟩
  obtain ⟨A, c, rfl, hle, hr⟩ := own_reads' ho
  refine ⟨A, c, rfl, hr, ?_, own_from ho, hb⟩
  intro e
  subst e
  rcases ho.2 with ⟨e, _⟩ | ⟨b, cap, cur, e, _⟩
  · injection e
  · cases e
theorem hPut_w {g : Nat} {bs : List Bool} {v : Int} {n : Nat} (H : Hold w0 W (wrO g bs :: os)) (hm : bs.length ≤ 100000000000) (h0 : 0 ≤ v) (h1 : v ≤ 4294967295) (hn : n ≤ 24) :
    Calls Try.prog 49 #[.pointer (some ⟨g, 0, none⟩), .int .u32 v, .int .i64 (n : Int)] W fun e w' => e = .returned (.bool true) ∧ Hold w0 w' (wrO g (bs ++ bitsN v n) :: os) :=
  H.call1 fun F hF => wput_ok g bs v n W F hF hm h0 h1 hn
theorem hPut_bu {g : Nat} {bs : List Bool} {v left : Int} (H : Hold w0 W (wrO g bs :: os)) (hm : bs.length ≤ 100000000000) (hc : canB v left) :
    Calls Try.prog 30 #[.pointer (some ⟨g, 0, none⟩), .int .i64 v, .int .i64 left] W fun e w' => e = .returned (.bool true) ∧ Hold w0 w' (wrO g (bs ++ bitsN v (widN left)) :: os) :=
  H.call1 fun F hF => buput_yes g bs v left W F hF hm hc
theorem hPutN_bu {g : Nat} {v left : Int} (H : Hold w0 W os) (hl : left ≤ 9223372036854775807) (hc : ¬ canB v left) :
    Calls Try.prog 30 #[.pointer (some ⟨g, 0, none⟩), .int .i64 v, .int .i64 left] W fun e w' => e = .returned (.bool false) ∧ Hold w0 w' os :=
  (buput_no g v left W hl hc).mono fun e w' ⟨h1, h2⟩ => ⟨h1, H.below h2⟩
theorem hTake_bu {g : Nat} {l : List Int} {t : Nat} {left : Int} (H : Hold w0 W (rdO g l t :: os)) (ht : t ≤ 8 * l.length) (hm : l.length ≤ 140737488351232) (hok : ∀ x, x ∈ l → 0 ≤ x ∧ x ≤ 255) (hl0 : -9223372036854775808 ≤ left) (hl1 : left ≤ 9223372036854775807) {v e : Int} {t' : Nat} (hb : butk (8 * l.length) t (numAt l t (widN left)) left = (v, e, t')) :
    Calls Try.prog 56 #[.pointer (some ⟨g, 0, none⟩), .int .i64 left] W fun r w' => r = .returned (.tuple #[.int .i64 v, .int .i64 e]) ∧ Hold w0 w' (rdO g l t' :: os) := by
  have := H.call1 fun F hF => rdO_butake g l t left W F hF ht hm hok hl0 hl1
  rw [hb] at this
  exact this
theorem hTake_qbu {g : Nat} {l : List Int} {t : Nat} {left : Int} (H : Hold w0 W (qrO g (bitsOf l) t :: os)) (ht : t ≤ 8 * l.length) (hl0 : -9223372036854775808 ≤ left) (hl1 : left ≤ 9223372036854775807) {v e : Int} {t' : Nat} (hb : butk (8 * l.length) t (numAt l t (widN left)) left = (v, e, t')) :
    Calls Try.prog 39 #[.pointer (some ⟨g, 0, none⟩), .int .i64 left] W fun r w' => r = .returned (.tuple #[.int .i64 v, .int .i64 e]) ∧ Hold w0 w' (qrO g (bitsOf l) t' :: os) := by
  have := H.call1 fun F hF => qrO_butake g l t left W F hF ht hl0 hl1
  rw [hb] at this
  exact this
end
/-! bits and numbers -/
theorem numOf_div : ∀ (i : Nat) (L : List Bool), numOf L / 2 ^ i = numOf (L.drop i)
  | 0, L => by simp
  | i + 1, L => by
    have ih := numOf_div i L
    have e : numOf L / 2 ^ (i + 1) = numOf L / 2 ^ i / 2 := by rw [Int.pow_succ, Int.ediv_ediv_of_nonneg (by rw [pow_pw]; have := pw_pos i; omega)]
    rw [e, ih]
    rcases Nat.lt_or_ge i L.length with h | h
    · rw [numOf_drop L i h]
      split <;> omega
    · rw [List.drop_eq_nil_of_le h, List.drop_eq_nil_of_le (by omega)]; rfl
theorem bitsN_numOf (L : List Bool) : bitsN (numOf L) L.length = L := by
  apply List.ext_getElem
  · rw [bitsN_len]
  · intro i h1 h2
    simp only [bitsN, List.getElem_map, List.getElem_range]
    rw [numOf_div, numOf_drop L i h2]
    have : L.getD i false = L[i] := by rw [List.getD_eq_getElem?_getD, List.getElem?_eq_getElem h2]; rfl
    rw [this]
    cases L[i] <;> simp <;> omega
theorem bitsN_numAt (l : List Int) (t n : Nat) (h : t + n ≤ 8 * l.length) : (bitsOf l).take t ++ bitsN (numAt l t n) n = (bitsOf l).take (t + n) := by
  have e : (((bitsOf l).drop t).take n).length = n := by rw [List.length_take, List.length_drop, bitsOf_len]; omega
  have h1 := bitsN_numOf (((bitsOf l).drop t).take n)
  rw [e] at h1
  unfold numAt
  rw [h1, List.take_add]
theorem readsB_take {w : World} {A : Option Addr} {n : Nat} {l : List Bool} (h : ReadsB w A n l) (k : Nat) (hk : k ≤ n) : ReadsB w A k (l.take k) := by
  refine ⟨by rw [List.length_take, h.1]; omega, by have := h.2.1; omega, fun hn => ?_⟩
  obtain ⟨ad, e, hc⟩ := h.2.2 (by omega)
  refine ⟨ad, e, fun j hj => ?_⟩
  rw [hc j (by omega)]
  simp [List.getD_eq_getElem?_getD, List.getElem?_take, hj]
theorem butk_le {N t : Nat} {num left : Int} {v e : Int} {t' : Nat} (h : butk N t num left = (v, e, t')) (ht : t ≤ N) : t' ≤ N := by
  unfold butk at h
  split at h
  · split at h
    · split at h <;> (simp only [Prod.mk.injEq] at h; omega)
    · simp only [Prod.mk.injEq] at h; omega
  · simp only [Prod.mk.injEq] at h; omega
theorem butk_ok {N t : Nat} {num left : Int} {v e : Int} {t' : Nat} (h : butk N t num left = (v, e, t')) (h0 : 1 ≤ left) (h1 : left ≤ 4096) (hn : 0 ≤ num) : (e = 0 ∧ v = num ∧ num ≤ left ∧ t' = t + widN left ∧ t + widN left ≤ N ∧ canB v left) ∨ (v = 0 ∧ (e = 3 ∨ e = 13)) := by
  unfold butk at h
  rw [if_pos ⟨h0, h1⟩] at h
  split at h
  · split at h
    · simp only [Prod.mk.injEq] at h
      obtain ⟨rfl, rfl, rfl⟩ := h
      exact .inl ⟨rfl, rfl, by assumption, rfl, by assumption, ⟨h0, h1, hn, by assumption⟩⟩
    · simp only [Prod.mk.injEq] at h
      exact .inr ⟨h.1.symm, .inr h.2.1.symm⟩
  · simp only [Prod.mk.injEq] at h
    exact .inr ⟨h.1.symm, .inl h.2.1.symm⟩
end Go.Proofs.Ytmmfkmkhflieeaa
