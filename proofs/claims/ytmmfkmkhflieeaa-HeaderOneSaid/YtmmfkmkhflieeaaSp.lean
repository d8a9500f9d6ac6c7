/- What a call has made: objects that lie apart from each other, and what becomes of them when one of them turns. -/
import Derived.Test.YtmmfkmkhflieeaaRq
namespace Go.Proofs.Ytmmfkmkhflieeaa
open Go.RowKit Go.Proofs.YtmmfkmkhflieeaaW.PrintWords Go.Proofs.YtmmfkmkhflieeaaW.PrintLast Go.Proofs.YtmmfkmkhflieeaaW.PrintMore
set_option linter.unusedSimpArgs false
set_option linter.unusedVariables false
/-- an object: what is said of a world, and of which blocks -/
structure Ob where
  P : World → (Nat → Prop) → Prop
  loc : ∀ {W W' : World} {F : Nat → Prop}, P W F → (∀ k, F k → W'.heap[k]? = W.heap[k]?) → P W' F
  lt : ∀ {W : World} {F : Nat → Prop}, P W F → ∀ k, F k → k < W.heap.size
/-- only these blocks have turned -/
structure Chg (S : Nat → Prop) (w w' : World) : Prop where
  os : w'.os = w.os
  tape : w'.tape = w.tape
  output : w'.output = w.output
  size : w.heap.size ≤ w'.heap.size
  block : ∀ k, k < w.heap.size → ¬ S k → w'.heap[k]? = w.heap[k]?
theorem Chg.refl (S : Nat → Prop) (w : World) : Chg S w w := ⟨rfl, rfl, rfl, Nat.le_refl _, fun _ _ _ => rfl⟩
theorem Chg.trans {S S1 : Nat → Prop} {w w1 w2 : World} (h : Chg S w w1) (k : Chg S1 w1 w2) (hs : ∀ k, S1 k → S k ∨ w.heap.size ≤ k) : Chg S w w2 :=
  ⟨k.os.trans h.os, k.tape.trans h.tape, k.output.trans h.output, Nat.le_trans h.size k.size, fun i hi hn => (k.block i (Nat.lt_of_lt_of_le hi h.size) (fun h1 => by rcases hs i h1 with h2 | h2; exact hn h2; omega)).trans (h.block i hi hn)⟩
theorem Chg.of_below {w w' : World} (h : Below w.heap.size w w') (S : Nat → Prop) : Chg S w w' := ⟨h.os, h.tape, h.output, h.size, fun k hk _ => h.block k hk⟩
theorem Chg.of_grown {w w' : World} {row : Option Nat} (h : w.grownBy w' row) {S : Nat → Prop} (hs : ∀ k, row = some k → S k) : Chg S w w' := ⟨h.os, h.tape, h.output, h.size, fun k hk hn => h.block k hk (fun e => hn (hs k e.symm))⟩
theorem Chg.below {w0 w w' : World} {S : Nat → Prop} (B : Below w0.heap.size w0 w) (h : Chg S w w') (hs : ∀ k, S k → w0.heap.size ≤ k) : Below w0.heap.size w0 w' :=
  ⟨h.os.trans B.os, h.tape.trans B.tape, h.output.trans B.output, Nat.le_trans B.size h.size, fun k hk => (h.block k (Nat.lt_of_lt_of_le hk B.size) (fun h1 => by have := hs k h1; omega)).trans (B.block k hk)⟩
theorem Chg.drewN {w w' : World} {S : Nat → Prop} (h : Chg S w w') (n : Nat) : Chg S w (w'.drewN n) := ⟨h.os, h.tape, h.output, h.size, h.block⟩
theorem Chg.drew {w w' : World} {S : Nat → Prop} (h : Chg S w w') : Chg S w w'.drew := ⟨h.os, h.tape, h.output, h.size, h.block⟩
/-- what one step does to one object -/
def Turn (o o' : Ob) (F : Nat → Prop) (w w' : World) : Prop := ∃ F', o'.P w' F' ∧ Chg F w w' ∧ ∀ k, F' k → F k ∨ w.heap.size ≤ k
theorem Turn.trans {o o1 o2 : Ob} {F : Nat → Prop} {w w1 w2 : World} (h : Turn o o1 F w w1) (k : ∀ F1, o1.P w1 F1 → Turn o1 o2 F1 w1 w2) : Turn o o2 F w w2 := by
  obtain ⟨F1, p1, c1, s1⟩ := h
  obtain ⟨F2, p2, c2, s2⟩ := k F1 p1
  exact ⟨F2, p2, c1.trans c2 s1, fun k hk => (s2 k hk).elim (s1 k) (fun h => .inr (Nat.le_trans c1.size h))⟩
theorem Turn.refl {o : Ob} {F : Nat → Prop} {w : World} (h : o.P w F) : Turn o o F w w := ⟨F, h, Chg.refl _ _, fun _ h => .inl h⟩
inductive Sep (w0 W : World) : List Ob → (Nat → Prop) → Prop
  | nil : Sep w0 W [] (fun _ => False)
  | cons {o : Ob} {os : List Ob} {F1 F : Nat → Prop} : o.P W F1 → (∀ k, F1 k → w0.heap.size ≤ k ∧ ¬ F k) → Sep w0 W os F → Sep w0 W (o :: os) (fun k => F1 k ∨ F k)
theorem Sep.loc {w0 W W' : World} {os : List Ob} {F : Nat → Prop} (h : Sep w0 W os F) (hk : ∀ k, F k → W'.heap[k]? = W.heap[k]?) : Sep w0 W' os F := by
  induction h with
  | nil => exact .nil
  | cons p a _ ih => exact .cons (Ob.loc _ p (fun k h => hk k (.inl h))) a (ih (fun k h => hk k (.inr h)))
theorem Sep.lt {w0 W : World} {os : List Ob} {F : Nat → Prop} (h : Sep w0 W os F) : ∀ k, F k → k < W.heap.size := by
  induction h with
  | nil => intro k hk; exact hk.elim
  | cons p _ _ ih => intro k hk; exact hk.elim (Ob.lt _ p k) (ih k)
theorem Sep.ge {w0 W : World} {os : List Ob} {F : Nat → Prop} (h : Sep w0 W os F) : ∀ k, F k → w0.heap.size ≤ k := by
  induction h with
  | nil => intro k hk; exact hk.elim
  | cons p a _ ih => intro k hk; exact hk.elim (fun h => (a k h).1) (ih k)
/-- what a call has made since w0 -/
structure Hold (w0 W : World) (os : List Ob) : Prop where
  B : Below w0.heap.size w0 W
  S : ∃ F, Sep w0 W os F
theorem Hold.start (w : World) : Hold w w [] := ⟨Below.refl _ _, _, .nil⟩
theorem Hold.below {w0 W W' : World} {os : List Ob} (h : Hold w0 W os) (hb : Below W.heap.size W W') : Hold w0 W' os := by
  obtain ⟨B, F, S⟩ := h
  exact ⟨B.trans (hb.mono B.size), F, S.loc (fun k hk => hb.block k (S.lt k hk))⟩
theorem Hold.drewN {w0 W : World} {os : List Ob} (h : Hold w0 W os) (n : Nat) : Hold w0 (W.drewN n) os := h.below (below_drewN' (Below.refl _ _) n)
theorem Hold.drew {w0 W : World} {os : List Ob} (h : Hold w0 W os) : Hold w0 W.drew os := h.below (Below.refl _ _).drew
theorem Hold.new {w0 W W' : World} {os : List Ob} (h : Hold w0 W os) {o : Ob} {F1 : Nat → Prop} (hb : Below W.heap.size W W') (ho : o.P W' F1) (hF : ∀ k, F1 k → W.heap.size ≤ k) : Hold w0 W' (o :: os) := by
  have h' := h.below hb
  obtain ⟨B, F, S⟩ := h
  exact ⟨h'.B, _, .cons ho (fun k hk => ⟨Nat.le_trans B.size (hF k hk), fun h1 => by have := S.lt k h1; have := hF k hk; omega⟩) (S.loc (fun k hk => hb.block k (S.lt k hk)))⟩
theorem Hold.turn {w0 W W' : World} {os : List Ob} {o o' : Ob} (h : Hold w0 W (o :: os)) (ht : ∀ F, o.P W F → Turn o o' F W W') : Hold w0 W' (o' :: os) := by
  obtain ⟨B, F, S⟩ := h
  cases S with
  | cons p a S =>
    rename_i F1 F2
    obtain ⟨F', p', c, s⟩ := ht F1 p
    refine ⟨c.below B (fun k hk => (a k hk).1), _, .cons p' (fun k hk => ?_) (S.loc (fun k hk => c.block k (S.lt k hk) (fun h1 => (a k h1).2 hk)))⟩
    rcases s k hk with h1 | h1
    · exact a k h1
    · exact ⟨Nat.le_trans B.size h1, fun h2 => by have := S.lt k h2; omega⟩
theorem Hold.swap {w0 W : World} {os : List Ob} {o o' : Ob} (h : Hold w0 W (o :: o' :: os)) : Hold w0 W (o' :: o :: os) := by
  obtain ⟨B, F, S⟩ := h
  cases S with
  | cons p a S =>
    cases S with
    | cons p' a' S =>
      exact ⟨B, _, .cons p' (fun k hk => ⟨(a' k hk).1, fun h => h.elim (fun h1 => (a k h1).2 (.inl hk)) (fun h1 => (a' k hk).2 h1)⟩) (.cons p (fun k hk => ⟨(a k hk).1, fun h => (a k hk).2 (.inr h)⟩) S)⟩
theorem Hold.third {w0 W : World} {os : List Ob} {o o' o2 : Ob} (h : Hold w0 W (o :: o' :: o2 :: os)) : Hold w0 W (o2 :: o :: o' :: os) := by
  obtain ⟨B, F, S⟩ := h
  cases S with
  | cons p a S =>
    cases S with
    | cons p' a' S =>
      cases S with
      | cons p2 a2 S =>
        refine ⟨B, _, .cons p2 (fun k hk => ⟨(a2 k hk).1, fun h => ?_⟩) (.cons p (fun k hk => ⟨(a k hk).1, fun h => (a k hk).2 (h.elim .inl (fun h => .inr (.inr h)))⟩) (.cons p' (fun k hk => ⟨(a' k hk).1, fun h => (a' k hk).2 (.inr h)⟩) S))⟩
        rcases h with h | h | h
        · exact (a k h).2 (.inr (.inl hk))
        · exact (a' k h).2 (.inl hk)
        · exact (a2 k hk).2 h
theorem Hold.drop {w0 W : World} {os : List Ob} {o : Ob} (h : Hold w0 W (o :: os)) : Hold w0 W os := by
  obtain ⟨B, F, S⟩ := h
  cases S with
  | cons p a S => exact ⟨B, _, S⟩
theorem Hold.head {w0 W : World} {os : List Ob} {o : Ob} (h : Hold w0 W (o :: os)) : ∃ F, o.P W F := by
  obtain ⟨B, F, S⟩ := h
  cases S with
  | cons p a S => exact ⟨_, p⟩
/-- a contract over one object, lifted -/
theorem Hold.call {P : Program} {f : FuncId} {args : Array Value} {w0 W : World} {os : List Ob} {o : Ob} {Q : Ending → Ob → Prop} (h : Hold w0 W (o :: os)) (c : ∀ F, o.P W F → Calls P f args W fun e w' => ∃ o', Q e o' ∧ Turn o o' F W w') :
    Calls P f args W fun e w' => ∃ o', Q e o' ∧ Hold w0 w' (o' :: os) := by
  have h0 := h
  obtain ⟨B, F, S⟩ := h
  cases S with
  | cons p a S =>
    rename_i F1 F2
    refine (c F1 p).mono ?_
    rintro e w' ⟨o', q, F', p', ch, s⟩
    refine ⟨o', q, ch.below B (fun k hk => (a k hk).1), _, .cons p' (fun k hk => ?_) (S.loc (fun k hk => ch.block k (S.lt k hk) (fun h1 => (a k h1).2 hk)))⟩
    rcases s k hk with h1 | h1
    · exact a k h1
    · exact ⟨Nat.le_trans B.size h1, fun h2 => by have := S.lt k h2; omega⟩
theorem Hold.call1 {P : Program} {f : FuncId} {args : Array Value} {w0 W : World} {os : List Ob} {o o' : Ob} {v : Value} (h : Hold w0 W (o :: os)) (c : ∀ F, o.P W F → Calls P f args W fun e w' => e = .returned v ∧ Turn o o' F W w') :
    Calls P f args W fun e w' => e = .returned v ∧ Hold w0 w' (o' :: os) :=
  (h.call (Q := fun e o1 => e = .returned v ∧ o1 = o') (fun F hF => (c F hF).mono fun e w' hh => ⟨o', ⟨hh.1, rfl⟩, hh.2⟩)).mono fun e w' ⟨o1, ⟨h1, h2⟩, h3⟩ => ⟨h1, h2 ▸ h3⟩
/-! #### rows that are read -/
/-- the blocks of a row that reads -/
def rowF (A : Option Addr) (n : Nat) (k : Nat) : Prop := 0 < n ∧ ∃ ad, A = some ad ∧ k = ad.block
theorem readsOf_loc {α : Type} {enc : α → Value} {d : α} {W W' : World} {A : Option Addr} {n : Nat} {l : List α} (h : ReadsOf enc d W A n l) (hk : ∀ k, rowF A n k → W'.heap[k]? = W.heap[k]?) : ReadsOf enc d W' A n l := by
  refine ⟨h.1, h.2.1, fun hn => ?_⟩
  obtain ⟨ad, e, hc⟩ := h.2.2 hn
  refine ⟨ad, e, fun j hj => ?_⟩
  rw [World.cell?_of_block (w := W) (by rw [add_block]; exact hk _ ⟨hn, ad, e, rfl⟩)]
  exact hc j hj
theorem readsOf_lt {α : Type} {enc : α → Value} {d : α} {W : World} {A : Option Addr} {n : Nat} {l : List α} (h : ReadsOf enc d W A n l) : ∀ k, rowF A n k → k < W.heap.size := by
  rintro k ⟨hn, ad, e, rfl⟩
  obtain ⟨ad', e', hc⟩ := h.2.2 hn
  rw [e] at e'
  cases e'
  have := World.block_lt_of_cell? W _ (hc 0 hn)
  rwa [add_block] at this
theorem readsInt_loc {W W' : World} {k : IntKind} {A : Option Addr} {n : Nat} {l : List Int} (h : ReadsInt W k A n l) (hk : ∀ b, rowF A n b → W'.heap[b]? = W.heap[b]?) : ReadsInt W' k A n l := readsInt_of.2 (readsOf_loc (readsInt_of.1 h) hk)
theorem readsInt_lt {W : World} {k : IntKind} {A : Option Addr} {n : Nat} {l : List Int} (h : ReadsInt W k A n l) : ∀ b, rowF A n b → b < W.heap.size := readsOf_lt (readsInt_of.1 h)
/-! #### a reader of bytes' bits, and one of bits -/
def rdO (g : Nat) (l : List Int) (t : Nat) : Ob where
  P W F := ∃ A c, IsR A c W g l t ∧ F = fun k => k = g ∨ rowF A l.length k
  loc := by
    rintro W W' F ⟨A, c, ⟨hb, hc, hr⟩, rfl⟩ hk
    exact ⟨A, c, ⟨by rw [hk g (.inl rfl)]; exact hb, hc, readsInt_loc hr (fun b hb => hk b (.inr hb))⟩, rfl⟩
  lt := by
    rintro W F ⟨A, c, ⟨hb, hc, hr⟩, rfl⟩ k (rfl | hk)
    · exact blk_lt hb
    · exact readsInt_lt hr k hk
theorem rdO_turn {g : Nat} {l : List Int} {t t' : Nat} {W W' : World} {A : Option Addr} {c : Nat} (h : IsR A c W' g l t') (hg : W.grownBy W' (some g)) : Turn (rdO g l t) (rdO g l t') (fun k => k = g ∨ rowF A l.length k) W W' :=
  ⟨_, ⟨A, c, h, rfl⟩, Chg.of_grown hg (fun k e => .inl (by injection e with e; exact e.symm)), fun k hk => .inl hk⟩
def qrO (g : Nat) (l : List Bool) (t : Nat) : Ob where
  P W F := ∃ A c, IsQ A c W g l t ∧ F = fun k => k = g ∨ rowF A l.length k
  loc := by
    rintro W W' F ⟨A, c, ⟨hb, hc, hr⟩, rfl⟩ hk
    exact ⟨A, c, ⟨by rw [hk g (.inl rfl)]; exact hb, hc, readsOf_loc hr (fun b hb => hk b (.inr hb))⟩, rfl⟩
  lt := by
    rintro W F ⟨A, c, ⟨hb, hc, hr⟩, rfl⟩ k (rfl | hk)
    · exact blk_lt hb
    · exact readsOf_lt hr k hk
theorem qrO_turn {g : Nat} {l : List Bool} {t t' : Nat} {W W' : World} {A : Option Addr} {c : Nat} (h : IsQ A c W' g l t') (hg : W.grownBy W' (some g)) : Turn (qrO g l t) (qrO g l t') (fun k => k = g ∨ rowF A l.length k) W W' :=
  ⟨_, ⟨A, c, h, rfl⟩, Chg.of_grown hg (fun k e => .inl (by injection e with e; exact e.symm)), fun k hk => .inl hk⟩
/-! #### rows of the call's own -/
/-- a row, whatever its elements -/
def owO (e size : Nat) (v : Value) (n : Nat) (xs : List Value) : Ob where
  P W F := W.ownsRow 0 e size v n xs ∧ F = fun k => v.ownBlock = some k
  loc := by
    rintro W W' F ⟨h, rfl⟩ hk
    refine ⟨⟨h.1, ?_⟩, rfl⟩
    rcases h.2 with h1 | ⟨b, cap, cur, rfl, h2, h3, h4⟩
    · exact .inl h1
    · exact .inr ⟨b, cap, cur, rfl, h2, by rw [hk b rfl]; exact h3, h4⟩
  lt := by
    rintro W F ⟨h, rfl⟩ k hk
    rcases h.2 with ⟨rfl, _⟩ | ⟨b, cap, cur, rfl, h2, h3, h4⟩
    · simp [Value.ownBlock] at hk
    · simp only [Value.ownBlock, Option.some.injEq] at hk
      subst hk
      exact blk_lt h3
end Go.Proofs.Ytmmfkmkhflieeaa
