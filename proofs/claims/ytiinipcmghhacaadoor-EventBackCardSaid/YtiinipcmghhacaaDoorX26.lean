/- Runs of plain operations. -/
import Derived.Test.YtiinipcmghhacaaDoorX25
import Derived.Scope
set_option linter.unusedVariables false
set_option linter.unusedSimpArgs false
namespace Go.Proofs.YtiinipcmghhacaaDoor.X
open Go
/-- What holds, brought to its plain form. -/
theorem nm {p q : Prop} (h : p) (e : p = q := by first | (simp only [zz1, zz2, zz3, zz4, zz5, zz6, zz7, zz8, zz9, zza, zzb]; first | done | exact rfl) | exact rfl) : q := e ▸ h
/-! ## What the tables tell -/
class FO (P : Program) (s f : Nat) (j : outParam Nat) : Prop where
  h : fieldOff P s f = some j
class SC (P : Program) (t : Nat) : Prop where
  h : scal P t = true
class AG (P : Program) (t : Nat) (n : outParam Nat) : Prop where
  h : aggSz P t = some n
class UN (P : Program) (t : Nat) (u : outParam TypeDesc) : Prop where
  h : P.underlying t = some u
class GO (P : Program) (f : Nat) : Prop where
  h : goFn P f = true
class FL (P : Program) (s f : Nat) (j t : outParam Nat) : Prop where
  h : fldOf P s f = some (j, t)
class LZ (P : Program) (T : Nat) (Lb : outParam (List (Nat × Value))) : Prop where
  h : ∃ z, zeroOf P T = some z ∧ AllIn (enum 0 (cellsOf z)) Lb

/-! ## Cells, stored in place -/
inductive Upd : List (Nat × Value) → Nat → Value → List (Nat × Value) → Prop where
  | here {k : Nat} {u v : Value} {r : List (Nat × Value)} : Upd ((k, u) :: r) k v ((k, v) :: r)
  | there {j k : Nat} {u v : Value} {r r' : List (Nat × Value)} (hn : Nat.beq j k = false) (h : Upd r k v r') : Upd ((j, u) :: r) k v ((j, u) :: r')
theorem Upd.had {L L' : List (Nat × Value)} {k : Nat} {v : Value} (h : Upd L k v L') : ∃ u, lk L k = some u := by
  induction h with
  | @here k u v r => exact ⟨u, by simp [lk]⟩
  | @there j k u v r r' hn h ih => obtain ⟨x, hx⟩ := ih; exact ⟨x, by simp only [lk, hn]; exact hx⟩
theorem Upd.look {L L' : List (Nat × Value)} {k : Nat} {v : Value} (h : Upd L k v L') : ∀ t x, lk L' t = some x → lk ((k, v) :: L) t = some x := by
  induction h with
  | @here k u v r =>
    intro t x hx
    rcases lk_cons hx with ⟨rfl, rfl⟩ | ⟨hne, h2⟩
    · simp [lk]
    · have hb : Nat.beq k t = false := by
        cases hb : Nat.beq k t with
        | false => rfl
        | true => exact absurd (Nat.eq_of_beq_eq_true hb) hne
      simp only [lk, hb]; exact h2
  | @there j k u v r r' hn h ih =>
    intro t x hx
    rcases lk_cons hx with ⟨rfl, rfl⟩ | ⟨hne, h2⟩
    · have hb : Nat.beq k j = false := by
        cases hb : Nat.beq k j with
        | false => rfl
        | true => have := Nat.eq_of_beq_eq_true hb; subst this; rw [hb] at hn; cases hn
      simp [lk, hb]
    · have h3 := ih t x h2
      rcases lk_cons h3 with ⟨rfl, rfl⟩ | ⟨hne2, h4⟩
      · simp [lk]
      · have hb : Nat.beq k t = false := by
          cases hb : Nat.beq k t with
          | false => rfl
          | true => exact absurd (Nat.eq_of_beq_eq_true hb) hne2
        have hb2 : Nat.beq j t = false := by
          cases hb : Nat.beq j t with
          | false => rfl
          | true => exact absurd (Nat.eq_of_beq_eq_true hb) hne
        simp only [lk, hb, hb2]; exact h4
inductive UpdN : List (Nat × Value) → Nat → List Value → List (Nat × Value) → Prop where
  | nil {L : List (Nat × Value)} {k : Nat} : UpdN L k [] L
  | cons {L L1 L2 : List (Nat × Value)} {k : Nat} {v : Value} {vs : List Value} (h : Upd L k v L1) (h2 : UpdN L1 (k + 1) vs L2) : UpdN L k (v :: vs) L2
theorem UpdN.had : ∀ {vs : List Value} {L L' : List (Nat × Value)} {k : Nat}, UpdN L k vs L' → ∃ us, lks L k vs.length = some us
  | [], L, L', k, _ => ⟨[], rfl⟩
  | v :: vs, L, L', k, h => by
    cases h with
    | cons h h2 =>
      obtain ⟨u, hu⟩ := h.had
      obtain ⟨us, hus⟩ := h2.had
      suffices hs : ∃ us', lks L (k + 1) vs.length = some us' by
        obtain ⟨us', h'⟩ := hs
        exact ⟨u :: us', by simp only [List.length_cons, lks, hu, h']⟩
      have key : ∀ (n j : Nat) {L L1 : List (Nat × Value)} {k : Nat} {v : Value}, Upd L k v L1 → (∃ us, lks L1 j n = some us) → ∃ us, lks L j n = some us := by
        intro n
        induction n with
        | zero => intro j L L1 k v _ _; exact ⟨[], rfl⟩
        | succ n ih =>
          intro j L L1 k v hU hL
          obtain ⟨us, hL⟩ := hL
          simp only [lks] at hL
          cases ha : lk L1 j with
          | none => simp [ha] at hL
          | some a =>
            cases hb : lks L1 (j + 1) n with
            | none => simp [ha, hb] at hL
            | some bs =>
              obtain ⟨us2, h2⟩ := ih (j + 1) hU ⟨bs, hb⟩
              have h3 := hU.look j a ha
              rcases lk_cons h3 with ⟨rfl, rfl⟩ | ⟨_, h4⟩
              · obtain ⟨x, hx⟩ := hU.had
                exact ⟨x :: us2, by simp only [lks, hx, h2]⟩
              · exact ⟨a :: us2, by simp only [lks, h4, h2]⟩
      exact key _ _ h ⟨us, hus⟩
theorem UpdN.look : ∀ {vs : List Value} {L L' : List (Nat × Value)} {k : Nat}, UpdN L k vs L' → ∀ t x, lk L' t = some x → lk (enum k vs ++ L) t = some x
  | [], L, L', k, h, t, x, hx => by cases h; exact hx
  | v :: vs, L, L', k, h, t, x, hx => by
    cases h with
    | @cons _ L1 _ _ _ _ h h2 =>
      have h3 := h2.look t x hx
      -- `enum (k + 1) vs ++ L1` against `(k, v) :: (enum (k + 1) vs ++ L)`
      have key : ∀ (vs : List Value) (j : Nat), k < j → ∀ t x, lk (enum j vs ++ L1) t = some x → lk ((k, v) :: (enum j vs ++ L)) t = some x := by
        intro vs
        induction vs with
        | nil => intro j _ t x hx; exact h.look t x hx
        | cons u us ih =>
          intro j hj t x hx
          rcases lk_cons hx with ⟨rfl, rfl⟩ | ⟨hne, h4⟩
          · have hb : Nat.beq k j = false := by
              cases hb : Nat.beq k j with
              | false => rfl
              | true => have := Nat.eq_of_beq_eq_true hb; omega
            simp [lk, hb, enum]
          · have h5 := ih (j + 1) (by omega) t x h4
            rcases lk_cons h5 with ⟨rfl, rfl⟩ | ⟨hne2, h6⟩
            · simp [lk]
            · have hb : Nat.beq k t = false := by
                cases hb : Nat.beq k t with
                | false => rfl
                | true => exact absurd (Nat.eq_of_beq_eq_true hb) hne2
              have hb2 : Nat.beq j t = false := by
                cases hb : Nat.beq j t with
                | false => rfl
                | true => exact absurd (Nat.eq_of_beq_eq_true hb) hne
              simp only [lk, hb, enum, List.cons_append, hb2]; exact h6
      exact key vs (k + 1) (by omega) t x h3
section
variable {P : Program} {Q : Exit → Act → World → Prop} {a : Act} {w : World} {N : Nat} {D : List Deferred} {L L' : List (Nat × Value)} {ops : Array Oper} {rest l l' : List Oper}
variable {d n : Nat} {ty : TypeId} {pos : String} {af : Array Edge} {g : Option (Nat × Bool)}
variable {w0 : World} {G0 : Heap} {K0 : List Nat} {G : Heap} {M M' M1 : List Chunk}
theorem St.convF {b : Nat} {T : TypeId} {L1 L2 : List (Nat × Value)} (h : St w0 G0 K0 G w M) (hm : RepM b (Cells T L1) (Cells T L2) M M') (hs : ∀ t x, lk L2 t = some x → lk L1 t = some x) : St w0 G0 K0 G w M' :=
  h.turnP hm fun o ⟨c, e, hc⟩ => ⟨c, e, fun t v ht => hc t v (hs t v ht)⟩
theorem RepM.mid {b : Nat} {p q : Obj → Prop} (r : Obj → Prop) (h : RepM b p q M M') : ∃ M1, RepM b p r M M1 ∧ RepM b r q M1 M' := by
  obtain ⟨A, X, Y, B, rfl, rfl⟩ := h.split
  exact ⟨_, RepM.mk' A X Y B, RepM.mk' A X Y B⟩
/-- From the operations `l` at the slots `L`, the blocks `M`, one comes by `n` operations to `l'` at `L'`, `M'`. -/
structure RunN (P : Program) (ops : Array Oper) (N : Nat) (D : List Deferred) (w0 : World) (G0 : Heap) (K0 : List Nat) (G : Heap) (n : Nat) (l : List Oper) (L : List (Nat × Value)) (M : List Chunk) (l' : List Oper) (L' : List (Nat × Value)) (M' : List Chunk) : Prop where
  run : ∀ (Q : Exit → Act → World → Prop) (a : Act) (w : World), Env a N D L → St w0 G0 K0 G w M → (∀ a w, Env a N D L' → St w0 G0 K0 G w M' → wpList P ops Q l' a w) → wpList P ops Q l a w
theorem r_done : RunN P ops N D w0 G0 K0 G 0 l L M l L M := ⟨fun _ _ _ HE HS k => k _ _ HE HS⟩
/-- One operation that hands back a value and changes nothing. -/
theorem r_pure {o : Oper} {v : Value} (h : ∀ (Q : Exit → Act → World → Prop) (a : Act) (w : World), Env a N D L → St w0 G0 K0 G w M → (∀ a', Env a' N D ((d, v) :: L) → wpList P ops Q rest a' w) → wpList P ops Q (o :: rest) a w)
    (k : RunN P ops N D w0 G0 K0 G n rest ((d, v) :: L) M l' L' M') : RunN P ops N D w0 G0 K0 G (n + 1) (o :: rest) L M l' L' M' := ⟨fun Q a w HE HS K => h Q a w HE HS fun a' HE' => k.run Q a' w HE' HS K⟩

theorem r_move {x : Operand} {v : Value} (hN : Nat.blt d N = true) (hx : ev L x = some v) (k : RunN P ops N D w0 G0 K0 G n rest ((d, v) :: L) M l' L' M') : RunN P ops N D w0 G0 K0 G (n + 1) (⟨some d, .move x, ty, pos, af, none⟩ :: rest) L M l' L' M' := r_pure (fun Q a w HE HS K => o_move HE hN hx K) k
theorem r_assign {x : Operand} {v : Value} (hN : Nat.blt d N = true) (hx : ev L x = some v) (k : RunN P ops N D w0 G0 K0 G n rest ((d, v) :: L) M l' L' M') : RunN P ops N D w0 G0 K0 G (n + 1) (⟨some d, .assign x, ty, pos, af, none⟩ :: rest) L M l' L' M' := r_pure (fun Q a w HE HS K => o_assign HE hN hx K) k
theorem r_fld {s f : Nat} {x : Operand} {b off j : Nat} (hN : Nat.blt d N = true) (hx : ev L x = some (.pointer (some ⟨b, off, none⟩))) (i : FO P s f j) (k : RunN P ops N D w0 G0 K0 G n rest ((d, .pointer (some ⟨b, off + j, none⟩)) :: L) M l' L' M') : RunN P ops N D w0 G0 K0 G (n + 1) (⟨some d, .fieldAddr s x f, ty, pos, af, none⟩ :: rest) L M l' L' M' := r_pure (fun Q a w HE HS K => o_fld HE hN hx i.h K) k
theorem r_ld {t T : TypeId} {x : Operand} {b off : Nat} {Lb : List (Nat × Value)} {v : Value} (hN : Nat.blt d N = true) (hx : ev L x = some (.pointer (some ⟨b, off, none⟩))) (i : SC P t) (hm : InM M b (Cells T Lb)) (hv : lk Lb off = some v) (k : RunN P ops N D w0 G0 K0 G n rest ((d, v) :: L) M l' L' M') : RunN P ops N D w0 G0 K0 G (n + 1) (⟨some d, .load t x, ty, pos, af, none⟩ :: rest) L M l' L' M' := r_pure (fun Q a w HE HS K => o_ld HE hN HS hx i.h hm hv K) k
theorem r_nil {x : Operand} {ad : Addr} (hN : Nat.blt d N = true) (hx : ev L x = some (.pointer (some ad))) (k : RunN P ops N D w0 G0 K0 G n rest ((d, .pointer (some ad)) :: L) M l' L' M') : RunN P ops N D w0 G0 K0 G (n + 1) (⟨some d, .nilCheck x, ty, pos, af, none⟩ :: rest) L M l' L' M' := r_pure (fun Q a w HE HS K => o_nil HE hN hx K) k
theorem r_eqI {t t' : TypeId} {x y : Operand} {q : IntKind} {i j : Int} (hN : Nat.blt d N = true) (hx : ev L x = some (.int q i)) (hy : ev L y = some (.int q j)) (k : RunN P ops N D w0 G0 K0 G n rest ((d, .bool (decide (i = j))) :: L) M l' L' M') : RunN P ops N D w0 G0 K0 G (n + 1) (⟨some d, .binOp .eql t x y t', ty, pos, af, none⟩ :: rest) L M l' L' M' := r_pure (fun Q a w HE HS K => o_eqI HE hN hx hy K) k
theorem r_lss {t t' : TypeId} {x y : Operand} {q : IntKind} {i j : Int} (hN : Nat.blt d N = true) (hx : ev L x = some (.int q i)) (hy : ev L y = some (.int q j)) (k : RunN P ops N D w0 G0 K0 G n rest ((d, .bool (decide (i < j))) :: L) M l' L' M') : RunN P ops N D w0 G0 K0 G (n + 1) (⟨some d, .binOp .lss t x y t', ty, pos, af, none⟩ :: rest) L M l' L' M' := r_pure (fun Q a w HE HS K => o_lss HE hN hx hy K) k
theorem r_neI {t t' : TypeId} {x y : Operand} {q : IntKind} {i j : Int} (hN : Nat.blt d N = true) (hx : ev L x = some (.int q i)) (hy : ev L y = some (.int q j)) (k : RunN P ops N D w0 G0 K0 G n rest ((d, .bool (!decide (i = j))) :: L) M l' L' M') : RunN P ops N D w0 G0 K0 G (n + 1) (⟨some d, .binOp .neq t x y t', ty, pos, af, none⟩ :: rest) L M l' L' M' := r_pure (fun Q a w HE HS K => o_neI HE hN hx hy K) k
theorem r_leq {t t' : TypeId} {x y : Operand} {q : IntKind} {i j : Int} (hN : Nat.blt d N = true) (hx : ev L x = some (.int q i)) (hy : ev L y = some (.int q j)) (k : RunN P ops N D w0 G0 K0 G n rest ((d, .bool (decide (i ≤ j))) :: L) M l' L' M') : RunN P ops N D w0 G0 K0 G (n + 1) (⟨some d, .binOp .leq t x y t', ty, pos, af, none⟩ :: rest) L M l' L' M' := r_pure (fun Q a w HE HS K => o_leq HE hN hx hy K) k
theorem r_gtr {t t' : TypeId} {x y : Operand} {q : IntKind} {i j : Int} (hN : Nat.blt d N = true) (hx : ev L x = some (.int q i)) (hy : ev L y = some (.int q j)) (k : RunN P ops N D w0 G0 K0 G n rest ((d, .bool (decide (j < i))) :: L) M l' L' M') : RunN P ops N D w0 G0 K0 G (n + 1) (⟨some d, .binOp .gtr t x y t', ty, pos, af, none⟩ :: rest) L M l' L' M' := r_pure (fun Q a w HE HS K => o_gtr HE hN hx hy K) k
theorem r_geq {t t' : TypeId} {x y : Operand} {q : IntKind} {i j : Int} (hN : Nat.blt d N = true) (hx : ev L x = some (.int q i)) (hy : ev L y = some (.int q j)) (k : RunN P ops N D w0 G0 K0 G n rest ((d, .bool (decide (j ≤ i))) :: L) M l' L' M') : RunN P ops N D w0 G0 K0 G (n + 1) (⟨some d, .binOp .geq t x y t', ty, pos, af, none⟩ :: rest) L M l' L' M' := r_pure (fun Q a w HE HS K => o_geq HE hN hx hy K) k
theorem r_not {t : TypeId} {x : Operand} {b : Bool} (hN : Nat.blt d N = true) (hx : ev L x = some (.bool b)) (k : RunN P ops N D w0 G0 K0 G n rest ((d, .bool (!b)) :: L) M l' L' M') : RunN P ops N D w0 G0 K0 G (n + 1) (⟨some d, .unOp .not t x, ty, pos, af, none⟩ :: rest) L M l' L' M' := r_pure (fun Q a w HE HS K => o_not HE hN hx K) k
theorem r_ldA {t T m : Nat} {x : Operand} {b off : Nat} {Lb : List (Nat × Value)} {vs : List Value} (hN : Nat.blt d N = true) (hx : ev L x = some (.pointer (some ⟨b, off, none⟩))) (i : AG P t m) (hm : InM M b (Cells T Lb)) (hv : lks Lb off m = some vs) (k : RunN P ops N D w0 G0 K0 G n rest ((d, .agg vs.toArray) :: L) M l' L' M') : RunN P ops N D w0 G0 K0 G (n + 1) (⟨some d, .load t x, ty, pos, af, none⟩ :: rest) L M l' L' M' := r_pure (fun Q a w HE HS K => o_ldA HE hN HS hx i.h hm hv K) k
theorem r_extract {x : Operand} {i : Nat} {vs : Array Value} {v : Value} (hN : Nat.blt d N = true) (hx : ev L x = some (.tuple vs)) (hv : vs.toList[i]? = some v) (k : RunN P ops N D w0 G0 K0 G n rest ((d, v) :: L) M l' L' M') : RunN P ops N D w0 G0 K0 G (n + 1) (⟨some d, .extract x i, ty, pos, af, none⟩ :: rest) L M l' L' M' := r_pure (fun Q a w HE HS K => o_extract HE hN hx hv K) k
theorem r_st {t T : TypeId} {x y : Operand} {b off : Nat} {Lb Lc : List (Nat × Value)} {v : Value} (hx : ev L x = some (.pointer (some ⟨b, off, none⟩))) (hy : ev L y = some v) (h1 : one v = true) (i : SC P t) (hm : RepM b (Cells T Lb) (Cells T Lc) M M1) (hu : Upd Lb off v Lc)
    (k : RunN P ops N D w0 G0 K0 G n rest L M1 l' L' M') : RunN P ops N D w0 G0 K0 G (n + 1) (⟨none, .store t x y, ty, pos, af, none⟩ :: rest) L M l' L' M' := ⟨fun Q a w HE HS K => by
  obtain ⟨M2, e1, e2⟩ := hm.mid (Cells T ((off, v) :: Lb))
  obtain ⟨u, hu'⟩ := hu.had
  exact o_st HE HS hx hy h1 i.h e1 hu' fun w' HS' => k.run Q a w' HE (HS'.convF e2 hu.look) K⟩
theorem r_stA {t T m : Nat} {x y : Operand} {b off : Nat} {Lb Lc : List (Nat × Value)} {cs : List Value} (hx : ev L x = some (.pointer (some ⟨b, off, none⟩))) (hy : ev L y = some (.agg cs.toArray)) (h1 : cs.all one = true) (i : AG P t m) (hl : Nat.beq cs.length m = true) (hm : RepM b (Cells T Lb) (Cells T Lc) M M1) (hu : UpdN Lb off cs Lc)
    (k : RunN P ops N D w0 G0 K0 G n rest L M1 l' L' M') : RunN P ops N D w0 G0 K0 G (n + 1) (⟨none, .store t x y, ty, pos, af, none⟩ :: rest) L M l' L' M' := ⟨fun Q a w HE HS K => by
  obtain ⟨M2, e1, e2⟩ := hm.mid (Cells T (enum off cs ++ Lb))
  obtain ⟨us, hus⟩ := hu.had
  have hlm := Nat.eq_of_beq_eq_true hl
  exact o_stA HE HS hx hy h1 (by rw [hlm]; exact i.h) e1 hus fun w' HS' => k.run Q a w' HE (HS'.convF e2 hu.look) K⟩
theorem r_lenS {x : Operand} {t : TypeId} {s : Bs} (hN : Nat.blt d N = true) (hx : ev L x = some (str s)) (i : UN P t .string) (k : RunN P ops N D w0 G0 K0 G n rest ((d, .int .i64 s.length) :: L) M l' L' M') : RunN P ops N D w0 G0 K0 G (n + 1) (⟨some d, .call ⟨.builtin .len, #[x], #[t]⟩, ty, pos, af, none⟩ :: rest) L M l' L' M' := r_pure (fun Q a w HE HS K => o_lenS HE hN hx i.h K) k
theorem r_lenL {x : Operand} {t e : TypeId} {A : Option Addr} {m c : Nat} (hN : Nat.blt d N = true) (hx : ev L x = some (.slice A m c)) (i : UN P t (.slice e)) (k : RunN P ops N D w0 G0 K0 G n rest ((d, .int .i64 m) :: L) M l' L' M') : RunN P ops N D w0 G0 K0 G (n + 1) (⟨some d, .call ⟨.builtin .len, #[x], #[t]⟩, ty, pos, af, none⟩ :: rest) L M l' L' M' := r_pure (fun Q a w HE HS K => o_lenL HE hN hx i.h K) k
theorem r_eqS {t t' : TypeId} {x y : Operand} {s r : Bs} (hN : Nat.blt d N = true) (hx : ev L x = some (str s)) (hy : ev L y = some (str r)) (k : RunN P ops N D w0 G0 K0 G n rest ((d, .bool (s == r)) :: L) M l' L' M') : RunN P ops N D w0 G0 K0 G (n + 1) (⟨some d, .binOp .eql t x y t', ty, pos, af, none⟩ :: rest) L M l' L' M' := r_pure (fun Q a w HE HS K => o_eqS HE hN hx hy K) k
theorem r_neS {t t' : TypeId} {x y : Operand} {s r : Bs} (hN : Nat.blt d N = true) (hx : ev L x = some (str s)) (hy : ev L y = some (str r)) (k : RunN P ops N D w0 G0 K0 G n rest ((d, .bool (!(s == r))) :: L) M l' L' M') : RunN P ops N D w0 G0 K0 G (n + 1) (⟨some d, .binOp .neq t x y t', ty, pos, af, none⟩ :: rest) L M l' L' M' := r_pure (fun Q a w HE HS K => o_neS HE hN hx hy K) k
theorem r_add {t t' : TypeId} {x y : Operand} {i j : Int} (hN : Nat.blt d N = true) (hx : ev L x = some (.int .i64 i)) (hy : ev L y = some (.int .i64 j)) (h : -9223372036854775808 ≤ i + j ∧ i + j ≤ 9223372036854775807) (k : RunN P ops N D w0 G0 K0 G n rest ((d, .int .i64 (i + j)) :: L) M l' L' M') : RunN P ops N D w0 G0 K0 G (n + 1) (⟨some d, .binOp .add t x y t', ty, pos, af, none⟩ :: rest) L M l' L' M' := r_pure (fun Q a w HE HS K => o_add HE hN hx hy h K) k
theorem r_sub {t t' : TypeId} {x y : Operand} {i j : Int} (hN : Nat.blt d N = true) (hx : ev L x = some (.int .i64 i)) (hy : ev L y = some (.int .i64 j)) (h : -9223372036854775808 ≤ i - j ∧ i - j ≤ 9223372036854775807) (k : RunN P ops N D w0 G0 K0 G n rest ((d, .int .i64 (i - j)) :: L) M l' L' M') : RunN P ops N D w0 G0 K0 G (n + 1) (⟨some d, .binOp .sub t x y t', ty, pos, af, none⟩ :: rest) L M l' L' M' := r_pure (fun Q a w HE HS K => o_sub HE hN hx hy h K) k
theorem r_mul {t t' : TypeId} {x y : Operand} {i j : Int} (hN : Nat.blt d N = true) (hx : ev L x = some (.int .i64 i)) (hy : ev L y = some (.int .i64 j)) (h : -9223372036854775808 ≤ i * j ∧ i * j ≤ 9223372036854775807) (k : RunN P ops N D w0 G0 K0 G n rest ((d, .int .i64 (i * j)) :: L) M l' L' M') : RunN P ops N D w0 G0 K0 G (n + 1) (⟨some d, .binOp .mul t x y t', ty, pos, af, none⟩ :: rest) L M l' L' M' := r_pure (fun Q a w HE HS K => o_mul HE hN hx hy h K) k
theorem r_func {fn : Fn} {first cap : Array Operand} {us vs : List Value} (hN : Nat.blt d N = true) (h1 : evs L first.toList = some us) (h2 : evs L cap.toList = some vs) (k : RunN P ops N D w0 G0 K0 G n rest ((d, .func fn us.toArray vs.toArray) :: L) M l' L' M') : RunN P ops N D w0 G0 K0 G (n + 1) (⟨some d, .makeFunc fn first cap, ty, pos, af, none⟩ :: rest) L M l' L' M' := r_pure (fun Q a w HE HS K => o_func HE hN h1 h2 K) k
theorem r_pickT {c x y : Operand} {b : Bool} {v : Value} (hN : Nat.blt d N = true) (hc : ev L c = some (.bool b)) (hb : b = true) (hx : ev L x = some v) (k : RunN P ops N D w0 G0 K0 G n rest ((d, v) :: L) M l' L' M') : RunN P ops N D w0 G0 K0 G (n + 1) (⟨some d, .pick c x y, ty, pos, af, none⟩ :: rest) L M l' L' M' := r_pure (fun Q a w HE HS K => o_pick_t HE hN hc hb hx K) k
theorem r_pickF {c x y : Operand} {b : Bool} {v : Value} (hN : Nat.blt d N = true) (hc : ev L c = some (.bool b)) (hb : b = false) (hy : ev L y = some v) (k : RunN P ops N D w0 G0 K0 G n rest ((d, v) :: L) M l' L' M') : RunN P ops N D w0 G0 K0 G (n + 1) (⟨some d, .pick c x y, ty, pos, af, none⟩ :: rest) L M l' L' M' := r_pure (fun Q a w HE HS K => o_pick_f HE hN hc hb hy K) k
theorem r_on {op : Op} {dd : Option Nat} {j : Nat} {want b : Bool} {dj : Nat} (hj : (ops[j]?).bind (·.dst) = some dj) (hb : lk L dj = some (.bool b)) (he : b = want)
    (k : RunN P ops N D w0 G0 K0 G (n + 1) (⟨dd, op, ty, pos, af, none⟩ :: rest) L M l' L' M') : RunN P ops N D w0 G0 K0 G (n + 1) (⟨dd, op, ty, pos, af, some (j, want)⟩ :: rest) L M l' L' M' := ⟨fun Q a w HE HS K => op_on HE hj hb he (k.run Q a w HE HS K)⟩
theorem r_off {op : Op} {j : Nat} {want b : Bool} {dj : Nat} (hN : Nat.blt d N = true) (hj : (ops[j]?).bind (·.dst) = some dj) (hb : lk L dj = some (.bool b)) (hne : b = !want)
    (k : RunN P ops N D w0 G0 K0 G n rest ((d, undef) :: L) M l' L' M') : RunN P ops N D w0 G0 K0 G (n + 1) (⟨some d, op, ty, pos, af, some (j, want)⟩ :: rest) L M l' L' M' := ⟨fun Q a w HE HS K => g_off HE hN hj hb hne fun a' HE' => k.run Q a' w HE' HS K⟩
theorem r_offu {op : Op} {j : Nat} {want : Bool} {dj : Nat} (hN : Nat.blt d N = true) (hj : (ops[j]?).bind (·.dst) = some dj) (hb : lk L dj = some undef)
    (k : RunN P ops N D w0 G0 K0 G n rest ((d, undef) :: L) M l' L' M') : RunN P ops N D w0 G0 K0 G (n + 1) (⟨some d, op, ty, pos, af, some (j, want)⟩ :: rest) L M l' L' M' := ⟨fun Q a w HE HS K => g_offu HE hN hj hb fun a' HE' => k.run Q a' w HE' HS K⟩
theorem r_fieldS {s f j t : Nat} {x : Operand} {cs : Array Value} {v : Value} (hN : Nat.blt d N = true) (hx : ev L x = some (.agg cs)) (i : FL P s f j t) (i2 : SC P t) (hv : lks (enum 0 cs.toList) j 1 = some [v]) (k : RunN P ops N D w0 G0 K0 G n rest ((d, v) :: L) M l' L' M') : RunN P ops N D w0 G0 K0 G (n + 1) (⟨some d, .field s x f, ty, pos, af, none⟩ :: rest) L M l' L' M' := r_pure (fun Q a w HE HS K => o_field HE hN hx i.h hv (.inl ⟨i2.h, rfl⟩) K) k
theorem r_fieldA {s f j t m : Nat} {x : Operand} {cs : Array Value} {vs : List Value} (hN : Nat.blt d N = true) (hx : ev L x = some (.agg cs)) (i : FL P s f j t) (i2 : AG P t m) (hv : lks (enum 0 cs.toList) j m = some vs) (k : RunN P ops N D w0 G0 K0 G n rest ((d, .agg vs.toArray) :: L) M l' L' M') : RunN P ops N D w0 G0 K0 G (n + 1) (⟨some d, .field s x f, ty, pos, af, none⟩ :: rest) L M l' L' M' := r_pure (fun Q a w HE HS K => o_field HE hN hx i.h hv (.inr ⟨i2.h, rfl⟩) K) k
/-- A run of `n` plain operations. -/
theorem rn (n : Nat) (HE : Env a N D L) (HS : St w0 G0 K0 G w M) (k : ∀ a w, Env a N D L' → St w0 G0 K0 G w M' → wpList P ops Q l' a w) (h : RunN P ops N D w0 G0 K0 G n l L M l' L' M' := by (repeat (first | exact r_done | apply r_move rfl rfl | apply r_assign rfl rfl | (apply r_fld rfl rfl; (focus (infer_instance))) | (apply r_ld rfl rfl; (focus (infer_instance)); (focus (repeat (first | exact .here .here | exact .here (.there .here) | exact .here (.there (.there .here)) | apply InM.there))); exact rfl) | apply r_nil rfl rfl | apply r_eqI rfl rfl rfl | apply r_lss rfl rfl rfl | apply r_neI rfl rfl rfl | apply r_leq rfl rfl rfl | apply r_gtr rfl rfl rfl | apply r_geq rfl rfl rfl | apply r_not rfl rfl | (apply r_ldA rfl rfl; (focus (infer_instance)); (focus (repeat (first | exact .here .here | exact .here (.there .here) | exact .here (.there (.there .here)) | apply InM.there))); exact rfl) | apply r_extract rfl rfl rfl | (apply r_st rfl rfl rfl; (infer_instance); (focus (repeat (first | exact .here .here | exact .here (.there .here) | exact .here (.there (.there .here)) | apply RepM.there))); (focus (repeat (first | exact Upd.here | apply Upd.there rfl)))) | (apply r_stA rfl rfl rfl; (infer_instance); exact rfl; (focus (repeat (first | exact .here .here | exact .here (.there .here) | exact .here (.there (.there .here)) | apply RepM.there))); (focus (repeat (first | exact UpdN.nil | (apply UpdN.cons; (focus (repeat (first | exact Upd.here | apply Upd.there rfl)))))))) | (apply r_lenS rfl rfl; (focus (infer_instance))) | (apply r_lenL rfl rfl; (focus (infer_instance))) | apply r_eqS rfl rfl rfl | apply r_neS rfl rfl rfl | (apply r_add rfl rfl rfl; (focus (omega))) | (apply r_sub rfl rfl rfl; (focus (omega))) | (apply r_mul rfl rfl rfl; (focus (omega))) | apply r_func rfl rfl rfl | (apply r_pickT rfl rfl; (focus (assumption)); exact rfl) | (apply r_pickF rfl rfl; (focus (assumption)); exact rfl) | (apply r_on rfl rfl; (assumption)) | (apply r_off rfl rfl rfl; (assumption)) | apply r_offu rfl rfl rfl | (apply r_fieldS rfl rfl; (focus (infer_instance)); (focus (infer_instance)); exact rfl) | (apply r_fieldA rfl rfl; (focus (infer_instance)); (focus (infer_instance)); exact rfl)))) : wpList P ops Q l a w := h.run Q a w HE HS k
/-! ## Parts of code -/
/-- A region, and what is behind it. -/
theorem sr {id : Nat} {y : Code} (h : ∀ K : Act → World → Prop, (∀ a w, y.wp P Q a w → K a w) → wpList P l.toArray (Exit.then K Q) l a w) : (Code.seq (.region id l.toArray false) y).wp P Q a w :=
  wp_seq_k fun K hK => wp_region_lit (h K hK)
def memB : List Nat → Nat → Bool
  | [], _ => false
  | k :: r, t => Nat.beq k t || memB r t
/-- What is looked up in the second list is so in the first one. -/
def AllV (L : List (Nat × Value)) : List (Nat × Value) → List Nat → Prop
  | [], _ => True
  | (t, v) :: r, seen => (lk L t = some v ∨ memB seen t = true) ∧ AllV L r (t :: seen)
theorem AllV.get {L : List (Nat × Value)} : ∀ {L' : List (Nat × Value)} {seen : List Nat}, AllV L L' seen → ∀ t v, memB seen t = false → lk L' t = some v → lk L t = some v
  | [], _, _, t, v, _, h => by simp [lk] at h
  | (k, u) :: r, seen, ha, t, v, hs, h => by
    rcases lk_cons h with ⟨rfl, rfl⟩ | ⟨hne, h2⟩
    · rcases ha.1 with h3 | h3
      · exact h3
      · rw [h3] at hs; cases hs
    · refine ha.2.get t v ?_ h2
      have hb : Nat.beq k t = false := by
        cases hb : Nat.beq k t with
        | false => rfl
        | true => exact absurd (Nat.eq_of_beq_eq_true hb) hne
      simp only [memB, hb, hs, Bool.false_or]
theorem Env.cutV {L1 : List (Nat × Value)} (h : Env a N D L1) (hs : AllV L1 L []) : Env a N D L := ⟨h.size, h.defers, fun t v ht => h.get t v (hs.get t v rfl ht)⟩
theorem Env.cutT {L1 : List (Nat × Value)} {r : Value} (h : Env a N D L1) (e : lk L1 d = some r) (hs : AllV L1 L [d] := by repeat (first | exact trivial | refine ⟨.inl rfl, ?_⟩ | refine ⟨.inr rfl, ?_⟩)) : Env a N D ((d, r) :: L) := h.cutV ⟨.inl e, hs⟩
theorem Env.cutA {L1 : List (Nat × Value)} (h : Env a N D L1) (hs : AllV L1 L [] := by repeat (first | exact trivial | refine ⟨.inl rfl, ?_⟩ | refine ⟨.inr rfl, ?_⟩)) : Env a N D L := h.cutV hs
theorem bsp {p : Prop} {t : Nat} {b : Bool} (HE : Env a N D L) (h : lk L t = some (.bool b)) (h1 : b = true → p) (h2 : b = false → p) : p := by
  cases b with
  | true => exact h1 rfl
  | false => exact h2 rfl
def keysB : List (Nat × Value) → List Nat → List Nat
  | [], seen => seen
  | (t, _) :: r, seen => keysB r (t :: seen)
theorem AllV.app {L1 : List (Nat × Value)} : ∀ {X : List (Nat × Value)} {seen : List Nat}, AllIn L1 X → AllV L1 L (keysB X seen) → AllV L1 (X ++ L) seen
  | [], seen, _, h => h
  | (t, v) :: r, seen, hx, h => ⟨.inl hx.1, AllV.app hx.2 h⟩
theorem Env.cutX {X L1 : List (Nat × Value)} (h : Env a N D L1) (hx : AllIn L1 X) (hs : AllV L1 L (keysB X []) := by repeat (first | exact trivial | refine ⟨.inl rfl, ?_⟩ | refine ⟨.inr rfl, ?_⟩)) : Env a N D (X ++ L) := h.cutV (AllV.app hx hs)
/-- Some operations that come to one value, whichever way they go. -/
theorem cutG (n d : Nat) (r : Value) (HE : Env a N D L) (HS : St w0 G0 K0 G w M) (h1 : wpList P ops (Exit.then (fun a' w' => St w0 G0 K0 G w' M ∧ Env a' N D ((d, r) :: L)) Q) (l.take n) a w)
    (h2 : ∀ a w, Env a N D ((d, r) :: L) → St w0 G0 K0 G w M → wpList P ops Q (l.drop n) a w) : wpList P ops Q l a w := cutL n _ h1 fun a w h => h2 a w h.2 h.1
theorem cutGG (n d : Nat) (r : Value) (HE : Env a N D L) (HS : St w0 G0 K0 G w M) (h1 : wpList P ops (Exit.then (fun a' w' => ∃ G', Heap.le G G' ∧ St w0 G0 K0 G' w' M ∧ Env a' N D ((d, r) :: L)) Q) (l.take n) a w)
    (h2 : ∀ a w G', Heap.le G G' → Env a N D ((d, r) :: L) → St w0 G0 K0 G' w M → wpList P ops Q (l.drop n) a w) : wpList P ops Q l a w := cutL n _ h1 fun a w ⟨G', h3, h4, h5⟩ => h2 a w G' h3 h5 h4
/-- Ways that meet again: `X` is what has changed. -/
theorem cutJ {x y : Code} (X : List (Nat × Value)) (HE : Env a N D L) (HS : St w0 G0 K0 G w M) (h1 : x.wp P (Exit.then (fun a' w' => St w0 G0 K0 G w' M ∧ Env a' N D (X ++ L)) Q) a w)
    (h2 : ∀ a w, Env a N D (X ++ L) → St w0 G0 K0 G w M → y.wp P Q a w) : (Code.seq x y).wp P Q a w := cutC _ h1 fun a w h => h2 a w h.2 h.1
inductive ResL (P : Program) (L : List (Nat × Value)) (M : List Chunk) : List ResultVar → List Value → Prop where
  | nil : ResL P L M [] []
  | tmp {t : Nat} {v : Value} {r : List ResultVar} {vs : List Value} (h : lk L t = some v) (k : ResL P L M r vs) : ResL P L M (.tmp t :: r) (v :: vs)
  | cellS {t ty : Nat} {b off : Nat} {T : TypeId} {Lb : List (Nat × Value)} {v : Value} {r : List ResultVar} {vs : List Value} (h : lk L t = some (.pointer (some ⟨b, off, none⟩))) (i : SC P ty) (hm : InM M b (Cells T Lb)) (hv : lk Lb off = some v) (k : ResL P L M r vs) : ResL P L M (.cell t ty :: r) (v :: vs)
  | cellA {t ty m : Nat} {b off : Nat} {T : TypeId} {Lb : List (Nat × Value)} {us : List Value} {r : List ResultVar} {vs : List Value} (h : lk L t = some (.pointer (some ⟨b, off, none⟩))) (i : AG P ty m) (hm : InM M b (Cells T Lb)) (hv : lks Lb off m = some us) (k : ResL P L M r vs) : ResL P L M (.cell t ty :: r) (.agg us.toArray :: vs)
theorem ResL.res (HE : Env a N D L) (HS : St w0 G0 K0 G w M) {rs : List ResultVar} {vs : List Value} (h : ResL P L M rs vs) : Res P a w rs vs := by
  induction h with
  | nil => exact .nil
  | tmp h k ih => exact HE.res h ih
  | cellS h i hm hv k ih => exact HE.resS HS h i.h hm hv ih
  | cellA h i hm hv k ih => exact HE.resA HS h i.h hm hv ih
/-- What is handed back: of a call that touches nothing. -/
theorem rt {Q0 : Exit → Act → World → Prop} {fn : Func} {R : Value → Heap → Prop} {E : List PanicEntry → Heap → Chunk → Prop} {vs : List Value} (hQ : ∀ e a w, bodyPost P fn (Ends w0 G0 [] (fun v G' M' => M' = [] ∧ R v G') E) e a w → Q0 e a w) (HE : Env a N [] L) (HS : St w0 G0 [] G w M) (h : R (packed vs) G)
    (hr : ResL P L M fn.results.toList vs := by repeat (first | exact .nil | apply ResL.tmp rfl | (apply ResL.cellS rfl; (infer_instance); (focus (repeat (first | exact .here .here | exact .here (.there .here) | exact .here (.there (.there .here)) | apply InM.there))); exact rfl) | (apply ResL.cellA rfl; (infer_instance); (focus (repeat (first | exact .here .here | exact .here (.there .here) | exact .here (.there (.there .here)) | apply InM.there))); exact rfl))) (hq : Q0 .ret a w → Q .ret a w := by exact id) : Code.ret.wp P Q a w :=
  wp_ret (hq (ret hQ HE rfl (hr.res HE HS) ⟨_, _, HS.stop (List.nil_sublist _), rfl, h⟩))
/-- .. of any call. -/
theorem rtE {Q0 : Exit → Act → World → Prop} {fn : Func} {R : Ending → World → Prop} {vs : List Value} (hQ : ∀ e a w, bodyPost P fn R e a w → Q0 e a w) (HE : Env a N [] L) (HS : St w0 G0 K0 G w M) (h : R (.returned (packed vs)) w)
    (hr : ResL P L M fn.results.toList vs := by repeat (first | exact .nil | apply ResL.tmp rfl | (apply ResL.cellS rfl; (infer_instance); (focus (repeat (first | exact .here .here | exact .here (.there .here) | exact .here (.there (.there .here)) | apply InM.there))); exact rfl) | (apply ResL.cellA rfl; (infer_instance); (focus (repeat (first | exact .here .here | exact .here (.there .here) | exact .here (.there (.there .here)) | apply InM.there))); exact rfl))) (hq : Q0 .ret a w → Q .ret a w := by exact id) : Code.ret.wp P Q a w :=
  wp_ret (hq (ret hQ HE rfl (hr.res HE HS) h))
theorem o_allocZ {T : TypeId} {Lb : List (Nat × Value)} [i : LZ P T Lb] (HE : Env a N D L) (hN : Nat.blt d N = true) (HS : St w0 G0 K0 G w M)
    (k : ∀ b w' a', St w0 G0 K0 G w' ([(b, Cells T Lb)] :: M) → Env a' N D ((d, .pointer (some ⟨b, 0, none⟩)) :: L) → wpList P ops Q rest a' w') : wpList P ops Q (⟨some d, .alloc T, ty, pos, af, none⟩ :: rest) a w := by
  obtain ⟨z, hz, hL⟩ := i.h
  exact o_allocL Lb HE hN HS hz hL k

theorem o_bx2 {T : TypeId} {x : Operand} {v0 v1 : Value} (HE : Env a N D L) (hN : Nat.blt d N = true) (HS : St w0 G0 K0 G w M) (hx : ev L x = some (.agg #[v0, v1]))
    (k : ∀ b w' a', St w0 G0 K0 G w' ([(b, Cells T [(0, v0), (1, v1)])] :: M) → Env a' N D ((d, .pointer (some ⟨b, 0, none⟩)) :: L) → wpList P ops Q rest a' w') : wpList P ops Q (⟨some d, .box T x, ty, pos, af, none⟩ :: rest) a w := o_boxL [(0, v0), (1, v1)] HE hN HS hx ⟨rfl, rfl, trivial⟩ k
theorem o_bx3 {T : TypeId} {x : Operand} {v0 v1 v2 : Value} (HE : Env a N D L) (hN : Nat.blt d N = true) (HS : St w0 G0 K0 G w M) (hx : ev L x = some (.agg #[v0, v1, v2]))
    (k : ∀ b w' a', St w0 G0 K0 G w' ([(b, Cells T [(0, v0), (1, v1), (2, v2)])] :: M) → Env a' N D ((d, .pointer (some ⟨b, 0, none⟩)) :: L) → wpList P ops Q rest a' w') : wpList P ops Q (⟨some d, .box T x, ty, pos, af, none⟩ :: rest) a w := o_boxL [(0, v0), (1, v1), (2, v2)] HE hN HS hx ⟨rfl, rfl, rfl, trivial⟩ k
theorem o_bx4 {T : TypeId} {x : Operand} {v0 v1 v2 v3 : Value} (HE : Env a N D L) (hN : Nat.blt d N = true) (HS : St w0 G0 K0 G w M) (hx : ev L x = some (.agg #[v0, v1, v2, v3]))
    (k : ∀ b w' a', St w0 G0 K0 G w' ([(b, Cells T [(0, v0), (1, v1), (2, v2), (3, v3)])] :: M) → Env a' N D ((d, .pointer (some ⟨b, 0, none⟩)) :: L) → wpList P ops Q rest a' w') : wpList P ops Q (⟨some d, .box T x, ty, pos, af, none⟩ :: rest) a w := o_boxL [(0, v0), (1, v1), (2, v2), (3, v3)] HE hN HS hx ⟨rfl, rfl, rfl, rfl, trivial⟩ k
theorem o_bx6 {T : TypeId} {x : Operand} {v0 v1 v2 v3 v4 v5 : Value} (HE : Env a N D L) (hN : Nat.blt d N = true) (HS : St w0 G0 K0 G w M) (hx : ev L x = some (.agg #[v0, v1, v2, v3, v4, v5]))
    (k : ∀ b w' a', St w0 G0 K0 G w' ([(b, Cells T [(0, v0), (1, v1), (2, v2), (3, v3), (4, v4), (5, v5)])] :: M) → Env a' N D ((d, .pointer (some ⟨b, 0, none⟩)) :: L) → wpList P ops Q rest a' w') : wpList P ops Q (⟨some d, .box T x, ty, pos, af, none⟩ :: rest) a w := o_boxL [(0, v0), (1, v1), (2, v2), (3, v3), (4, v4), (5, v5)] HE hN HS hx ⟨rfl, rfl, rfl, rfl, rfl, rfl, trivial⟩ k
theorem o_bx8 {T : TypeId} {x : Operand} {v0 v1 v2 v3 v4 v5 v6 v7 : Value} (HE : Env a N D L) (hN : Nat.blt d N = true) (HS : St w0 G0 K0 G w M) (hx : ev L x = some (.agg #[v0, v1, v2, v3, v4, v5, v6, v7]))
    (k : ∀ b w' a', St w0 G0 K0 G w' ([(b, Cells T [(0, v0), (1, v1), (2, v2), (3, v3), (4, v4), (5, v5), (6, v6), (7, v7)])] :: M) → Env a' N D ((d, .pointer (some ⟨b, 0, none⟩)) :: L) → wpList P ops Q rest a' w') : wpList P ops Q (⟨some d, .box T x, ty, pos, af, none⟩ :: rest) a w := o_boxL [(0, v0), (1, v1), (2, v2), (3, v3), (4, v4), (5, v5), (6, v6), (7, v7)] HE hN HS hx ⟨rfl, rfl, rfl, rfl, rfl, rfl, rfl, rfl, trivial⟩ k
theorem o_bx12 {T : TypeId} {x : Operand} {v0 v1 v2 v3 v4 v5 v6 v7 v8 v9 v10 v11 : Value} (HE : Env a N D L) (hN : Nat.blt d N = true) (HS : St w0 G0 K0 G w M) (hx : ev L x = some (.agg #[v0, v1, v2, v3, v4, v5, v6, v7, v8, v9, v10, v11]))
    (k : ∀ b w' a', St w0 G0 K0 G w' ([(b, Cells T [(0, v0), (1, v1), (2, v2), (3, v3), (4, v4), (5, v5), (6, v6), (7, v7), (8, v8), (9, v9), (10, v10), (11, v11)])] :: M) → Env a' N D ((d, .pointer (some ⟨b, 0, none⟩)) :: L) → wpList P ops Q rest a' w') : wpList P ops Q (⟨some d, .box T x, ty, pos, af, none⟩ :: rest) a w := o_boxL [(0, v0), (1, v1), (2, v2), (3, v3), (4, v4), (5, v5), (6, v6), (7, v7), (8, v8), (9, v9), (10, v10), (11, v11)] HE hN HS hx ⟨rfl, rfl, rfl, rfl, rfl, rfl, rfl, rfl, rfl, rfl, rfl, rfl, trivial⟩ k
theorem o_bx14 {T : TypeId} {x : Operand} {v0 v1 v2 v3 v4 v5 v6 v7 v8 v9 v10 v11 v12 v13 : Value} (HE : Env a N D L) (hN : Nat.blt d N = true) (HS : St w0 G0 K0 G w M) (hx : ev L x = some (.agg #[v0, v1, v2, v3, v4, v5, v6, v7, v8, v9, v10, v11, v12, v13]))
    (k : ∀ b w' a', St w0 G0 K0 G w' ([(b, Cells T [(0, v0), (1, v1), (2, v2), (3, v3), (4, v4), (5, v5), (6, v6), (7, v7), (8, v8), (9, v9), (10, v10), (11, v11), (12, v12), (13, v13)])] :: M) → Env a' N D ((d, .pointer (some ⟨b, 0, none⟩)) :: L) → wpList P ops Q rest a' w') : wpList P ops Q (⟨some d, .box T x, ty, pos, af, none⟩ :: rest) a w := o_boxL [(0, v0), (1, v1), (2, v2), (3, v3), (4, v4), (5, v5), (6, v6), (7, v7), (8, v8), (9, v9), (10, v10), (11, v11), (12, v12), (13, v13)] HE hN HS hx ⟨rfl, rfl, rfl, rfl, rfl, rfl, rfl, rfl, rfl, rfl, rfl, rfl, rfl, rfl, trivial⟩ k
theorem o_bx28 {T : TypeId} {x : Operand} {v0 v1 v2 v3 v4 v5 v6 v7 v8 v9 v10 v11 v12 v13 v14 v15 v16 v17 v18 v19 v20 v21 v22 v23 v24 v25 v26 v27 : Value} (HE : Env a N D L) (hN : Nat.blt d N = true) (HS : St w0 G0 K0 G w M) (hx : ev L x = some (.agg #[v0, v1, v2, v3, v4, v5, v6, v7, v8, v9, v10, v11, v12, v13, v14, v15, v16, v17, v18, v19, v20, v21, v22, v23, v24, v25, v26, v27]))
    (k : ∀ b w' a', St w0 G0 K0 G w' ([(b, Cells T [(0, v0), (1, v1), (2, v2), (3, v3), (4, v4), (5, v5), (6, v6), (7, v7), (8, v8), (9, v9), (10, v10), (11, v11), (12, v12), (13, v13), (14, v14), (15, v15), (16, v16), (17, v17), (18, v18), (19, v19), (20, v20), (21, v21), (22, v22), (23, v23), (24, v24), (25, v25), (26, v26), (27, v27)])] :: M) → Env a' N D ((d, .pointer (some ⟨b, 0, none⟩)) :: L) → wpList P ops Q rest a' w') : wpList P ops Q (⟨some d, .box T x, ty, pos, af, none⟩ :: rest) a w := o_boxL [(0, v0), (1, v1), (2, v2), (3, v3), (4, v4), (5, v5), (6, v6), (7, v7), (8, v8), (9, v9), (10, v10), (11, v11), (12, v12), (13, v13), (14, v14), (15, v15), (16, v16), (17, v17), (18, v18), (19, v19), (20, v20), (21, v21), (22, v22), (23, v23), (24, v24), (25, v25), (26, v26), (27, v27)] HE hN HS hx ⟨rfl, rfl, rfl, rfl, rfl, rfl, rfl, rfl, rfl, rfl, rfl, rfl, rfl, rfl, rfl, rfl, rfl, rfl, rfl, rfl, rfl, rfl, rfl, rfl, rfl, rfl, rfl, rfl, trivial⟩ k
theorem o_bx1 {T : TypeId} {x : Operand} {v : Value} (HE : Env a N D L) (hN : Nat.blt d N = true) (HS : St w0 G0 K0 G w M) (hx : ev L x = some v) (h1 : cellsOf v = [v])
    (k : ∀ b w' a', St w0 G0 K0 G w' ([(b, Cells T [(0, v)])] :: M) → Env a' N D ((d, .pointer (some ⟨b, 0, none⟩)) :: L) → wpList P ops Q rest a' w') : wpList P ops Q (⟨some d, .box T x, ty, pos, af, none⟩ :: rest) a w := o_boxL _ HE hN HS hx (by rw [h1]; exact ⟨rfl, trivial⟩) k
end
end Go.Proofs.YtiinipcmghhacaaDoor.X
