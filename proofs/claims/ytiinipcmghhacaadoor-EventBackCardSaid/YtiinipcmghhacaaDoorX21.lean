/- A row that the library sorts; parts of slices. -/
import Derived.Test.YtiinipcmghhacaaDoorX20
import Derived.Shelf.GgSortFunc.InsertionK
set_option linter.unusedVariables false
set_option linter.unusedSimpArgs false
namespace Go.Proofs.YtiinipcmghhacaaDoor.X
open Go
/-! ## A row of values that the library's sort turns -/
instance : Inhabited Val := ⟨⟨0, 0, []⟩⟩
def flatV (xs : List Val) : List Value := xs.flatMap valCells
theorem flatV_len : ∀ xs : List Val, (flatV xs).length = xs.length * 3
  | [] => rfl
  | x :: xs => by
    have ih := flatV_len xs
    unfold flatV at ih ⊢
    rw [List.flatMap_cons, List.length_append, ih]
    show 3 + xs.length * 3 = (xs.length + 1) * 3
    omega
theorem flatV_R (G : Heap) : ∀ xs : List Val, ListR kVal G xs (flatV xs)
  | [] => rfl
  | x :: xs => ⟨rfl, flatV_R G xs⟩
theorem flatV_one : ∀ xs : List Val, (flatV xs).all one = true := by
  intro xs
  rw [List.all_eq_true]
  intro v hv
  unfold flatV at hv
  obtain ⟨x, _, hv⟩ := List.mem_flatMap.1 hv
  simp only [valCells, List.mem_cons, List.not_mem_nil, or_false] at hv
  rcases hv with rfl | rfl | rfl <;> rfl
theorem flatV_of {G : Heap} : ∀ {xs : List Val} {cs : List Value}, ListR kVal G xs cs → cs.length = xs.length * 3 → cs = flatV xs
  | [], cs, h, _ => h
  | x :: xs, cs, ⟨h1, h2⟩, hl => by
    rw [List.length_cons, Nat.add_mul] at hl
    have h3 : cs.drop 3 = flatV xs := flatV_of h2 (by rw [List.length_drop]; omega)
    have h4 : cs.take 3 = valCells x := h1
    rw [← List.take_append_drop 3 cs, h3, h4]
    rfl
theorem flatV_get : ∀ (xs : List Val) (t : Nat), t < xs.length * 3 → (flatV xs)[t]? = (valCells xs[t / 3]!)[t % 3]?
  | [], t, h => by simp at h
  | x :: xs, t, h => by
    rw [List.length_cons, Nat.add_mul] at h
    have e : flatV (x :: xs) = valCells x ++ flatV xs := rfl
    rw [e]
    by_cases ht : t < 3
    · rw [List.getElem?_append_left ht, Nat.div_eq_of_lt ht, Nat.mod_eq_of_lt ht]
      rfl
    · rw [List.getElem?_append_right (by show 3 ≤ t; omega)]
      show (flatV xs)[t - 3]? = _
      rw [flatV_get xs (t - 3) (by omega)]
      have e1 : t / 3 = (t - 3) / 3 + 1 := by omega
      have e2 : t % 3 = (t - 3) % 3 := by omega
      rw [e1, e2]
      rfl
open Go.Shelf in
theorem flatK_eq (xs : List Val) : Go.Sort.flatK valCells 3 xs.toArray = (flatV xs).toArray := by
  apply Array.ext_getElem?
  intro t
  by_cases h : t < xs.length * 3
  · have h1 : t < (Go.Sort.flatK valCells 3 xs.toArray).size := by simpa using h
    have h2 := flatV_get xs t h
    have h3 := Go.Sort.get_flatK valCells 3 xs.toArray t (by simpa using h)
    rw [getElem!_pos (Go.Sort.flatK valCells 3 xs.toArray) t h1] at h3
    rw [Array.getElem?_eq_getElem h1, h3]
    have h4 : t % 3 < (valCells xs[t / 3]!).length := by show t % 3 < 3; omega
    rw [List.getElem?_toArray, h2, List.getElem?_eq_getElem h4]
    congr 1
    have e5 : xs.toArray[t / 3]! = xs[t / 3]! := by simp
    rw [e5]
    exact getElem!_pos (valCells xs[t / 3]!) (t % 3) h4
  · rw [Array.getElem?_eq_none (by simp; omega), List.getElem?_toArray, List.getElem?_eq_none (by rw [flatV_len]; omega)]
theorem Own.sorted {P : Program} {f : Nat} {T : TypeId} {w0 : World} {G0 : Heap} {K0 : List Nat} {G : Heap} {w : World} {M : List Chunk} {C : Chunk} {A : Option Addr} {c : Nat} {xs ys : List Val} {args : Array Value}
    (hS : St w0 G0 K0 G w (C :: M)) (hC : X.Own kVal T G A c xs C) (hy : ys.length = xs.length)
    (h0 : A = none → xs = [] → Calls P f args w fun e w' => e = .returned (.tuple #[]) ∧ w' = w)
    (h1 : ∀ b, A = some ⟨b, 0, none⟩ → b < w.heap.size → Go.Sort.HoldsK valCells 3 w b 0 xs.toArray → Calls P f args w fun e w' => e = .returned (.tuple #[]) ∧ ∃ n os, w' = Go.Proofs.sortWorldK valCells 3 w b 0 n ys.toArray os) :
    Calls P f args w (Ends w G (keys C) (fun v G' C' => v = .tuple #[] ∧ G' = G ∧ X.Own kVal T G A c ys C') (fun _ _ _ => False)) := by
  obtain ⟨cs, hL, hl, ho, hcase⟩ := hC
  have hcs := flatV_of hL hl
  subst hcs
  rcases hcase with ⟨rfl, rfl, rfl, rfl⟩ | ⟨b, rfl, hc1, hc2, rfl⟩
  · have hy0 : ys = [] := List.eq_nil_of_length_eq_zero hy
    subst hy0
    refine (h0 rfl rfl).mono ?_
    rintro e w' ⟨rfl, rfl⟩
    exact ⟨G, [], Aft.same hS.sub, rfl, rfl, .nil⟩
  · have hin : (b, Row T xs.length kVal.sz c (flatV xs)) ∈ ([(b, Row T xs.length kVal.sz c (flatV xs))] :: M).flatten := by simp
    have hm := hS.mem _ hin
    obtain ⟨o, hb, cur, rfl, hsz, htk⟩ := hm
    change w.heap[b]? = _ at hb
    change cur.size = c * 3 at hsz
    change cur.toList.take (xs.length * 3) = _ at htk
    have hsep : G b = none := hS.sep _ hin
    have hbl : b < w.heap.size := (Array.getElem?_eq_some_iff.1 hb).1
    have hH : Go.Sort.HoldsK valCells 3 w b 0 xs.toArray := by
      unfold Go.Sort.HoldsK
      rw [flatK_eq]
      intro j hj
      have hj' : j < (flatV xs).length := by simpa using hj
      have hcj : cur[j]? = some ((flatV xs).toArray[j]!) := by
        have h2 : (flatV xs)[j]? = cur.toList[j]? := by
          rw [← htk, List.getElem?_take, if_pos (by rw [flatV_len] at hj'; exact hj')]
        have h3 : (flatV xs).toArray[j]! = (flatV xs)[j] := by
          rw [getElem!_pos (flatV xs).toArray j (by simpa using hj')]
          simp
        rw [h3, ← Array.getElem?_toList, ← h2, List.getElem?_eq_getElem hj']
      rw [Nat.zero_add]
      constructor
      · simp only [World.cell?, hb]
        simpa using hcj
      · simp [World.frozen?, hb]
    refine (h1 b rfl hbl hH).mono ?_
    rintro e w' ⟨rfl, n, os, rfl⟩
    have hnew : (Go.Proofs.sortWorldK valCells 3 w b 0 n ys.toArray os).heap = (w.heap.modify b (Go.Sort.onCells (Go.Sort.putCells id 0 (flatV ys).toArray))) ++ os := by
      unfold Go.Proofs.sortWorldK Go.Sort.putRowK
      rw [flatK_eq]
      rfl
    have hget : ∀ k, k < w.heap.size → k ≠ b → (Go.Proofs.sortWorldK valCells 3 w b 0 n ys.toArray os).heap[k]? = w.heap[k]? := by
      intro k hk hne
      rw [hnew, Array.getElem?_append_left (by simpa using hk), Array.getElem?_modify, if_neg (fun e => hne e.symm)]
    have hgb : (Go.Proofs.sortWorldK valCells 3 w b 0 n ys.toArray os).heap[b]? = some (.cells (Go.Sort.putCells id 0 (flatV ys).toArray cur) T (0, 0)) := by
      rw [hnew, Array.getElem?_append_left (by simpa using hbl), Array.getElem?_modify, if_pos rfl, hb]
      rfl
    refine ⟨G, [(b, Row T ys.length 3 c (flatV ys))], ⟨rfl, rfl, rfl, ?_, ?_, Heap.le.refl _, fun k o h => .inl h, ?_, ?_, by simp [hsep], by simp [keys], by simp⟩, rfl, rfl, flatV ys, flatV_R G ys, flatV_len ys, flatV_one ys, .inr ⟨b, rfl, by omega, hc2, rfl⟩⟩
    · rw [hnew]; simp
    · intro k hk hne
      exact hget k hk (by simpa [keys] using hne)
    · intro k o hk
      rw [hget k (hS.sub.lt hk) (fun e => by subst e; rw [hsep] at hk; cases hk)]
      exact hS.sub k o hk
    · intro p hp
      simp only [List.mem_singleton] at hp
      subst hp
      refine ⟨_, hgb, _, rfl, by simp [Go.Sort.putCells, hsz], ?_⟩
      apply List.ext_getElem?
      intro t
      rw [List.getElem?_take]
      by_cases ht : t < ys.length * 3
      · rw [if_pos ht]
        have h4 : t < (flatV ys).length := by rw [flatV_len]; exact ht
        have h5 : t < cur.size := by
          have : xs.length * 3 ≤ c * 3 := Nat.mul_le_mul_right _ hc1
          rw [hsz]
          have h6 : ys.length * 3 = xs.length * 3 := by rw [hy]
          show t < c * 3
          omega
        simp only [Go.Sort.putCells, Array.getElem?_toList, Array.getElem?_mapIdx, Array.getElem?_eq_getElem h5, Option.map_some, Nat.sub_zero]
        rw [if_pos ⟨Nat.zero_le _, by simpa using h4⟩, List.getElem?_eq_getElem h4]
        congr 1
        show (flatV ys).toArray[t]! = _
        rw [getElem!_pos (flatV ys).toArray t (by simpa using h4)]
        simp
      · rw [if_neg ht, List.getElem?_eq_none (by rw [flatV_len]; omega)]
/-! ## A part of a slice that isn't written -/
section
variable {P : Program} {Q : Exit → Act → World → Prop} {a : Act} {w : World} {N : Nat} {D : List Deferred} {L : List (Nat × Value)} {ops : Array Oper} {rest : List Oper}
variable {d : Nat} {ty : TypeId} {pos : String} {af : Array Edge}
theorem Rd.take {α : Type} {K : Knd α} {G : Heap} {A : Option Addr} {xs : List α} (h : Rd K G A xs) (k : Nat) : Rd K G A (xs.take k) := by
  rcases h with rfl | ⟨b, o, rfl, h⟩
  · left; simp
  · refine .inr ⟨b, o, rfl, fun i x hi => h i x ?_⟩
    rw [List.getElem?_take] at hi
    split at hi
    · exact hi
    · cases hi
theorem Rd.drop {α : Type} {K : Knd α} {G : Heap} {b o : Nat} {xs : List α} (h : ∀ i x, xs[i]? = some x → ElAt K G b (o + i * K.sz) x) (k : Nat) : Rd K G (some ⟨b, o + k * K.sz, none⟩) (xs.drop k) := by
  refine .inr ⟨b, o + k * K.sz, rfl, fun i x hi => ?_⟩
  rw [List.getElem?_drop] at hi
  have := h (k + i) x hi
  rwa [Nat.add_mul, ← Nat.add_assoc] at this
theorem o_sliceRHi {α : Type} {K : Knd α} {G : Heap} {t e m n c : Nat} {x z : Operand} {A : Option Addr} {xs : List α} {q : IntKind} {k : Int} (hE : Env a N D L) (hN : Nat.blt d N = true) (hx : ev L x = some (.slice A n c)) (hz : ev L z = some (.int q k)) (ht : slOf P t = some (e, m)) (hR : Rd K G A xs) (hn : n = xs.length) (hc : n ≤ c) (h : 0 ≤ k ∧ k ≤ n)
    (kk : ∀ a', Rd K G A (xs.take k.toNat) → (xs.take k.toNat).length ≤ c → Env a' N D ((d, .slice A (xs.take k.toNat).length c) :: L) → wpList P ops Q rest a' w) : wpList P ops Q (⟨some d, .slice t x none (some z) none, ty, pos, af, none⟩ :: rest) a w := by
  obtain ⟨inf, hu, hi, rfl⟩ := sl_spec ht
  obtain ⟨k, rfl⟩ := Int.eq_ofNat_of_zero_le h.1
  have h2 : k ≤ c := by omega
  have hl : (xs.take k).length = k := by rw [List.length_take]; omega
  refine op_val (v := .slice A k c) rfl rfl hE hN ?_ fun a' hE' => kk a' (hR.take _) (by simp only [Int.toNat_natCast]; omega) (by simp only [Int.toNat_natCast]; rw [hl]; exact hE')
  have ha : A.map (fun x => x.add 0) = A := by
    cases A with
    | none => rfl
    | some b => simp [Addr.add]
  simp [execOp, hE.eval hx, hE.eval hz, Instr.sliceAt, Instr.slice, Instr.sliceBounds, Instr.sliceBound, asIntOf, run_underlying hu, run_sizeOf' hi, h2, ha]
theorem o_sliceRLo {α : Type} {K : Knd α} {G : Heap} {t e m n c : Nat} {x z : Operand} {A : Option Addr} {xs : List α} {q : IntKind} {k : Int} (hE : Env a N D L) (hN : Nat.blt d N = true) (hx : ev L x = some (.slice A n c)) (hz : ev L z = some (.int q k)) (ht : slOf P t = some (e, m)) (hm : m = K.sz) (hR : Rd K G A xs) (hn : n = xs.length) (hc : n ≤ c) (h : 0 ≤ k ∧ k ≤ n)
    (kk : ∀ A' c' a', Rd K G A' (xs.drop k.toNat) → (xs.drop k.toNat).length ≤ c' → Env a' N D ((d, .slice A' (xs.drop k.toNat).length c') :: L) → wpList P ops Q rest a' w) : wpList P ops Q (⟨some d, .slice t x (some z) none none, ty, pos, af, none⟩ :: rest) a w := by
  subst hm
  obtain ⟨inf, hu, hi, hs⟩ := sl_spec ht
  obtain ⟨k, rfl⟩ := Int.eq_ofNat_of_zero_le h.1
  have h2 : k ≤ n := by omega
  have hl : (xs.drop k).length = n - k := by rw [List.length_drop]; omega
  refine op_val (v := .slice (if c = k then A else A.map (·.add (k * inf.size))) (n - k) (c - k)) rfl rfl hE hN ?_ fun a' hE' => kk _ (c - k) a' ?_ (by simp only [Int.toNat_natCast]; omega) (by simp only [Int.toNat_natCast]; rw [hl]; exact hE')
  · simp [execOp, hE.eval hx, hE.eval hz, Instr.sliceAt, Instr.slice, Instr.sliceBounds, Instr.sliceBound, asIntOf, run_underlying hu, run_sizeOf' hi, h2]
  · simp only [Int.toNat_natCast]
    by_cases hck : c = k
    · left
      exact List.eq_nil_of_length_eq_zero (by omega)
    · rw [if_neg hck]
      rcases hR with rfl | ⟨b, o, rfl, hR⟩
      · left; simp
      · have := Rd.drop hR k
        rw [hs]
        simpa [addAt] using this
theorem o_neA {t t' : TypeId} {x y : Operand} {xs ys : Array Value} {ls : List Lf} (hE : Env a N D L) (hN : Nat.blt d N = true) (hx : ev L x = some (.agg xs)) (hy : ev L y = some (.agg ys)) (ht : flatT P t = some ls) (hf : fitL ls xs.toList ys.toList = true) {b : Bool} (hb : eqVs xs.toList ys.toList = b)
    (k : ∀ a', Env a' N D ((d, .bool !b) :: L) → wpList P ops Q rest a' w) : wpList P ops Q (⟨some d, .binOp .neq t x y t', ty, pos, af, none⟩ :: rest) a w :=
  op_val rfl rfl hE hN (by
    subst hb
    unfold flatT at ht
    split at ht
    · rename_i fs hu
      split at ht
      · rename_i hc
        have e1 : P.fieldsOf t = fs := by simp [Program.fieldsOf, hu]
        have h1 : (eqGuard .neq t x y (.agg xs) (.agg ys)).run P w = .ok () w := by simp [eqGuard, hc.2]
        have h2 : (Op.equal t (.agg xs) (.agg ys)).run P w = .ok (eqVs xs.toList ys.toList) w := by
          show (Op.equalIn (9998 + 1 + 1) t (.agg xs) (.agg ys)).run P w = _
          rw [run_equalIn_struct (P := P) w _ t xs ys (by rw [e1]; exact hu) hc.1, e1]
          exact run_flat 9998 xs ys fs.toList 0 ls ht hf
        have h3 : (binOp .neq t (.agg xs) (.agg ys)).run P w = .ok (.bool !(eqVs xs.toList ys.toList)) w := by simp [binOp, h2]
        simp [execOp, hE.eval hx, hE.eval hy, h1, h3]
      · cases ht
    · cases ht) k
end
/-! ## A slice of values, opened out of an argument -/
section
variable {H : Type} {enc : TypeId × Value → H} {P : Program} {w : World} {base : Nat} {spare : Nat → Bool} {held : Bool}
theorem open_vals {t te : TypeId} (hte : leaves P 9 te = some [.int .i64, .int .i64, .str]) (hse : P.cellsOf te = 3) (ht : leaves P 9 t = some [.sl te])
    {v : Value} {d : DataW H} {ps : List MemPlace} (h : DataW.Trod enc P w base spare held t v d ps) (hv : v.cells = #[v]) : ∃ A xs c, v = .slice A xs.length c ∧ xs.length ≤ c ∧ c ≤ 9223372036854775807 ∧ (∀ a ∈ xs, a.Wf) ∧ Rd kVal (hp w) A xs := by
  obtain ⟨n, h⟩ := h
  rw [hv] at h
  obtain ⟨u, r, e, h1, rfl⟩ := leafs_of _ _ _ ht _ _ _ h
  simp at e
  subst e
  exact h1.list (K := kVal) (fun n cs x hx => open_val hte hx) hse
end
end Go.Proofs.YtiinipcmghhacaaDoor.X
