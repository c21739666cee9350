/- A builder of strings. -/
import Derived.Test.YtiinipcmghhacaaDoorX26
import Derived.Lib.AppendStr
import Derived.Lib.UnsafeStr
import Derived.Lib.Builder
import Derived.Laws.Pointers
set_option linter.unusedVariables false
set_option linter.unusedSimpArgs false
namespace Go.Proofs.YtiinipcmghhacaaDoor.X
open Go
/-! ## strings.Builder -/
/-- A builder in the block `b` that holds `s`. -/
def Bld (T e : TypeId) (G : Heap) (b : Nat) (s : Bs) (C : Chunk) : Prop :=
  ∃ p A c Cb, (p = .pointer none ∨ p = .pointer (some ⟨b, 0, none⟩)) ∧ (A = none ∨ 0 < c) ∧ Own Knd.u8 e G A c s Cb ∧ C = (b, Arr T [p, .slice A s.length c]) :: Cb
theorem Bld.le {T e : TypeId} {G G' : Heap} (h : Heap.le G G') {b : Nat} {s : Bs} {C : Chunk} (hB : Bld T e G b s C) : Bld T e G' b s C := by
  obtain ⟨p, A, c, Cb, h1, h2, h3, h4⟩ := hB
  exact ⟨p, A, c, Cb, h1, h2, h3.le h, h4⟩
theorem Bld.new {T e : TypeId} {G : Heap} {b : Nat} : Bld T e G b [] [(b, Arr T [.pointer none, .slice none 0 0])] := ⟨_, _, _, _, .inl rfl, .inl rfl, Own.nil, rfl⟩
theorem listR_u8 {G : Heap} : ∀ {xs : Bs} {cs : List Value}, ListR Knd.u8 G xs cs → cs.length = xs.length * 1 → cs = Lib.byteCells xs
  | [], cs, h, _ => by simp only [ListR] at h; subst h; rfl
  | x :: xs, cs, ⟨h1, h2⟩, hl => by
    have h1' : cs.take 1 = [.int .u8 (x.toNat : Int)] := h1
    have ih := listR_u8 h2 (by have : (Knd.u8).sz = 1 := rfl; simp only [this, List.length_drop, List.length_cons] at *; omega)
    rw [← List.take_append_drop 1 cs, h1']
    have e : (Knd.u8).sz = 1 := rfl
    rw [e] at ih
    rw [ih]
    rfl
theorem listR_of {G : Heap} : ∀ xs : Bs, ListR Knd.u8 G xs (Lib.byteCells xs)
  | [] => rfl
  | x :: xs => ⟨rfl, listR_of xs⟩
section
variable {P : Program} {w0 : World} {G0 : Heap} {K0 : List Nat} {G : Heap} {w : World} {M R : List Chunk} {C : Chunk}
theorem St.part2 {a : Nat × (Obj → Prop)} (h : St w0 G0 K0 G w ((a :: C) :: M)) : St w0 G0 K0 G w ([a] :: C :: M) := h.perm (by simp)
theorem St.join2 {a : Nat × (Obj → Prop)} (h : St w0 G0 K0 G w ([a] :: C :: M)) : St w0 G0 K0 G w ((a :: C) :: M) := h.perm (by simp)
theorem byteCells_one (s : Bs) : (Lib.byteCells s).all one = true := by simp [Lib.byteCells, one]
theorem St.appendS {t u T by' ty : Nat} {A : Option Addr} {c : Nat} {xs s : Bs} (hS : St w0 G0 K0 G w (C :: M)) (hC : Own Knd.u8 T G A c xs C) (ht : apOf P t = some (T, 1, by')) (hu : P.underlying u = some .string)
    (hb : (xs.length + s.length) * by' ≤ 140737488355328) (hm : xs.length + s.length ≤ 9223372036854775807) (hA : A = none ∨ 0 < c) :
    ∃ A' c' C' w', (Builtin.append_ #[t, u] ty #[.slice A xs.length c, .string ⟨s.toArray⟩]).run P w = .ok (.slice A' (xs ++ s).length c') w' ∧ St w0 G0 K0 G w' (C' :: M) ∧ Own Knd.u8 T G A' c' (xs ++ s) C' ∧ (A' = none ∨ 0 < c') := by
  obtain ⟨i, z, hui, hi, hz, hsz, hby, hzs, hpos⟩ := ap_spec ht
  have hss : (ByteArray.mk s.toArray).size = s.length := by simp [ByteArray.size]
  have hcells : Lib.strCells ⟨s.toArray⟩ = Lib.byteCells s := by simp [Lib.strCells_eq]
  by_cases hs0 : s = []
  · subst hs0
    refine ⟨A, c, C, w, ?_, hS, by simpa using hC, hA⟩
    have hcap := hC.cap
    have h0 : (ByteArray.mk (#[] : Array UInt8)).size = 0 := rfl
    cases A <;> simp [Builtin.append_, run_underlying hui, run_underlying hu, sizeOf, typeInfo, hi, Builtin.lenOf, h0, Builtin.firstCells, hcap, storeCells]
  have hsl : 0 < s.length := List.length_pos_iff.2 hs0
  obtain ⟨cs, h2, h3, h4, h5⟩ := hC
  have hsz1 : (Knd.u8).sz = 1 := rfl
  rw [hsz1, Nat.mul_one] at h3
  have ecs : cs = Lib.byteCells xs := listR_u8 h2 (by omega)
  subst ecs
  have fin : ∀ {A' c' C' w'}, (Builtin.append_ #[t, u] ty #[.slice A xs.length c, .string ⟨s.toArray⟩]).run P w = .ok (.slice (some ⟨A', 0, none⟩) (xs.length + s.length) c') w' → St w0 G0 K0 G w' (C' :: M) → xs.length + s.length ≤ c' → c' ≤ maxLen → C' = [(A', Row T (xs.length + s.length) 1 c' (Lib.byteCells (xs ++ s)))] →
      ∃ A' c' C' w', (Builtin.append_ #[t, u] ty #[.slice A xs.length c, .string ⟨s.toArray⟩]).run P w = .ok (.slice A' (xs ++ s).length c') w' ∧ St w0 G0 K0 G w' (C' :: M) ∧ Own Knd.u8 T G A' c' (xs ++ s) C' ∧ (A' = none ∨ 0 < c') := by
    intro A' c' C' w' e1 e2 e3 e4 e5
    exact ⟨_, _, C', w', by rw [List.length_append]; exact e1, e2, ⟨_, listR_of _, by rw [Lib.byteCells_length, hsz1, Nat.mul_one], byteCells_one _, .inr ⟨A', rfl, by rw [List.length_append]; exact e3, e4, by rw [List.length_append, hsz1]; exact e5⟩⟩, .inr (by omega)⟩
  have grown : ∀ old, (Row T (xs.length + s.length) 1 (grownCap w (xs.length + s.length) old T) (Lib.byteCells (xs ++ s))) (.cells ((Lib.byteCells xs).toArray ++ (Lib.byteCells s).toArray ++ Builtin.zeroCells z.cells (grownCap w (xs.length + s.length) old T - (xs.length + s.length))) T) := by
    intro old
    have hge := grownCap_ge w (xs.length + s.length) old T
    refine ⟨_, rfl, ?_, ?_⟩
    · simp only [Array.size_append, List.size_toArray, size_zeroCells, hzs, Lib.byteCells_length]
      omega
    · simp only [Array.toList_append, List.append_assoc]
      rw [← List.append_assoc, ← Lib.byteCells_append, show (xs.length + s.length) * 1 = (Lib.byteCells (xs ++ s)).length by rw [Lib.byteCells_length, List.length_append]; omega]
      exact List.take_left
  have hmx : xs.length + s.length ≤ maxLen := hm
  rcases h5 with ⟨rfl, rfl, rfl, rfl⟩ | ⟨g, rfl, h6, h7, rfl⟩
  · have hr := run_append_nil_string (P := P) w t u ty T i z hui hu hi hz ⟨s.toArray⟩ (by rw [hss]; exact hsl) (by rw [hss]; simp at hm; omega) (by rw [hss, hby]; simp at hb; omega)
    have hg := grown 0
    rw [hss] at hr
    simp only [List.length_nil, Nat.zero_add, List.nil_append, Lib.byteCells, List.map_nil, Array.empty_append] at hr hg
    refine fin (A' := w.heap.size) (C' := [(w.heap.size, _)]) (by simpa using hr) ((hS.drop (M' := M) (sub_drop (.refl _))).drew.alloc _ (by simpa [Lib.byteCells] using hg)) (by simpa using grownCap_ge w s.length 0 T) (grownCap_le_maxLen w _ 0 T (by simpa using hmx)) (by simp [Lib.byteCells])
  · obtain ⟨ob, ⟨cur, rfl, hcz, htk⟩, hS1⟩ := St.exact1 (A := []) (C := []) (E := []) (B := M) hS
    have hgb : w.heap[g]? = some (.cells cur T (0, 0)) := by
      obtain ⟨o', e1, e2⟩ := hS1.mem (g, (· = Obj.cells cur T (0, 0))) (by simp)
      rw [e1]; exact congrArg some e2
    rw [hsz1, Nat.mul_one] at hcz htk
    by_cases hroom : xs.length + s.length ≤ c
    · have hfit : xs.length + s.length ≤ cur.size := by omega
      have hr := Lib.run_append_room_string (P := P) w t u ty T i hui hu hi (by rw [hsz]) g xs.length c cur hgb ⟨s.toArray⟩ (by rw [hss]; exact hroom) (by rw [hss]; exact hfit)
      rw [hss, hcells] at hr
      refine fin (A' := g) (c' := c) (C' := [(g, _)]) hr (St.turn (A := []) (C := []) (D := []) (B := M) (q := Row T (xs.length + s.length) 1 c (Lib.byteCells (xs ++ s))) hS rfl rfl rfl (by simp) (fun k hk => setRow_other w g k _ hk) ⟨_, setRow_heap w g cur _ T _ hgb, ⟨_, rfl, ?_, ?_⟩⟩) hroom h7 rfl
      · simp only [List.size_toArray, List.length_append, List.length_take, List.length_drop, Array.length_toList, Lib.byteCells_length]
        omega
      · rw [htk, ← Lib.byteCells_append, show (xs.length + s.length) * 1 = (Lib.byteCells (xs ++ s)).length by rw [Lib.byteCells_length, List.length_append]; omega]
        exact List.take_left
    · have holds : ∀ j u, (Lib.byteCells xs)[j]? = some u → w.cell? ((⟨g, 0, none⟩ : Addr).add j) = some u := by
        intro j u hu'
        rw [addAt, Nat.zero_add]
        unfold World.cell?
        simp only [hgb]
        rw [← htk, List.getElem?_take] at hu'
        split at hu'
        · simpa using hu'
        · cases hu'
      have hr := Lib.run_append_grow_string (P := P) w t u ty T i z hui hu hi hz ⟨g, 0, none⟩ xs.length c (Lib.byteCells xs) (by rw [hsz, Lib.byteCells_length]; omega) holds ⟨s.toArray⟩ (by rw [hss]; omega) (by rw [hss]; omega) (by rw [hss, hby]; exact growslice_fits (by omega) hb)
      rw [hss, hcells] at hr
      exact fin (A' := w.heap.size) (C' := [(w.heap.size, _)]) hr ((hS.drop (M' := M) (sub_drop (.refl _))).drew.alloc _ (grown c)) (grownCap_ge _ _ _ _) (grownCap_le_maxLen _ _ _ _ hmx) rfl
/-- What is handed out as a text isn't written any more: the block goes. -/
theorem St.lose {M' : List Chunk} {g : Nat} {p : Obj → Prop} (h : St w0 G0 K0 G w M) (hm : (g, p) ∈ M.flatten) (hn : ∀ q ∈ M'.flatten, q ∈ M.flatten ∧ q.1 ≠ g) (hnd : (M'.flatten.map (·.1)).Nodup) {w' : World} (h1 : w'.os = w.os) (h2 : w'.tape = w.tape) (h3 : w'.output = w.output) (hsz : w'.heap.size = w.heap.size) (hk : ∀ k, k ≠ g → w'.heap[k]? = w.heap[k]?) : St w0 G0 K0 G w' M' where
  os := h1.trans h.os
  tape := h2.trans h.tape
  output := h3.trans h.output
  size := by rw [hsz]; exact h.size
  kept := fun b hb hbk => by
    rw [hk b (fun e => by
      subst e
      rcases h.own _ hm with h' | h'
      · simp only at h'; omega
      · exact hbk h')]
    exact h.kept b hb hbk
  le := h.le
  new := h.new
  sub := fun b o hb => by
    rw [hk b (fun e => by subst e; rw [h.sep _ hm] at hb; cases hb)]
    exact h.sub b o hb
  mem := fun q hq => by
    obtain ⟨h4, h5⟩ := hn q hq
    rw [hk _ h5]
    exact h.mem q h4
  sep := fun q hq => h.sep q (hn q hq).1
  own := fun q hq => h.own q (hn q hq).1
  nodup := hnd
theorem run_uString {pt it ty T : Nat} {A : Option Addr} {c : Nat} {xs : Bs} (hS : St w0 G0 K0 G w (C :: M)) (hC : Own Knd.u8 T G A c xs C) (hp : P.underlying pt = some (.pointer T)) (hc1 : P.cellsOf T = 1) :
    ∃ w', (Builtin.unsafeString_ #[pt, it] ty #[.pointer A, .int .i64 xs.length]).run P w = .ok (str xs) w' ∧ St w0 G0 K0 G w' M := by
  by_cases h0 : xs = []
  · subst h0
    exact ⟨w, Lib.run_unsafeString_none (P := P) w pt it ty A, hS.drop (sub_drop (.refl _))⟩
  obtain ⟨cs, h2, h3, h4, h5⟩ := hC
  have hsz1 : (Knd.u8).sz = 1 := rfl
  rw [hsz1, Nat.mul_one] at h3
  have ecs : cs = Lib.byteCells xs := listR_u8 h2 (by omega)
  subst ecs
  rcases h5 with ⟨rfl, rfl, rfl, rfl⟩ | ⟨g, rfl, h6, h7, rfl⟩
  · exact absurd rfl h0
  obtain ⟨ob, ⟨cur, rfl, hcz, htk⟩, hS1⟩ := St.exact1 (A := []) (C := []) (E := []) (B := M) hS
  have hgb : w.heap[g]? = some (.cells cur T (0, 0)) := by
    obtain ⟨o', e1, e2⟩ := hS1.mem (g, (· = Obj.cells cur T (0, 0))) (by simp)
    rw [e1]; exact congrArg some e2
  rw [hsz1, Nat.mul_one] at hcz htk
  have hmx : maxLen = 9223372036854775807 := rfl
  refine ⟨_, Lib.run_unsafeString_row (P := P) w pt it ty T hp hc1 g cur.size (by simp [World.shape?, hgb]) xs h0 (by omega) (by omega) ?_, ?_⟩
  · intro j x hj
    rw [addAt, Nat.zero_add]
    unfold World.cell?
    simp only [hgb]
    have : (Lib.byteCells xs)[j]? = some (.int .u8 x.toNat) := by simp [Lib.byteCells, hj]
    rw [← htk, List.getElem?_take] at this
    split at this
    · simpa using this
    · cases this
  · have hnd := hS.nodup
    simp only [List.flatten_cons, List.cons_append, List.nil_append, List.map_cons, List.nodup_cons] at hnd
    refine hS.lose (g := g) (p := Row T (List.length xs) Knd.u8.sz c (Lib.byteCells xs)) (by simp) (fun q hq => ⟨by simp only [List.flatten_cons, List.mem_append]; exact .inr hq, fun e => hnd.1 (e ▸ List.mem_map_of_mem hq)⟩) hnd.2 ?_ ?_ ?_ ?_ ?_
    all_goals unfold World.freeze
    · split <;> rfl
    · split <;> rfl
    · split <;> rfl
    · split
      · rfl
      · simp
    · intro k hk
      split
      · rfl
      · simp only [Array.getElem?_modify]
        rw [if_neg (fun e => hk e.symm)]
variable {Q : Exit → Act → World → Prop} {a : Act} {N : Nat} {D : List Deferred} {L : List (Nat × Value)} {ops : Array Oper} {rest : List Oper}
variable {d : Nat} {ty : TypeId} {pos : String} {af : Array Edge}
theorem o_appendS {t u T by' : Nat} {x y : Operand} {A : Option Addr} {c : Nat} {xs s : Bs} (hE : Env a N D L) (hN : Nat.blt d N = true) (hS : St w0 G0 K0 G w M) (hF : Fr C M R) (hC : Own Knd.u8 T G A c xs C) (hx : ev L x = some (.slice A xs.length c)) (hy : ev L y = some (str s)) (ht : apOf P t = some (T, 1, by')) (hu : P.underlying u = some .string)
    (hA : A = none ∨ 0 < c) (hb : (xs.length + s.length) * by' ≤ 140737488355328) (hm : xs.length + s.length ≤ 9223372036854775807)
    (k : ∀ A' c' C' w' a', St w0 G0 K0 G w' (C' :: R) → Own Knd.u8 T G A' c' (xs ++ s) C' → (A' = none ∨ 0 < c') → Env a' N D ((d, .slice A' (xs ++ s).length c') :: L) → wpList P ops Q rest a' w') :
    wpList P ops Q (⟨some d, .call { callee := .builtin .append, args := #[x, y], argTypes := #[t, u] }, ty, pos, af, none⟩ :: rest) a w := by
  have hS := hS.front hF
  obtain ⟨A', c', C', w', hr, hS', hC', hA'⟩ := hS.appendS (ty := ty) hC ht hu hb hm hA
  refine op_val rfl rfl hE hN ?_ fun a' hE' => k A' c' C' w' a' hS' hC' hA' hE'
  simp [execOp, resolve, invoke, builtin, hE.eval hx, hE.eval hy, hr]
/-- Two pointers compared. -/
theorem o_nePs {t t' te : TypeId} {n : Nat} {x y : Operand} {ad : Addr} (hE : Env a N D L) (hN : Nat.blt d N = true) (hx : ev L x = some (.pointer (some ad))) (hy : ev L y = some (.pointer (some ad))) (ht : P.underlying t = some (.pointer te)) (hi : aggSz P te = some n)
    (k : ∀ a', Env a' N D ((d, .bool false) :: L) → wpList P ops Q rest a' w) : wpList P ops Q (⟨some d, .binOp .neq t x y t', ty, pos, af, none⟩ :: rest) a w :=
  op_val rfl rfl hE hN (by
    obtain ⟨_, j, hj, _⟩ := agg_spec (w := w) hi
    have h2 := Lib.run_neq_ptr_same (P := P) w ad ht hj
    have h1 : (eqGuard .neq t x y (.pointer (some ad)) (.pointer (some ad))).run P w = .ok () w := by simp [eqGuard, run_underlying ht]
    simp [execOp, hE.eval hx, hE.eval hy, h1, h2]) k
theorem o_toU {src dst t T : TypeId} {n b : Nat} {x : Operand} {vs : List Value} (hE : Env a N D L) (hN : Nat.blt d N = true) (hS : St w0 G0 K0 G w M) (hx : ev L x = some (.pointer (some ⟨b, 0, none⟩))) (hm : InM M b (Arr T vs)) (hl : Nat.blt 0 vs.length = true)
    (hs : P.underlying src = some (.pointer t)) (hd : P.underlying dst = some .unsafePointer) (ht : aggSz P t = some n) (hn : Nat.blt 0 n = true) (k : ∀ a', Env a' N D ((d, .pointer (some ⟨b, 0, none⟩)) :: L) → wpList P ops Q rest a' w) : wpList P ops Q (⟨some d, .convert src dst x, ty, pos, af, none⟩ :: rest) a w :=
  op_val rfl rfl hE hN (by
    obtain ⟨_, j, hj, hsz⟩ := agg_spec (w := w) ht
    have hb := hS.arr hm
    have hn' : 0 < n := by simpa [Nat.blt_eq] using hn
    have hl' : 0 < vs.length := by simpa [Nat.blt_eq] using hl
    have := Lib.run_to_unsafe (P := P) w (e := T) (cells := vs.length) ⟨b, 0, none⟩ hs hd hj (by omega) (by simp [World.shape?, hb]) hl'
    simp [execOp, hE.eval hx, this]) k
theorem o_fromU {src dst u T e : TypeId} {n b : Nat} {x : Operand} {vs : List Value} (hE : Env a N D L) (hN : Nat.blt d N = true) (hS : St w0 G0 K0 G w M) (hx : ev L x = some (.pointer (some ⟨b, 0, none⟩))) (hm : InM M b (Arr T vs))
    (hs : P.underlying src = some .unsafePointer) (hd : P.underlying dst = some (.pointer u)) (ht : aggSz P u = some n) (hlies : liesAt P P.depth T (vs.length / P.cellsOf T) 0 u 1 = true)
    (k : ∀ a', Env a' N D ((d, .pointer (some ⟨b, 0, none⟩)) :: L) → wpList P ops Q rest a' w) : wpList P ops Q (⟨some d, .convert src dst x, ty, pos, af, none⟩ :: rest) a w :=
  op_val rfl rfl hE hN (by
    obtain ⟨_, j, hj, hsz⟩ := agg_spec (w := w) ht
    have hb := hS.arr hm
    have := Lib.run_from_unsafe (P := P) w (e := T) (cells := vs.length) ⟨b, 0, none⟩ hs hd hj (by simp [World.shape?, hb]) hlies
    simp [execOp, hE.eval hx, this]) k
theorem o_slData {t : TypeId} {x : Operand} {A : Option Addr} {n c : Nat} (hE : Env a N D L) (hN : Nat.blt d N = true) (hx : ev L x = some (.slice A n c)) (hA : A = none ∨ 0 < c) (k : ∀ a', Env a' N D ((d, .pointer A) :: L) → wpList P ops Q rest a' w) :
    wpList P ops Q (⟨some d, .call { callee := .builtin .unsafeSliceData, args := #[x], argTypes := #[t] }, ty, pos, af, none⟩ :: rest) a w :=
  op_val rfl rfl hE hN (by
    have h : (Builtin.unsafeSliceData_ #[t] ty #[.slice A n c]).run P w = .ok (.pointer A) w := by
      cases A with
      | none => exact Lib.run_unsafeSliceData_nil (P := P) w #[t] ty n c
      | some ad => exact Lib.run_unsafeSliceData_row (P := P) w #[t] ty ad n c (by rcases hA with h | h; cases h; omega)
    simp [execOp, resolve, invoke, builtin, hE.eval hx, h]) k
theorem o_uString {pt it T : TypeId} {x y : Operand} {A : Option Addr} {c : Nat} {xs : Bs} (hE : Env a N D L) (hN : Nat.blt d N = true) (hS : St w0 G0 K0 G w (C :: M)) (hC : Own Knd.u8 T G A c xs C) (hx : ev L x = some (.pointer A)) (hy : ev L y = some (.int .i64 xs.length)) (hp : P.underlying pt = some (.pointer T)) (hc1 : P.cellsOf T = 1)
    (k : ∀ a' w', St w0 G0 K0 G w' M → Env a' N D ((d, str xs) :: L) → wpList P ops Q rest a' w') : wpList P ops Q (⟨some d, .call { callee := .builtin .unsafeString, args := #[x, y], argTypes := #[pt, it] }, ty, pos, af, none⟩ :: rest) a w := by
  obtain ⟨w', hr, hS'⟩ := run_uString (P := P) (it := it) (ty := ty) hS hC hp hc1
  refine op_val rfl rfl hE hN ?_ fun a' hE' => k a' w' hS' hE'
  simp [execOp, resolve, invoke, builtin, hE.eval hx, hE.eval hy, hr]
/-- Is a pointer nil? -/
theorem o_eqNilP {t t' te : TypeId} {x y : Operand} {p : Option Addr} (hE : Env a N D L) (hN : Nat.blt d N = true) (hx : ev L x = some (.pointer p)) (hy : ev L y = some (.pointer none)) (ht : P.underlying t = some (.pointer te))
    (k : ∀ a', Env a' N D ((d, .bool p.isNone) :: L) → wpList P ops Q rest a' w) : wpList P ops Q (⟨some d, .binOp .eql t x y t', ty, pos, af, none⟩ :: rest) a w :=
  op_val rfl rfl hE hN (by
    have h2 := run_eql_pointer_nil (P := P) w t p (by rw [ht]; simp [Program.pointee, ht])
    have h1 : (eqGuard .eql t x y (.pointer p) (.pointer none)).run P w = .ok () w := by simp [eqGuard, run_underlying ht]
    simp [execOp, hE.eval hx, hE.eval hy, h1, h2]) k
theorem o_allocB {T e : TypeId} (hE : Env a N D L) (hN : Nat.blt d N = true) (hS : St w0 G0 K0 G w M) (hz : zeroOf P T = some (.agg #[.pointer none, .slice none 0 0]))
    (k : ∀ b C w' a', St w0 G0 K0 G w' (C :: M) → Bld T e G b [] C → Env a' N D ((d, .pointer (some ⟨b, 0, none⟩)) :: L) → wpList P ops Q rest a' w') : wpList P ops Q (⟨some d, .alloc T, ty, pos, af, none⟩ :: rest) a w :=
  o_allocR hE hN hS hz fun b w' a' hS' hE' => k b _ w' a' hS' Bld.new hE'
end
end Go.Proofs.YtiinipcmghhacaaDoor.X
