/- Own lists that grow. -/
import Derived.Test.YtiinipcmghhacaaDoorX9
import Derived.Laws.AppendOwn
import Derived.Laws.OwnMore
set_option linter.unusedVariables false
set_option linter.unusedSimpArgs false
namespace Go.Proofs.YtiinipcmghhacaaDoor.X
open Go
/-! ## Own lists that grow -/
def apOf (P : Program) (t : TypeId) : Option (TypeId × Nat × Nat) :=
  match P.underlying t with
  | some (.slice e) => match P.info? e with
    | some i => match i.zero with
      | some z => if z.cells.size = i.size ∧ 0 < i.size then some (e, i.size, i.bytes) else none
      | none => none
    | none => none
  | _ => none
theorem ap_spec {P : Program} {t e sz by' : Nat} (h : apOf P t = some (e, sz, by')) : ∃ i z, P.underlying t = some (.slice e) ∧ P.info? e = some i ∧ i.zero = some z ∧ i.size = sz ∧ i.bytes = by' ∧ z.cells.size = sz ∧ 0 < sz := by
  unfold apOf at h
  split at h
  · rename_i e' hu
    split at h
    · rename_i i hi
      split at h
      · rename_i z hz
        split at h
        · rename_i hc
          cases h
          exact ⟨i, z, hu, hi, hz, rfl, rfl, hc.1, hc.2⟩
        · cases h
      · cases h
    · cases h
  · cases h
/-- The block of an own list: room for `c` elements of `sz` cells; the first `n` hold `cs`. -/
def Row (T : TypeId) (n sz c : Nat) (cs : List Value) (o : Obj) : Prop := ∃ cur : Array Value, o = .cells cur T (0, 0) ∧ cur.size = c * sz ∧ cur.toList.take (n * sz) = cs
/-- An own list: its address, its room, what it holds, its block. -/
def Own {α : Type} (K : Knd α) (T : TypeId) (G : Heap) (A : Option Addr) (c : Nat) (xs : List α) (C : Chunk) : Prop :=
  ∃ cs, ListR K G xs cs ∧ cs.length = xs.length * K.sz ∧ cs.all one = true ∧
    ((A = none ∧ c = 0 ∧ xs = [] ∧ C = []) ∨ ∃ b, A = some ⟨b, 0, none⟩ ∧ xs.length ≤ c ∧ c ≤ maxLen ∧ C = [(b, Row T xs.length K.sz c cs)])
section
variable {α : Type} {K : Knd α} {T : TypeId} {G : Heap} {A : Option Addr} {c : Nat} {xs ys : List α} {C : Chunk}
theorem ListR.le {G' : Heap} (h : Heap.le G G') : ∀ {xs : List α} {cs : List Value}, ListR K G xs cs → ListR K G' xs cs
  | [], _, hx => hx
  | _ :: _, _, ⟨h1, h2⟩ => ⟨K.le h h1, ListR.le h h2⟩
theorem ListR.append : ∀ {xs : List α} {cs ds : List Value}, ListR K G xs cs → cs.length = xs.length * K.sz → ListR K G ys ds → ListR K G (xs ++ ys) (cs ++ ds)
  | [], cs, ds, h, _, h2 => by
    simp only [ListR] at h
    subst h
    exact h2
  | x :: xs, cs, ds, ⟨h1, h2⟩, hl, h3 => by
    simp only [List.length_cons, Nat.add_mul, Nat.one_mul] at hl
    refine ⟨?_, ?_⟩
    · rw [List.take_append_of_le_length (by omega)]; exact h1
    · rw [List.drop_append_of_le_length (by omega)]
      exact h2.append (by rw [List.length_drop]; omega) h3
theorem Own.nil : Own K T G none 0 ([] : List α) [] := ⟨[], rfl, by simp, rfl, .inl ⟨rfl, rfl, rfl, rfl⟩⟩
theorem Own.le {G' : Heap} (h : Heap.le G G') (hx : Own K T G A c xs C) : Own K T G' A c xs C := by
  obtain ⟨cs, h1, h2⟩ := hx
  exact ⟨cs, h1.le h, h2⟩
theorem Own.cap (hx : Own K T G A c xs C) : xs.length ≤ c := by
  obtain ⟨cs, h1, h2, h3, ⟨rfl, rfl, rfl, rfl⟩ | ⟨b, rfl, h4, _⟩⟩ := hx
  · exact Nat.zero_le _
  · exact h4
theorem sub_keep {C : Chunk} {M M' : List Chunk} (h : M'.flatten.Sublist M.flatten) : (C :: M').flatten.Sublist (C :: M).flatten := by
  simpa using List.Sublist.append (List.Sublist.refl C) h
theorem sub_drop {C : Chunk} {M M' : List Chunk} (h : M'.flatten.Sublist M.flatten) : M'.flatten.Sublist (C :: M).flatten := by
  simpa using List.Sublist.append (List.nil_sublist C) h
theorem sub_nil : ([] : List Chunk).flatten.Sublist ([] : List Chunk).flatten := .refl _
variable {P : Program} {w0 : World} {G0 : Heap} {K0 : List Nat} {w : World} {M : List Chunk}
theorem addAt (b o j : Nat) : (⟨b, o, none⟩ : Addr).add j = ⟨b, o + j, none⟩ := by
  unfold Addr.add
  split
  · rename_i h; subst h; rfl
  · rfl
theorem run_append0 {t ty e : TypeId} {i : TypeInfo} (ht : P.underlying t = some (.slice e)) (hi : P.info? e = some i) (A B : Option Addr) (n c cB : Nat) (h : n ≤ c) :
    (Builtin.append_ #[t, t] ty #[.slice A n c, .slice B 0 cB]).run P w = .ok (.slice A n c) w := by
  cases A <;> cases B <;> simp [Builtin.append_, run_underlying ht, sizeOf, typeInfo, hi, Builtin.lenOf, Builtin.firstCells, h, storeCells, loadCells, loadCellsFrom]
theorem St.append {t ty by' : Nat} (hS : St w0 G0 K0 G w (C :: M)) (hC : Own K T G A c xs C) (ht : apOf P t = some (T, K.sz, by')) {B : Option Addr} {cB : Nat} {news : List Value} (hn : ListR K G ys news) (hl : news.length = ys.length * K.sz) (h1 : news.all one = true)
    (hnews : ys = [] ∨ ∃ b o, B = some ⟨b, o, none⟩ ∧ ∀ j u, news[j]? = some u → w.cell? ⟨b, o + j, none⟩ = some u) (hb : (xs.length + ys.length) * by' ≤ 140737488355328) (hm : xs.length + ys.length ≤ 9223372036854775807) :
    ∃ A' c' C' w', (Builtin.append_ #[t, t] ty #[.slice A xs.length c, .slice B ys.length cB]).run P w = .ok (.slice A' (xs ++ ys).length c') w' ∧ St w0 G0 K0 G w' (C' :: M) ∧ Own K T G A' c' (xs ++ ys) C' := by
  obtain ⟨i, z, hu, hi, hz, hsz, hby, hzs, hpos⟩ := ap_spec ht
  by_cases hy : ys = []
  · subst hy
    refine ⟨A, c, C, w, ?_, hS, by simpa using hC⟩
    simpa using run_append0 (P := P) (w := w) (ty := ty) hu hi A B xs.length c cB hC.cap
  obtain ⟨b, o, rfl, hcell⟩ := hnews.resolve_left hy
  have hyl : 0 < ys.length := List.length_pos_iff.2 hy
  obtain ⟨cs, h2, h3, h4, h5⟩ := hC
  have hadd : ∀ j u, news[j]? = some u → w.cell? ((⟨b, o, none⟩ : Addr).add j) = some u := fun j u h => by rw [addAt]; exact hcell j u h
  have hcs : (cs ++ news).length = (xs.length + ys.length) * K.sz := by rw [List.length_append, h3, hl, Nat.add_mul]
  have hone : (cs ++ news).all one = true := by simp [h4, h1]
  have hlist : ListR K G (xs ++ ys) (cs ++ news) := h2.append h3 hn
  have fin : ∀ {A' c' C' w'}, (Builtin.append_ #[t, t] ty #[.slice A xs.length c, .slice (some ⟨b, o, none⟩) ys.length cB]).run P w = .ok (.slice (some ⟨A', 0, none⟩) (xs.length + ys.length) c') w' → St w0 G0 K0 G w' (C' :: M) → xs.length + ys.length ≤ c' → c' ≤ maxLen → C' = [(A', Row T (xs.length + ys.length) K.sz c' (cs ++ news))] →
      ∃ A' c' C' w', (Builtin.append_ #[t, t] ty #[.slice A xs.length c, .slice (some ⟨b, o, none⟩) ys.length cB]).run P w = .ok (.slice A' (xs ++ ys).length c') w' ∧ St w0 G0 K0 G w' (C' :: M) ∧ Own K T G A' c' (xs ++ ys) C' := by
    intro A' c' C' w' e1 e2 e3 e4 e5
    refine ⟨_, _, C', w', by rw [List.length_append]; exact e1, e2, cs ++ news, hlist, by rw [hcs, List.length_append], hone, .inr ⟨A', rfl, by rw [List.length_append]; exact e3, e4, by rw [List.length_append]; exact e5⟩⟩
  have grown : ∀ old, (Row T (xs.length + ys.length) K.sz (grownCap w (xs.length + ys.length) old T) (cs ++ news)) (.cells (cs.toArray ++ news.toArray ++ Builtin.zeroCells z.cells (grownCap w (xs.length + ys.length) old T - (xs.length + ys.length))) T) := by
    intro old
    have hge := grownCap_ge w (xs.length + ys.length) old T
    refine ⟨_, rfl, ?_, ?_⟩
    · simp only [Array.size_append, List.size_toArray, size_zeroCells, hzs, h3, hl, ← Nat.add_mul]
      congr 1
      omega
    · simp only [Array.toList_append, List.append_assoc]
      rw [← List.append_assoc, ← hcs]
      exact List.take_left
  have hmx : xs.length + ys.length ≤ maxLen := hm
  rcases h5 with ⟨rfl, rfl, rfl, rfl⟩ | ⟨g, rfl, h6, h7, rfl⟩
  · have hc0 : cs = [] := List.eq_nil_of_length_eq_zero (by simpa using h3)
    subst hc0
    have hr := run_append_nil (P := P) w t ty T i z hu hi hz ⟨b, o, none⟩ ys.length cB news (by rw [hsz]; exact hl) hadd hyl (by simp at hm; omega) (by rw [hby]; simp at hb; omega)
    have hg := grown 0
    simp only [List.length_nil, Nat.zero_add, Array.empty_append, List.nil_append] at hr hg
    refine fin (A' := w.heap.size) (C' := [(w.heap.size, _)]) (by simpa using hr) ((hS.drop (M' := M) (sub_drop (.refl _))).drew.alloc _ hg) (by simpa using grownCap_ge w ys.length 0 T) (grownCap_le_maxLen w _ 0 T (by simpa using hmx)) (by simp)
  · obtain ⟨ob, ⟨cur, rfl, hcz, htk⟩, hS1⟩ := St.exact1 (A := []) (C := []) (E := []) (B := M) hS
    have hgb : w.heap[g]? = some (.cells cur T (0, 0)) := by
      obtain ⟨o', e1, e2⟩ := hS1.mem (g, (· = Obj.cells cur T (0, 0))) (by simp)
      rw [e1]; exact congrArg some e2
    by_cases hroom : xs.length + ys.length ≤ c
    · have hfit : xs.length * K.sz + news.length ≤ cur.size := by rw [hl, hcz, ← Nat.add_mul]; exact Nat.mul_le_mul_right _ hroom
      have hr := run_append_room (P := P) w t ty T i hu hi g xs.length c cur hgb ⟨b, o, none⟩ ys.length cB news (by rw [hsz]; exact hl) hadd (fun u hu => by have := List.all_eq_true.1 h1 u hu; cases u <;> simp_all [one, Value.oneCell']) hroom (by rw [hsz]; exact hfit)
      rw [hsz] at hr
      refine fin (A' := g) (c' := c) (C' := [(g, _)]) hr (St.turn (A := []) (C := []) (D := []) (B := M) (q := Row T (xs.length + ys.length) K.sz c (cs ++ news)) hS rfl rfl rfl (by simp) (fun k hk => setRow_other w g k _ hk) ⟨_, setRow_heap w g cur _ T _ hgb, ⟨_, rfl, ?_, ?_⟩⟩) hroom h7 rfl
      · simp only [List.size_toArray, List.length_append, List.length_take, List.length_drop, Array.length_toList]
        omega
      · rw [htk, ← hcs]
        exact List.take_left
    · have holds : ∀ j u, cs[j]? = some u → w.cell? ((⟨g, 0, none⟩ : Addr).add j) = some u := by
        intro j u hu'
        rw [addAt, Nat.zero_add]
        unfold World.cell?
        simp only [hgb]
        rw [← htk, List.getElem?_take] at hu'
        split at hu'
        · simpa using hu'
        · cases hu'
      have hr := run_append_grow (P := P) w t ty T i z hu hi hz ⟨g, 0, none⟩ xs.length c cs (by rw [hsz]; exact h3) holds ⟨b, o, none⟩ ys.length cB news (by rw [hsz]; exact hl) hadd (by omega) (by omega) (by rw [hby]; exact growslice_fits (by omega) hb)
      exact fin (A' := w.heap.size) (C' := [(w.heap.size, _)]) hr ((hS.drop (M' := M) (sub_drop (.refl _))).drew.alloc _ (grown c)) (grownCap_ge _ _ _ _) (grownCap_le_maxLen _ _ _ _ hmx) rfl
/-- `C` stands in `M`; `R` is the rest. -/
inductive Fr (C : Chunk) : List Chunk → List Chunk → Prop where
  | here {M : List Chunk} : Fr C (C :: M) M
  | there {D : Chunk} {M R : List Chunk} (h : Fr C M R) : Fr C (D :: M) (D :: R)
theorem Fr.perm {C : Chunk} {M R : List Chunk} (h : Fr C M R) : List.Perm (C :: R).flatten M.flatten := by
  induction h with
  | here => exact .refl _
  | @there D M R h ih =>
    simp only [List.flatten_cons] at ih ⊢
    refine (List.Perm.append_left D ih).symm.trans ?_ |>.symm
    rw [← List.append_assoc, ← List.append_assoc]
    exact List.Perm.append_right _ List.perm_append_comm
theorem St.front {R : List Chunk} (h : St w0 G0 K0 G w M) (hF : Fr C M R) : St w0 G0 K0 G w (C :: R) := h.perm hF.perm
theorem St.nilChunk (h : St w0 G0 K0 G w M) : St w0 G0 K0 G w ([] :: M) := h.drop (M' := [] :: M) (List.Sublist.refl _)
def KOne {α : Type} (K : Knd α) : Prop := ∀ G x cs, K.R G x cs → cs.all one = true
theorem Rd.news (h1 : KOne K) : ∀ {ys : List α} {B : Option Addr}, Rd K G B ys → ∃ news, ListR K G ys news ∧ news.length = ys.length * K.sz ∧ news.all one = true ∧ (ys = [] ∨ ∃ b o, B = some ⟨b, o, none⟩ ∧ ∀ j u, news[j]? = some u → G.cell b (o + j) = some u)
  | [], B, _ => ⟨[], rfl, by simp, rfl, .inl rfl⟩
  | y :: ys, B, h => by
    rcases h with h | ⟨b, o, rfl, h⟩
    · cases h
    · obtain ⟨cs, hr, hc⟩ := h 0 y rfl
      have h' : Rd K G (some ⟨b, o + K.sz, none⟩) ys := .inr ⟨b, o + K.sz, rfl, fun i x hi => by
        have := h (i + 1) x (by simpa using hi)
        rwa [Nat.add_mul, Nat.one_mul, Nat.add_comm (i * K.sz), ← Nat.add_assoc] at this⟩
      obtain ⟨ds, a1, a2, a3, a4⟩ := Rd.news h1 h'
      have hl := K.len hr
      refine ⟨cs ++ ds, ⟨by rw [List.take_append_of_le_length (by omega), List.take_of_length_le (by omega)]; exact hr, by rw [List.drop_append_of_le_length (by omega), List.drop_of_length_le (by omega)]; exact a1⟩, by simp only [List.length_append, List.length_cons, hl, a2, Nat.add_mul, Nat.one_mul]; omega, by simp [h1 _ _ _ hr, a3], .inr ⟨b, o, rfl, fun j u hj => ?_⟩⟩
      rw [List.getElem?_append] at hj
      split at hj
      · have := hc j u hj
        rwa [Nat.zero_mul, Nat.add_zero] at this
      · rename_i hlt
        rcases a4 with rfl | ⟨b', o', e, a4⟩
        · have : ds = [] := List.eq_nil_of_length_eq_zero (by simpa using a2)
          subst this
          simp at hj
        · cases e
          have := a4 (j - cs.length) u hj
          rwa [show o + K.sz + (j - cs.length) = o + j by omega] at this
/-- An own list that isn't written any more. -/
theorem Own.still {R : List Chunk} (hS : St w0 G0 K0 G w M) (hF : Fr C M R) (hC : Own K T G A c xs C) : ∃ G', Heap.le G G' ∧ St w0 G0 K0 G' w R ∧ Rd K G' A xs := by
  have hS := hS.front hF
  obtain ⟨cs, h2, h3, h4, ⟨rfl, rfl, rfl, rfl⟩ | ⟨g, rfl, h6, h7, rfl⟩⟩ := hC
  · exact ⟨G, Heap.le.refl _, hS.drop (sub_drop (.refl _)), .inl rfl⟩
  · obtain ⟨o, ⟨cur, rfl, hcz, htk⟩, h'⟩ := St.exact1 (A := []) (C := []) (E := []) (B := R) hS
    obtain ⟨G', hle, hb, hS'⟩ := St.freeze (A := []) (C := []) (D := []) (B := R) h'
    refine ⟨G', hle, hS'.perm (by simp), Rd.ofCells (cs := cs) ?_ (h2.le hle)⟩
    intro k v hk
    rw [← htk, List.getElem?_take] at hk
    split at hk
    · simp only [Heap.cell, hb]
      simpa using hk
    · cases hk
variable {Q : Exit → Act → World → Prop} {a : Act} {N : Nat} {D : List Deferred} {L : List (Nat × Value)} {ops : Array Oper} {rest : List Oper}
variable {d : Nat} {ty : TypeId} {pos : String} {af : Array Edge} {R : List Chunk}
theorem o_append {t by' : Nat} {x y : Operand} {B : Option Addr} {cB : Nat} (hE : Env a N D L) (hN : Nat.blt d N = true) (hS : St w0 G0 K0 G w M) (hF : Fr C M R) (hC : Own K T G A c xs C) (hx : ev L x = some (.slice A xs.length c)) (hy : ev L y = some (.slice B ys.length cB)) (ht : apOf P t = some (T, K.sz, by')) (hR : Rd K G B ys) (h1 : KOne K)
    (hb : (xs.length + ys.length) * by' ≤ 140737488355328) (hm : xs.length + ys.length ≤ 9223372036854775807)
    (k : ∀ A' c' C' w' a', St w0 G0 K0 G w' (C' :: R) → Own K T G A' c' (xs ++ ys) C' → Env a' N D ((d, .slice A' (xs ++ ys).length c') :: L) → wpList P ops Q rest a' w') :
    wpList P ops Q (⟨some d, .call { callee := .builtin .append, args := #[x, y], argTypes := #[t, t] }, ty, pos, af, none⟩ :: rest) a w := by
  have hS := hS.front hF
  obtain ⟨news, a1, a2, a3, a4⟩ := hR.news h1
  obtain ⟨A', c', C', w', hr, hS', hC'⟩ := hS.append (ty := ty) (cB := cB) hC ht a1 a2 a3 (a4.imp id fun ⟨b, o, e, h⟩ => ⟨b, o, e, fun j u hj => hS.sub.cell (h j u hj)⟩) hb hm
  refine op_val rfl rfl hE hN ?_ fun a' hE' => k A' c' C' w' a' hS' hC' hE'
  simp [execOp, resolve, invoke, builtin, hE.eval hx, hE.eval hy, hr]
/-- .. of a literal that lies in an own block. -/
theorem o_appendL {t by' n : Nat} {x y : Operand} {b : Nat} {cB : Nat} {Lb : List (Nat × Value)} {news : List Value} (hE : Env a N D L) (hN : Nat.blt d N = true) (hS : St w0 G0 K0 G w M) (hF : Fr C M R) (hC : Own K T G A c xs C) (hx : ev L x = some (.slice A xs.length c)) (hy : ev L y = some (.slice (some ⟨b, 0, none⟩) ys.length cB)) (ht : apOf P t = some (T, K.sz, by'))
    (hI : InM M b (Cells T Lb)) (hl : lks Lb 0 n = some news) (hn : ListR K G ys news) (hnl : n = ys.length * K.sz) (h1 : news.all one = true)
    (hb : (xs.length + ys.length) * by' ≤ 140737488355328) (hm : xs.length + ys.length ≤ 9223372036854775807)
    (k : ∀ A' c' C' w' a', St w0 G0 K0 G w' (C' :: R) → Own K T G A' c' (xs ++ ys) C' → Env a' N D ((d, .slice A' (xs ++ ys).length c') :: L) → wpList P ops Q rest a' w') :
    wpList P ops Q (⟨some d, .call { callee := .builtin .append, args := #[x, y], argTypes := #[t, t] }, ty, pos, af, none⟩ :: rest) a w := by
  obtain ⟨g1, g2⟩ := lks_get _ _ _ hl
  have hcell : ∀ j u, news[j]? = some u → w.cell? ⟨b, 0 + j, none⟩ = some u := fun j u hj => hS.cell hI (g2 j u hj)
  have hS := hS.front hF
  obtain ⟨A', c', C', w', hr, hS', hC'⟩ := hS.append (ty := ty) (cB := cB) hC ht hn (by rw [g1, hnl]) h1 (.inr ⟨b, 0, rfl, hcell⟩) hb hm
  refine op_val rfl rfl hE hN ?_ fun a' hE' => k A' c' C' w' a' hS' hC' hE'
  simp [execOp, resolve, invoke, builtin, hE.eval hx, hE.eval hy, hr]
/-- An empty literal: an own list. -/
theorem o_buildNil {t by' : Nat} {K : Knd α} (hE : Env a N D L) (hN : Nat.blt d N = true) (hS : St w0 G0 K0 G w M) (ht : apOf P t = some (T, K.sz, by'))
    (k : ∀ A' c' C' w' a', St w0 G0 K0 G w' (C' :: M) → Own K T G A' c' ([] : List α) C' → Env a' N D ((d, .slice A' 0 c') :: L) → wpList P ops Q rest a' w') :
    wpList P ops Q (⟨some d, .buildSlice t 0 #[], ty, pos, af, none⟩ :: rest) a w := by
  obtain ⟨i, z, hu, hi, hz, hsz, hby, hzs, hpos⟩ := ap_spec ht
  refine op_val (w' := w.alloc (.cells #[] T)) (v := .slice (some ⟨w.heap.size, 0, none⟩) 0 0) rfl rfl hE hN ?_ fun a' hE' => k _ 0 [(w.heap.size, Row T 0 K.sz 0 [])] _ a' (hS.alloc _ ⟨#[], rfl, by simp, by simp⟩) ⟨[], rfl, by simp, rfl, .inr ⟨_, rfl, Nat.le_refl _, Nat.zero_le _, rfl⟩⟩ hE'
  have h3 : (Instr.buildSlice t 0 #[]).run P w = .ok (.slice (some ⟨w.heap.size, 0, none⟩) 0 0) (w.alloc (.cells #[] T)) := by
    simp only [Instr.buildSlice, Sem.run_bind, run_underlying hu, Result.andThen_ok, run_sizeOf' hi, Nat.zero_mul]
    have e0 : ∀ f : Nat → Value, (Array.range 0).map f = #[] := fun f => Array.eq_empty_of_size_eq_zero (by simp)
    simp [Instr.fill, run_row, e0]
  simp [execOp, h3]
theorem kVal_one : KOne kVal := by rintro G x cs rfl; rfl
theorem kEvt_one : KOne kEvt := by rintro G x cs ⟨A1, c1, A2, c2, rfl, _⟩; rfl
theorem kof_open {α : Type} {enc : α → Value} {G : Heap} {b o : Nat} {x : α} (h : ElAt (Knd.of enc) G b o x) : CellsAt G b o [enc x] := by
  obtain ⟨cs, h1, h2⟩ := h
  cases h1
  exact h2
theorem kof_one {α : Type} {enc : α → Value} (h : ∀ x, one (enc x) = true) : KOne (Knd.of enc) := by rintro G x cs rfl; simp [h]
theorem s_one : KOne Knd.s := kof_one fun _ => rfl
theorem int_one {q : IntKind} : KOne (Knd.int q) := kof_one fun _ => rfl
theorem lk_enum : ∀ (l : List Value) (i t : Nat), i ≤ t → lk (enum i l) t = l[t - i]?
  | [], i, t, _ => by simp [enum, lk]
  | v :: l, i, t, h => by
    simp only [enum, lk]
    by_cases e : i = t
    · subst e; simp
    · have hb : Nat.beq i t = false := by
        cases h' : Nat.beq i t with
        | false => rfl
        | true => exact absurd (Nat.eq_of_beq_eq_true h') e
      rw [hb]
      simp only
      rw [lk_enum l (i + 1) t (by omega), show t - i = (t - (i + 1)) + 1 by omega, List.getElem?_cons_succ]
theorem o_ixR {t n : Nat} {x y : Operand} {vs : List Value} {q : IntKind} {i : Int} {e : TypeId} {z : Value} (hE : Env a N D L) (hN : Nat.blt d N = true) (hx : ev L x = some (.agg vs.toArray)) (hy : ev L y = some (.int q i)) (ht : arrOf P t = some (n, 1)) (he : P.underlying t = some (.array n e)) (h : 0 ≤ i ∧ i < n)
    (hv : vs[i.toNat]? = some z) (hs : scal P e = true) (k : ∀ a', Env a' N D ((d, z) :: L) → wpList P ops Q rest a' w) : wpList P ops Q (⟨some d, .index t x y, ty, pos, af, none⟩ :: rest) a w :=
  o_ixV (vs := [z]) hE hN hx hy ht he h (by simp only [lks, Nat.mul_one]; rw [lk_enum _ _ _ (Nat.zero_le _)]; simp [hv]) (.inl ⟨hs, rfl⟩) k
def AllM : List (Value → Heap → Prop) → Prop
  | [] => True
  | p :: r => (∀ v A B, Heap.le A B → p v A → p v B) ∧ AllM r
theorem AllM.get : ∀ {V : List (Value → Heap → Prop)}, AllM V → ∀ p ∈ V, ∀ v A B, Heap.le A B → p v A → p v B
  | [], _, p, hp => by cases hp
  | q :: r, ⟨h1, h2⟩, p, hp => by
    rcases List.mem_cons.1 hp with rfl | hp
    · exact h1
    · exact AllM.get h2 p hp
/-- A region that draws its order, some of its operations' values being new slices. -/
theorem drawnW {id : Nat} {l : List Oper} (V : List (Value → Heap → Prop)) (hm : P.follows .mixedOrders = true) (hb : backOk l.toArray = true) (hE : Env a N D L) (hS : St w0 G0 K0 G w M) (hf : freshOk l L [] = true) (hmono : AllM V)
    (hstep : AllS (StepOk P Q N D L w0 G0 K0 G M l.toArray V) l V)
    (hend : ∀ a w G', Heap.le G G' → St w0 G0 K0 G' w M → Env a N D L → (∀ j d q, dstOf l.toArray j = some d → V[j]? = some q → ∃ v, a.tmps[d]? = some v ∧ q v G') → Q .normal a w) :
    (Code.region id l.toArray true).wp P Q a w := drawnV V hm hb hE hS hf hmono.get hstep hend
theorem SlV.mono {α : Type} {K : Knd α} {n : Nat} {xs : List α} {v : Value} {A B : Heap} (h : Heap.le A B) (hx : ∃ Ad c, v = .slice Ad n c ∧ n ≤ c ∧ Rd K A Ad xs) : ∃ Ad c, v = .slice Ad n c ∧ n ≤ c ∧ Rd K B Ad xs := by
  obtain ⟨Ad, c, h1, h2, h3⟩ := hx
  exact ⟨Ad, c, h1, h2, h3.le h⟩
end
end Go.Proofs.YtiinipcmghhacaaDoor.X
