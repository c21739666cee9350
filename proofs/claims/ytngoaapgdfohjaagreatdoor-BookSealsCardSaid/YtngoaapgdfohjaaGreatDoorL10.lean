/- line.Split walked; the library's Split, Contains, Join. -/
import Derived.Test.YtngoaapgdfohjaaGreatDoorX40
import Derived.Test.YtngoaapgdfohjaaGreatDoorN8
import Derived.Test.YtngoaapgdfohjaaGreatDoorShelf
import Derived.OwnWalkIn
import Derived.TacticsInMore
import Derived.LoopNIn
import Derived.LoopIn
import Derived.Maps.AppendAt
import Derived.Shelf.RegionOpen
import Derived.Test.YtngoaapgdfohjaaGreatDoorProg
set_option linter.unusedVariables false
set_option linter.unusedSimpArgs false
namespace Go.Proofs.YtngoaapgdfohjaaGreatDoor.TL
open Go Go.Proofs.YtngoaapgdfohjaaGreatDoor.X Go.RowKit Go.Shelf
attribute [local go_sem] Oper.semAt_some
/-- What is left of the text, read off the world. -/
def left8 (B : Nat) (W : World) : Nat := match W.cell? ⟨B, 0, none⟩ with
  | some (.string s) => s.size
  | _ => 0
theorem left8_eq {B : Nat} {W : World} {s : Bs} (h : W.cell? ⟨B, 0, none⟩ = some (str s)) : left8 B W = s.length := by
  unfold left8
  rw [h]
  simp [ByteArray.size]
set_option maxRecDepth 100000 in
set_option maxHeartbeats 1000000 in
theorem lines1_in (n : Nat) (hn : 1 ≤ n) (l B : Nat) (m : Int) (s : Bs) (hs : s.length < 4294967281) (J : List (Bs × Bool) → World → Prop) (Jx : List (Bs × Bool) → World → Prop)
    (hB : ∀ p W, J p W → ∃ u, Boxed W B 9 u)
    (hset : ∀ p W v, J p W → J p (W.setCell ⟨B, 0, none⟩ v)) (hdrew : ∀ p W k, J p W → J p (W.drewN k))
    (hm : ∀ p W, J p W → W.cell? ⟨3, 0, none⟩ = some (.int .i64 m))
    (hY : ∀ pre x W, J pre W → pre.length < s.length → (∃ rest, linesB s = pre ++ x :: rest) → YieldAt Fence.wide (n - 1) Tryz.prog l #[str x.1, .bool x.2] W fun e W' =>
      (e = .returned (.bool true) ∧ J (pre ++ [x]) W') ∨ (e = .returned (.bool false) ∧ Jx (pre ++ [x]) W'))
    (W : World) (hW : Boxed W B 9 (str s)) (h0 : J [] W) :
    CallsIn Fence.wide n Tryz.prog 166 #[.func (.yield l) #[] #[], .pointer (some ⟨B, 0, none⟩)] W fun e W' => (∃ v, e = .returned v) ∧
      ((∃ ys, ys = linesB s ∧ J ys W') ∨ (∃ pre, pre <+: linesB s ∧ Jx pre W')) := by
  refine callsIn_of_wp Tryz.func166 rfl trivial ?_ rfl
  simp only [Tryz.ntmps166, List.size_toArray, List.length_cons, List.length_nil, Nat.reduceAdd, Nat.reduceSub, Array.replicate_succ, Array.replicate_zero, List.push_toArray, List.append_toArray, List.nil_append, List.cons_append]
  gi_wp2
  gi_loopw [3] (fun _ wr => ∃ (pre : List (Bs × Bool)) (r : Bs), linesB s = pre ++ linesB r ∧ pre.length + r.length ≤ s.length ∧ r.length ≤ s.length ∧ Boxed wr B 9 (str r) ∧ J pre wr)
    (fun _ wr => left8 B wr)
  case atStart =>
    exact ⟨[], s, rfl, by simp, Nat.le_refl _, hW, h0⟩
  case round =>
    obtain ⟨pre, r, hx, hl1, hl2, hb, hJs⟩ := hrel
    have hcell := hb.cell
    by_cases hr : r = []
    · subst hr
      gi_wp2
      go_end0
      exact ⟨⟨_, rfl⟩, .inl ⟨pre, by rw [hx, linesB_nil, List.append_nil], hJs⟩⟩
    · have hcu := cut_len hr
      have hst := linesB_step hr
      obtain ⟨p, q, b, hcut⟩ : ∃ p q b, Lib.cut r [10] = (p, q, b) := ⟨_, _, _, rfl⟩
      rw [hcut] at hst hcu
      have hne : ¬ (ByteArray.mk r.toArray) = ByteArray.mk #[] := fun h => hr (by simpa using h)
      have hJd := fun k => hdrew pre wr k hJs
      have hyd := fun k => hY pre (p, b) (wr.drewN k) (hJd k) (by have := List.length_pos_iff.2 hr; omega) ⟨linesB q, by rw [hx, hst]⟩
      gi_wp2_with (refine ⟨trivial, ?_⟩; gi_at_call 167; refine (callsIn_wide.2 (Tryz.strings_Cut ⟨r.toArray⟩ ⟨#[10]⟩ m _ (by simp [ByteArray.size]; omega) (hm pre _ hJs))).mono ?_; rintro e w' ⟨rfl, k, rfl⟩; have hy0 := hyd k; obtain ⟨fn, tmps, assign, body, hy, hR⟩ := hy0; simp only [hcut])
      · refine hR.mono ?_
        rintro e W3 (⟨rfl, hJ3⟩ | ⟨rfl, hJx3⟩)
        · obtain ⟨u, hb3⟩ := hB _ _ hJ3
          have hc3 := hb3.cell
          have hf3 := hb3.frozen
          gi_wp2
          have hb4 := hb3.set (str q)
          go_roundw
          case rel => exact ⟨pre ++ [(p, b)], q, by rw [hx, hst]; simp, by simp; omega, by omega, hb4, hset _ _ _ hJ3⟩
          case measure => rw [left8_eq hb4.cell, left8_eq hcell]; omega
        · gi_wp2
          refine bodyPost_ret (results_none rfl _ _ _) rfl ?_
          exact ⟨⟨_, rfl⟩, .inr ⟨pre ++ [(p, b)], ⟨linesB q, by rw [hx, hst]; simp⟩, hJx3⟩⟩
      · rename_i h
        exact absurd h (by simpa using hr)
set_option maxHeartbeats 1000000 in
theorem lines_in (n : Nat) (s : Bs) (w : World) :
    CallsIn Fence.wide n Tryz.prog 133 #[str s] w fun e w' => e = .returned (.func (.func 166) #[] #[.pointer (some ⟨w.heap.size, 0, none⟩)]) ∧ w' = w.alloc (.cells #[str s] 9) := by
  refine callsIn_of_wp Tryz.func133 rfl trivial ?_ rfl
  simp only [Tryz.ntmps133, List.size_toArray, List.length_cons, List.length_nil, Nat.reduceAdd, Nat.reduceSub, Array.replicate_succ, Array.replicate_zero, List.push_toArray, List.append_toArray, List.nil_append, List.cons_append]
  gi_wp2
  go_ret
  exact ⟨rfl, rfl⟩
theorem info8 : (Tryz.prog.info? 9).map (fun i => (i.zero, i.size, i.bytes)) = some (some (.string ⟨#[]⟩), 1, 16) := by kernel_rfl
/-- What lies while the lines come. -/
structure Inv8 (b : Nat) (w : World) (pre : List (Bs × Bool)) (W : World) (v : Value) (u : Value) : Prop where
  out : W.heap[b + 2]? = some (.cells #[v] 104 (0, 0))
  row : W.ownsRow (b + 4) 9 1 v pre.length (pre.map fun p => str p.1)
  txt : W.heap[b + 3]? = some (.cells #[u] 9 (0, 0))
  r0 : W.heap[b]? = some (.cells #[.slice none 0 0] 104 (0, 0))
  r1 : W.heap[b + 1]? = some (.cells #[.int .i64 0, .int .i64 0] 59 (0, 0))
  ended : ∀ p ∈ pre, p.2 = true
  below : Below b w W
structure Out8 (b : Nat) (w : World) (pre : List (Bs × Bool)) (W : World) : Prop where
  r0 : W.heap[b]? = some (.cells #[.slice none 0 0] 104 (0, 0))
  r1 : W.heap[b + 1]? = some (.cells #[.int .i64 2, .int .i64 pre.length] 59 (0, 0))
  last : ∃ q x, pre = q ++ [(x, false)]
  below : Below b w W
theorem kept8 {W W' : World} {row : Option Nat} {k : Nat} {o : Obj} (h : W.heap[k]? = some o) (hg : W.grownBy W' row) (hne : some k ≠ row) : W'.heap[k]? = some o := (hg.block k (Array.getElem?_eq_some_iff.1 h).1 hne).trans h
theorem row8 {W W' : World} {row : Option Nat} {base e n : Nat} {v : Value} {xs : List Value} (h : W.ownsRow base e 1 v n xs) (hg : W.grownBy W' row) (hne : ∀ r, row = some r → r < base ∨ ∃ o : Obj, W.heap[r]? = some o ∧ o.isCells = false) : W'.ownsRow base e 1 v n xs := by
  obtain ⟨h1, h2⟩ := h
  refine ⟨h1, h2.imp id fun ⟨g, cap, cur, a1, a2, a3, a4⟩ => ⟨g, cap, cur, a1, a2, kept8 a3 hg fun e => ?_, a4⟩⟩
  rcases hne g e.symm with h | ⟨o, ho, hc⟩
  · omega
  · rw [a3] at ho; cases ho; cases hc
theorem not8 {W : World} {row : Option Nat} {k : Nat} {c : Array Value} {t : TypeId} {fz : Nat × Nat} (h : W.heap[k]? = some (.cells c t fz)) (hr : ∀ r, row = some r → ∃ o : Obj, W.heap[r]? = some o ∧ o.isCells = false) : some k ≠ row := fun e => by
  obtain ⟨o, ho, hc⟩ := hr k e.symm
  rw [h] at ho; cases ho; cases hc
theorem Inv8.own {b : Nat} {w : World} (hb : b ≤ w.heap.size) {B : Nat} (hB : b ≤ B) : OwnFrom B (fun pre W => ∃ v u, Inv8 b w pre W v u) := by
  rintro pre W W' row ⟨v, u, h⟩ hg hr
  have hr' : ∀ r, row = some r → ∃ o : Obj, W.heap[r]? = some o ∧ o.isCells = false := fun r e => (hr r e).2
  exact ⟨v, u, kept8 h.out hg (not8 h.out hr'), row8 h.row hg (fun r e => .inr (hr' r e)), kept8 h.txt hg (not8 h.txt hr'), kept8 h.r0 hg (not8 h.r0 hr'), kept8 h.r1 hg (not8 h.r1 hr'), h.ended,
    h.below.grown hg (Nat.le_trans hb h.below.size) (fun k e => Nat.le_trans hB (hr k e).1)⟩
theorem Out8.own {b : Nat} {w : World} (hb : b ≤ w.heap.size) {B : Nat} (hB : b ≤ B) : OwnFrom B (fun pre W => Out8 b w pre W) := by
  rintro pre W W' row h hg hr
  have hr' : ∀ r, row = some r → ∃ o : Obj, W.heap[r]? = some o ∧ o.isCells = false := fun r e => (hr r e).2
  exact ⟨kept8 h.r0 hg (not8 h.r0 hr'), kept8 h.r1 hg (not8 h.r1 hr'), h.last, h.below.grown hg (Nat.le_trans hb h.below.size) (fun k e => Nat.le_trans hB (hr k e).1)⟩
theorem Inv8.set {b : Nat} {w : World} {pre : List (Bs × Bool)} {W : World} {v u : Value} (h : Inv8 b w pre W v u) (u' : Value) : Inv8 b w pre (W.setCell ⟨b + 3, 0, none⟩ u') v u' := by
  have hg := grownBy_setCell' W (b + 3) u'
  exact ⟨kept8 h.out hg (by simp), row8 h.row hg (fun r e => .inl (by cases e; omega)), Boxed.set u' h.txt, kept8 h.r0 hg (by simp), kept8 h.r1 hg (by simp), h.ended, h.below.setCell (p := ⟨b + 3, 0, none⟩) (by simp) _⟩
theorem Inv8.drew {b : Nat} {w : World} {pre : List (Bs × Bool)} {W : World} {v u : Value} (h : Inv8 b w pre W v u) (k : Nat) : Inv8 b w pre (W.drewN k) v u :=
  ⟨h.out, h.row, h.txt, h.r0, h.r1, h.ended, ⟨h.below.os, h.below.tape, h.below.output, h.below.size, h.below.block⟩⟩
theorem Inv8.next {b : Nat} {w : World} {pre : List (Bs × Bool)} {W w1 : World} {v u v' : Value} {tmp : Obj} {x : Bs} (h : Inv8 b w pre W v u) (hb : b ≤ w.heap.size)
    (hown : w1.ownsRow (b + 4) 9 1 v' (pre.length + 1) ((pre.map fun p => str p.1) ++ [str x])) (hg : (W.alloc tmp).grownBy w1 v.ownBlock) :
    Boxed w1 (b + 2) 104 v ∧ Inv8 b w (pre ++ [(x, true)]) (w1.setCell ⟨b + 2, 0, none⟩ v') v' u ∧ KeepsOthers W (w1.setCell ⟨b + 2, 0, none⟩ v') := by
  have ha : W.grownBy (W.alloc tmp) none := World.grownBy_alloc W tmp none
  have hown1 : ∀ r, v.ownBlock = some r → b + 4 ≤ r := fun r e => by
    rcases h.row.2 with ⟨rfl, _⟩ | ⟨g, cap, cur, rfl, hg, _⟩
    · simp [Value.ownBlock] at e
    · simp [Value.ownBlock] at e; omega
  have k1 : ∀ k o, k < b + 4 → W.heap[k]? = some o → w1.heap[k]? = some o := fun k o hk hh => kept8 (kept8 hh ha (by simp)) hg fun e => by have := hown1 k e.symm; omega
  have hs := grownBy_setCell' w1 (b + 2) v'
  have k2 : ∀ k o, k < b + 4 → k ≠ b + 2 → W.heap[k]? = some o → (w1.setCell ⟨b + 2, 0, none⟩ v').heap[k]? = some o := fun k o hk hne hh => kept8 (k1 k o hk hh) hs (by simpa using hne)
  have hbox : Boxed w1 (b + 2) 104 v := k1 _ _ (by omega) h.out
  refine ⟨hbox, ⟨hbox.set v', ?_, k2 _ _ (by omega) (by omega) h.txt, k2 _ _ (by omega) (by omega) h.r0, k2 _ _ (by omega) (by omega) h.r1, ?_, ?_⟩, ?_⟩
  · have := row8 hown hs (fun r e => .inl (by cases e; omega))
    simpa using this
  · intro p hp
    rcases List.mem_append.1 hp with hp | hp
    · exact h.ended p hp
    · simp at hp; subst hp; rfl
  · refine ((h.below.alloc (by have := h.below.size; omega) tmp).grown hg (by have := h.below.size; simp; omega) fun j ej => ?_).setCell (p := ⟨b + 2, 0, none⟩) (by simp) v'
    have := hown1 j ej; omega
  · refine ((KeepsOthers.alloc W tmp).trans (KeepsOthers.of_grownBy hg fun j o ej hj => ?_)).trans (KeepsOthers.setCell _ _ _)
    rcases h.row.2 with ⟨rfl, _⟩ | ⟨g, cap, cur, rfl, hg', hgb, _⟩
    · simp [Value.ownBlock] at ej
    · obtain rfl : g = j := by simpa [Value.ownBlock] using ej
      rw [kept8 hgb ha (by simp)] at hj; cases hj; rfl
theorem Inv8.stop {b : Nat} {w : World} {pre : List (Bs × Bool)} {W : World} {v u : Value} {x : Bs} (h : Inv8 b w (pre ++ [(x, true)]) W v u) :
    Out8 b w (pre ++ [(x, false)]) (((W.setCell ⟨b, 0, none⟩ (.slice none 0 0)).setCell ⟨b + 1, 0, none⟩ (.int .i64 2)).setCell ⟨b + 1, 1, none⟩ (.int .i64 ((pre.length : Int) + 1))).drew := by
  have a1 := Boxed.set (.slice none 0 0) h.r0
  have a2 : (W.setCell ⟨b, 0, none⟩ (.slice none 0 0)).heap[b + 1]? = _ := (Below.heap_setCell _ _ _ _ (by simp)).trans h.r1
  have a3 := heap_setCell_same _ _ 0 _ _ (.int .i64 2) a2
  have a4 := heap_setCell_same _ _ 1 _ _ (.int .i64 ((pre.length : Int) + 1)) a3
  have hbl := ((h.below.setCell (p := ⟨b, 0, none⟩) (Nat.le_refl _) (.slice none 0 0)).setCell (p := ⟨b + 1, 0, none⟩) (by simp) (.int .i64 2)).setCell (p := ⟨b + 1, 1, none⟩) (by simp) (.int .i64 ((pre.length : Int) + 1))
  refine ⟨?_, ?_, ⟨pre, x, rfl⟩, ⟨hbl.os, hbl.tape, hbl.output, hbl.size, hbl.block⟩⟩
  · exact (Below.heap_setCell _ _ _ _ (by simp)).trans ((Below.heap_setCell _ _ _ _ (by simp)).trans a1)
  · show _ = some (Obj.cells #[_, .int .i64 ((pre ++ [(x, false)]).length : Nat)] _ _)
    rw [List.length_append, List.length_singleton]
    exact a4
theorem linesS_stop {s : Bs} {pre : List (Bs × Bool)} (h : pre <+: linesB s) (hl : ∃ q x, pre = q ++ [(x, false)]) : (linesS s).1 = [] ∧ (linesS s).2 = (pre.length : Int) ∧ ¬ (linesS s).2 = 0 := by
  obtain ⟨q, x, rfl⟩ := hl
  obtain ⟨r, hr⟩ := h
  obtain ⟨e1, e2, e3, _⟩ := linesB_ended (pre := q) (x := x) (rest := r) (by rw [← hr]; simp)
  have e4 : q.length = (pcs 10 s).length := by rw [e1, List.length_map]
  unfold linesS
  rw [if_neg (by rw [e2]; exact e3), List.length_append, List.length_singleton, e4]
  exact ⟨rfl, rfl, by simp; omega⟩
theorem linesS_done {s : Bs} (h : ∀ p ∈ linesB s, p.2 = true) : linesS s = ((linesB s).map (·.1), 0) := by
  obtain ⟨e1, e2⟩ := linesB_all (s := s) fun x hx => by have := h _ hx; cases this
  unfold linesS
  rw [if_pos e1, e2]
theorem grown8 (W : World) (b off : Nat) (v : Value) : W.grownBy (W.setCell ⟨b, off, none⟩ v) (some b) :=
  ⟨rfl, rfl, rfl, by simp [World.setCell], fun k _ hk => Below.heap_setCell _ _ _ _ (fun e => hk (by rw [e]))⟩
def code8 (n : Int) : Int := if n = 0 then 0 else 2
theorem end8 {n D b : Nat} {w W : World} {a : Act} {v : Value} {c l : Int} {k : Nat} {xs : List Value} {R : Ending → World → Prop} (hb : b = w.heap.size) (hD : b ≤ D) (hK : W.heap[D]? = some (.deferred (some []))) (h0 : W.heap[b]? = some (.cells #[v] 104 (0, 0))) (h1 : W.heap[b + 1]? = some (.cells #[.int .i64 c, .int .i64 l] 59 (0, 0)))
    (hrow : W.ownsRow b 9 1 v k xs) (hbl : Below b w W) (ht2 : a.tmps[2]? = some (.pointer (some ⟨b, 0, none⟩))) (ht3 : a.tmps[3]? = some (.pointer (some ⟨b + 1, 0, none⟩))) (hd : a.defers = [{ target := .collected D, args := #[] }])
    (hR : ∀ W', W'.ownsRow b 9 1 v k xs → Below b w W' → R (.returned (.tuple #[v, .agg #[.int .i64 c, .int .i64 l]])) W') : bodyPostM Fence.wide n Tryz.prog Tryz.f100 R .ret a W := by
  have hg := grownBy_putObj' W D (.deferred none)
  have hrD : ∀ r, some D = some r → ∃ o : Obj, W.heap[r]? = some o ∧ o.isCells = false := fun r e => by cases e; exact ⟨_, hK, rfl⟩
  have b0 : Boxed (W.putObj D (.deferred none)) b 104 v := kept8 h0 hg (not8 h0 hrD)
  have b1 := kept8 h1 hg (not8 h1 hrD)
  have hbl' : Below b w (W.putObj D (.deferred none)) := hbl.grown hg (by subst hb; exact hbl.size) (fun k e => by cases e; omega)
  show LeavesInM Fence.wide n Tryz.prog Tryz.f100 a.tmps R a.defers .returning W
  rw [hd]
  refine ⟨by simp, .inl ⟨_, _, rfl, run_takeDeferred hK, ?_⟩⟩
  refine ⟨_, Res.run (a := a) (vs := [v, .agg #[.int .i64 c, .int .i64 l]]) rfl (.cell ht2 (run_loadS (by kernel_rfl) b0.cell) (.cell ht3 (run_loadA (vs := [.int .i64 c, .int .i64 l]) (by kernel_rfl) ?_) .nil)), hR _ (row8 hrow hg fun r e => .inr (hrD r e)) hbl'⟩
  intro j u hj
  rw [addAt, Nat.zero_add]
  match j, hj with
  | 0, hj => cases hj; simp [World.cell?, b1]
  | 1, hj => cases hj; simp [World.cell?, b1]
theorem base8 {W : World} {b b' e k : Nat} {v : Value} {xs : List Value} (h : W.ownsRow b' e 1 v k xs) (hb : b ≤ b') : W.ownsRow b e 1 v k xs :=
  ⟨h.1, h.2.imp id fun ⟨g, cap, cur, a1, a2, a3⟩ => ⟨g, cap, cur, a1, by omega, a3⟩⟩
set_option maxRecDepth 100000 in
set_option maxHeartbeats 2000000 in
theorem split_in (n : Nat) (hn : 3 ≤ n) (s : Bs) (hs : s.length < 4294967281) (m : Int) (w : World) (hm : w.cell? ⟨3, 0, none⟩ = some (.int .i64 m)) :
    CallsIn Fence.wide n Tryz.prog 100 #[str s] w fun e W' => ∃ v, W'.ownsRow w.heap.size 9 1 v (linesS s).1.length ((linesS s).1.map X.str) ∧ Below w.heap.size w W' ∧
      e = .returned (.tuple #[v, .agg #[.int .i64 (code8 (linesS s).2), .int .i64 (linesS s).2]]) := by
  obtain ⟨i0, hi, hz0, hz1, hz2⟩ := info_parts info8
  have h1 : 1 ≤ n := by omega
  have hmb : 3 < w.heap.size := by
    unfold World.cell? at hm
    cases hh : w.heap[3]? with
    | none => simp [hh] at hm
    | some o => exact (Array.getElem?_eq_some_iff.1 hh).1
  refine callsIn_of_wp_marks Tryz.func100 rfl trivial ?_ rfl
  simp only [Tryz.ntmps100, List.size_toArray, List.length_cons, List.length_nil, Nat.reduceAdd, Nat.reduceSub, Array.replicate_succ, Array.replicate_zero, List.push_toArray, List.append_toArray, List.nil_append, List.cons_append]
  gi_wp2_with (refine ⟨trivial, ?_⟩; gi_at_call 133; refine (lines_in (n - 1) s _).mono ?_; rintro e w' ⟨rfl, rfl⟩)
  simp only [World.size_alloc, Nat.add_assoc, Nat.reduceAdd]
  obtain ⟨W0, hW0⟩ : ∃ W0, (((w.alloc (Obj.cells #[Value.slice none 0 0] 104)).alloc (Obj.cells #[Value.int .i64 0, Value.int .i64 0] 59)).alloc (Obj.cells #[Value.slice none 0 0] 104)).alloc (Obj.cells #[X.str s] 9) = W0 := ⟨_, rfl⟩
  have hsz : W0.heap.size = w.heap.size + 4 := by rw [← hW0]; simp
  have hb0 : Below w.heap.size w W0 := by rw [← hW0]; exact ((((Below.refl _ w).alloc (Nat.le_refl _) _).alloc (by simp) _).alloc (by simp; omega) _).alloc (by simp; omega) _
  have hinv : Inv8 w.heap.size w [] W0 (.slice none 0 0) (X.str s) := by
    have e : W0.heap = (((w.heap.push (Obj.cells #[Value.slice none 0 0] 104)).push (Obj.cells #[Value.int .i64 0, Value.int .i64 0] 59)).push (Obj.cells #[Value.slice none 0 0] 104)).push (Obj.cells #[X.str s] 9) := by rw [← hW0]; rfl
    refine ⟨?_, World.ownsRow_nil _ _ _ _, ?_, ?_, ?_, by simp, hb0⟩ <;> rw [e] <;> simp only [Array.getElem?_push, Array.size_push] <;> repeat first | rw [if_pos trivial] | rw [if_pos (by omega)] | rw [if_neg (by omega)]
  rw [hW0]
  refine range_cells (gf := 166) (lb := #[.pointer (some ⟨w.heap.size + 3, 0, none⟩)]) (N := s.length) (S := fun ys => ys = linesB s) (Sp := fun pre => pre <+: linesB s) (encs := fun x : Bs × Bool => #[X.str x.1, .bool x.2]) rfl (enters_of Tryz.func166 (by kernel_rfl) rfl) (fun _ => rfl)
    (fun pre W => ∃ v u, Inv8 w.heap.size w pre W v u) (fun _ pre W => Out8 w.heap.size w pre W) (Inv8.own (Nat.le_refl _) (by omega)) (fun _ => Out8.own (Nat.le_refl _) (by omega)) ⟨_, _, hinv⟩
    (fun x => { tmps := #[X.str s, undef, .pointer (some ⟨w.heap.size, 0, none⟩), .pointer (some ⟨w.heap.size + 1, 0, none⟩), .pointer (some ⟨w.heap.size + 2, 0, none⟩), X.str x.1, .bool x.2, X.str s, .func (.func 166) #[] #[.pointer (some ⟨w.heap.size + 3, 0, none⟩)], X.str x.1, .bool x.2, undef, undef, undef, undef, undef, undef, undef, undef, undef, undef, undef], defers := [] })
    ?iter ?assign ?body ?done ?stop
  case iter =>
    intro l K Kx W hK hY hx hI0 hK0
    refine lines1_in (n - 1) (by omega) l (w.heap.size + 3) m s hs (fun pre W => (∃ v u, Inv8 w.heap.size w pre W v u) ∧ K W) Kx (fun p W ⟨⟨v, u, h⟩, _⟩ => ⟨u, h.txt⟩)
      (fun p W v' ⟨⟨v, u, h⟩, k⟩ => ⟨⟨v, v', h.set v'⟩, hK _ _ (KeepsOthers.setCell _ _ _) k⟩) (fun p W j ⟨⟨v, u, h⟩, k⟩ => ⟨⟨v, u, h.drew j⟩, hK W (W.drewN j) ⟨Nat.le_refl _, fun _ _ h _ => h⟩ k⟩)
      (fun p W ⟨⟨v, u, h⟩, _⟩ => (h.below.cell (p := ⟨3, 0, none⟩) hmb).trans hm) (fun pre x W ⟨h, k⟩ hl _ => ?_) W (hx _ _ hinv.txt) ⟨hI0, hK0⟩
    obtain ⟨fn, tmps, assign, body, hy, hR⟩ := hY pre x W h k hl
    exact ⟨fn, tmps, assign, body, hy, hR.mono fun e V he => he⟩
  case assign =>
    intro l x W K hK
    gi_wp2
    exact hK
  case body =>
    rintro l pre ⟨x, en⟩ W ⟨v, u, hi8⟩ hlt
    have hv : Boxed W (w.heap.size + 2) 104 v := hi8.out
    have hc := hv.cell
    have hr0 : Boxed W w.heap.size 104 (.slice none 0 0) := hi8.r0
    have hq1 : pre.length + 1 ≤ maxLen := by show _ ≤ (9223372036854775807 : Nat); omega
    have hq2 : (pre.length + 1) * 16 ≤ 140737488355328 := by omega
    have hq3 : w.heap.size + 4 ≤ (W.alloc (.cells #[X.str x] 9)).heap.size := by have := (Array.getElem?_eq_some_iff.1 hi8.txt).1; simp; omega
    gi_wp2_with (gi_at_builtin; refine wpListIn_append_own _ rfl _ _ 104 rfl (w.heap.size + 4) 9 i0 (.string ⟨#[]⟩) 1 16 Tryz.underlying104 hi hz0 hz1 hz2 rfl (by decide) _ _ _ rfl (hi8.row.alloc _) ⟨W.heap.size, 0, none⟩ 1 1 [X.str x] rfl rfl (cell_one_new _ _ _) (by simp [Value.oneCell']) hq1 hq2 hq3 ?_; intro v' w1 hown' hgrow _; obtain ⟨g', cap', rfl⟩ := ownsRow_succ hown'; obtain ⟨hv1, hi9, hk9⟩ := hi8.next (Nat.le_refl _) hown' hgrow; have hc1 := hv1.cell; have hf1 := hv1.frozen)
    · have hen : en = false := by cases en <;> simp_all
      subst hen
      obtain ⟨W5, hW5⟩ : ∃ W5, (w1.setCell ⟨w.heap.size + 2, 0, none⟩ (Value.slice (some { block := g', off := 0 }) (pre.length + 1) cap')) = W5 := ⟨_, rfl⟩
      rw [hW5] at hi9 hk9 ⊢
      have bO : Boxed W5 (w.heap.size + 2) 104 _ := hi9.out
      have bR : Boxed W5 w.heap.size 104 _ := hi9.r0
      have cO := bO.cell
      have cR := bR.cell
      have fR := bR.frozen
      have cF0 : W5.cell? ⟨w.heap.size + 1, 0, none⟩ = some (.int .i64 0) := by simp [World.cell?, hi9.r1]
      have cF1 : W5.cell? ⟨w.heap.size + 1, 1, none⟩ = some (.int .i64 0) := by simp [World.cell?, hi9.r1]
      have fF0 : W5.frozen? ⟨w.heap.size + 1, 0, none⟩ = false := by simp [World.frozen?, hi9.r1]
      have fF1 : W5.frozen? ⟨w.heap.size + 1, 1, none⟩ = false := by simp [World.frozen?, hi9.r1]
      have hmx : Tryz.prog.follows .mixedOrders = true := by kernel_rfl
      gi_region_with_o (fail)
      all_goals gi_wp2
      all_goals (try go_bits)
      all_goals exact ⟨hk9.trans ((((KeepsOthers.setCell _ _ _).trans (KeepsOthers.setCell _ _ _)).trans (KeepsOthers.setCell _ _ _)).trans ⟨Nat.le_refl _, fun _ _ h _ => h⟩), hi9.stop⟩
    · have hen : en = true := by cases en <;> simp_all
      subst hen
      exact ⟨hk9, _, _, hi9⟩
  case done =>
    rintro D ys W hD rfl ⟨v, u, h⟩ hK
    have hS := linesS_done h.ended
    obtain ⟨av, nv, cv, rfl⟩ : ∃ A n c, v = .slice A n c := by
      rcases h.row.2 with ⟨rfl, _⟩ | ⟨g, cap, cur, rfl, _⟩
      · exact ⟨_, _, _, rfl⟩
      · exact ⟨_, _, _, rfl⟩
    have bO : Boxed W (w.heap.size + 2) 104 _ := h.out
    have bR : Boxed W w.heap.size 104 _ := h.r0
    have cO := bO.cell
    have cR := bR.cell
    have fR := bR.frozen
    have cF0 : W.cell? ⟨w.heap.size + 1, 0, none⟩ = some (.int .i64 0) := by simp [World.cell?, h.r1]
    have cF1 : W.cell? ⟨w.heap.size + 1, 1, none⟩ = some (.int .i64 0) := by simp [World.cell?, h.r1]
    have fF0 : W.frozen? ⟨w.heap.size + 1, 0, none⟩ = false := by simp [World.frozen?, h.r1]
    have fF1 : W.frozen? ⟨w.heap.size + 1, 1, none⟩ = false := by simp [World.frozen?, h.r1]
    gi_wp2
    have a1 := bR.set (.slice av nv cv)
    have a2 : (W.setCell ⟨w.heap.size, 0, none⟩ (.slice av nv cv)).heap[w.heap.size + 1]? = _ := (Below.heap_setCell _ _ _ _ (by simp)).trans h.r1
    have a3 := heap_setCell_same _ _ 0 _ _ (.int .i64 0) a2
    have a4 := heap_setCell_same _ _ 1 _ _ (.int .i64 0) a3
    have hbl := ((h.below.setCell (p := ⟨w.heap.size, 0, none⟩) (Nat.le_refl _) (.slice av nv cv)).setCell (p := ⟨w.heap.size + 1, 0, none⟩) (by simp) (.int .i64 0)).setCell (p := ⟨w.heap.size + 1, 1, none⟩) (by simp) (.int .i64 0)
    have hr1 := row8 h.row (grownBy_setCell' W w.heap.size (.slice av nv cv)) (fun r e => .inl (by cases e; omega))
    have hr3 := row8 (row8 hr1 (grown8 _ (w.heap.size + 1) 0 (.int .i64 0)) (fun r e => .inl (by cases e; omega))) (grown8 _ (w.heap.size + 1) 1 (.int .i64 0)) (fun r e => .inl (by cases e; omega))
    refine end8 (D := D) rfl (by omega) ((Below.heap_setCell _ _ _ _ (by simp; omega)).trans ((Below.heap_setCell _ _ _ _ (by simp; omega)).trans ((Below.heap_setCell _ _ _ _ (by simp; omega)).trans hK))) ((Below.heap_setCell _ _ _ _ (by simp)).trans ((Below.heap_setCell _ _ _ _ (by simp)).trans a1)) a4 (base8 hr3 (by omega)) hbl rfl rfl rfl ?_
    intro W' hr hb
    exact ⟨.slice av nv cv, by simpa [hS, Function.comp_def] using hr, hb, by simp [hS, code8]⟩
  case stop =>
    rintro D pre W hD hp h hK
    obtain ⟨e1, e2, e3⟩ := linesS_stop hp h.last
    refine end8 (D := D) rfl (by omega) hK h.r0 h.r1 (World.ownsRow_nil _ _ _ _) h.below rfl rfl rfl fun W' hr hb => ⟨.slice none 0 0, ?_, hb, ?_⟩
    · rw [e1]; exact hr
    · rw [e2]; unfold code8; rw [if_neg (by rw [← e2]; exact e3)]
/-- line.Split, in the calculus' words. -/
theorem c_split (s : Bs) (w0 : World) (G : Heap) (hG : Sub G w0) (m : Int) (h8 : CellsAt G 3 0 [.int .i64 m]) (hs : s.length ≤ 4294967280) :
    Calls Tryz.prog 100 #[X.str s] w0 (Ret w0 G (fun v G' => ∃ A c, v = .tuple #[.slice A (linesS s).1.length c, .agg #[.int .i64 (code8 (linesS s).2), .int .i64 (linesS s).2]] ∧ (linesS s).1.length ≤ c ∧ Rd Knd.s G' A (linesS s).1)) := by
  have hm : w0.cell? ⟨3, 0, none⟩ = some (.int .i64 m) := hG.cell (h8 0 _ rfl)
  refine (callsIn_wide.1 (split_in 3 (Nat.le_refl _) s (by omega) m w0 hm)).mono ?_
  rintro e W ⟨v, hrow, hbl, rfl⟩
  obtain ⟨G', A, c, hA, rfl, hc, hR⟩ := Aft.ofRow (K := Knd.s) (xs := (linesS s).1) hG hbl hrow rfl (listR_s _ _)
  exact ⟨G', [], hA, rfl, A, c, rfl, hc, hR⟩
theorem g_cut (s : Bs) (c : UInt8) (w0 : World) (G : Heap) (hG : Sub G w0) (m : Int) (h8 : CellsAt G 3 0 [.int .i64 m]) (hs : s.length ≤ 4294967280) :
    Calls Tryz.prog 167 #[X.str s, X.str [c]] w0 (Ret w0 G (fun v _ => v = .tuple #[X.str (cutA s c), X.str (cutB s c), .bool (cutF s c)])) := by
  have hm : w0.cell? ⟨3, 0, none⟩ = some (.int .i64 m) := hG.cell (h8 0 _ rfl)
  refine calls_grow hG ((Tryz.strings_Cut ⟨s.toArray⟩ ⟨#[c]⟩ m w0 (by simp [ByteArray.size]; omega) hm).mono ?_)
  rintro e w' ⟨he, k, hk⟩
  exact ⟨he, k, #[], by rw [hk]; simp [Go.Sort.grow]; rfl⟩
theorem g_split (s : Bs) (c : UInt8) (w0 : World) (G : Heap) (hG : X.Sub G w0) (m : Int) (h8 : CellsAt G 3 0 [.int .i64 m]) (hs : s.length ≤ 4294967280) :
    Calls Tryz.prog 175 #[X.str s, X.str [c]] w0 (Ret w0 G (fun v G' => SlV Knd.s G' v (splitS c s))) := by
  have hm : w0.cell? ⟨3, 0, none⟩ = some (.int .i64 m) := hG.cell (h8 0 _ rfl)
  have e := split_lib c _ ⟨s.toArray⟩ rfl
  have e2 : (Lib.splitB ⟨#[c]⟩ 0 (Lib.countB ⟨s.toArray⟩ ⟨#[c]⟩) ⟨s.toArray⟩).map Value.string = (splitS c s).map X.str := by
    rw [← show (Lib.splitB ⟨#[c]⟩ 0 (Lib.countB ⟨s.toArray⟩ ⟨#[c]⟩) ⟨s.toArray⟩).map (·.data.toList) = splitS c s from e, List.map_map]
    rfl
  have e3 : Lib.countB ⟨s.toArray⟩ ⟨#[c]⟩ + 1 = (splitS c s).length := by
    have h1 := Lib.splitB_all ⟨#[c]⟩ (Nat.le_refl 1) 0 _ ⟨s.toArray⟩ rfl
    have h2 := congrArg List.length e2
    rw [List.length_map, List.length_map] at h2
    omega
  refine calls_alloc (cells := (splitS c s).map X.str) (T := 9) hG e3 (listR_s _ _) ((Tryz.strings_Split ⟨s.toArray⟩ ⟨#[c]⟩ m w0 (by simp [ByteArray.size]; omega) hm (Nat.le_refl 1)).mono ?_)
  rintro e w' ⟨he, hw⟩
  exact ⟨he, by rw [hw, e2]⟩
theorem strs_at {G : Heap} {w : World} (hG : X.Sub G w) {b o : Nat} {xs : List Bs} (h : ∀ i x, xs[i]? = some x → ElAt Knd.s G b (o + i * 1) x) : ∀ j u, xs[j]? = some u → w.cell? ⟨b, o + j, none⟩ = some (X.str u) := by
  intro j u hj
  have h1 := kof_open (enc := fun l => X.str l) (h j u hj)
  have h2 := hG.cell (h1 0 _ rfl)
  rwa [Nat.mul_one, Nat.add_zero] at h2
theorem g_contains (xs : List Bs) (A : Option Addr) (c : Nat) (x : Bs) (w0 : World) (G : Heap) (hG : X.Sub G w0) (hR : Rd Knd.s G A xs) (hl : xs.length ≤ 9223372036854775807) :
    Calls Tryz.prog 176 #[.slice A xs.length c, X.str x] w0 (Ret w0 G (fun v _ => v = .bool (decide (x ∈ xs)))) := by
  rcases hR with rfl | ⟨b, o, rfl, h⟩
  · exact calls_same hG ((Tryz.slices_Contains_string_empty A c ⟨x.toArray⟩ w0).mono fun e w' h => by simpa using h)
  · have hc := strs_at hG h
    refine calls_same hG ((Tryz.slices_Contains_string b o xs.length c (xs.map fun l => ⟨l.toArray⟩) ⟨x.toArray⟩ w0 (by simp) hl ?_).mono ?_)
    · intro j hj
      have hj' : j < xs.length := by simpa using hj
      rw [hc j _ (List.getElem?_eq_getElem hj')]
      simp [List.getD, hj']
    · rintro e w' ⟨he, hw⟩
      refine ⟨?_, hw⟩
      rw [he]
      congr 2
      rw [Bool.eq_iff_iff, Lib.containsS_iff, decide_eq_true_eq, List.take_of_length_le (by simp), List.mem_map]
      constructor
      · rintro ⟨a, ha, he⟩
        have : a.toArray = x.toArray := congrArg ByteArray.data he
        rwa [List.toArray_inj this] at ha
      · intro hx
        exact ⟨x, hx, rfl⟩
theorem g_join (xs : List Bs) (A : Option Addr) (c : Nat) (w0 : World) (G : Heap) (hG : X.Sub G w0) (hR : Rd Knd.s G A xs) (hc : xs.length ≤ c) (hl : xs.length ≤ 140737488355328) (hj : (Lib.join xs [32]).length ≤ 140737488355328) :
    Calls Tryz.prog 102 #[.slice A xs.length c, X.str [32]] w0 (Ret w0 G (fun v _ => v = X.str (Lib.join xs [32]))) := by
  have em : (xs.map fun l => (⟨l.toArray⟩ : ByteArray)).map (·.data.toList) = xs := by rw [List.map_map]; exact List.map_id _
  rcases hR with rfl | ⟨b, o, rfl, h⟩
  · exact calls_same hG (Tryz.strings_Join_none A c ⟨#[32]⟩ w0)
  · have hcl := strs_at hG h
    by_cases hx : xs = []
    · subst hx
      exact calls_same hG (Tryz.strings_Join_none _ c ⟨#[32]⟩ w0)
    have hpos := List.length_pos_iff.2 hx
    have hbk : b < w0.heap.size := by
      have := hcl 0 _ (List.getElem?_eq_getElem hpos)
      unfold World.cell? at this
      cases hh : w0.heap[b]? with
      | none => simp [hh] at this
      | some o => exact (Array.getElem?_eq_some_iff.1 hh).1
    have := Tryz.strings_Join b o c (xs.map fun l => ⟨l.toArray⟩) ⟨#[32]⟩ w0 (fun j x hj => by
      rw [List.getElem?_map] at hj
      cases hq : xs[j]? with
      | none => simp [hq] at hj
      | some u =>
        rw [hq] at hj
        cases hj
        exact hcl j u hq) hbk (by simpa using hl) (by simpa using hc) (by rw [em]; exact hj)
    rw [em, List.length_map] at this
    exact calls_below hG this
end Go.Proofs.YtngoaapgdfohjaaGreatDoor.TL
