/- Own text. -/
import Derived.Test.YtngoaapgdfohjaaGreatDoorX40
import Derived.Test.YtngoaapgdfohjaaGreatDoorN2
import Derived.Test.YtngoaapgdfohjaaGreatDoorShelf
import Derived.Test.YtngoaapgdfohjaaGreatDoorProg
set_option linter.unusedVariables false
set_option linter.unusedSimpArgs false
namespace Go.Proofs.YtngoaapgdfohjaaGreatDoor.TS
open Go Go.Proofs.YtngoaapgdfohjaaGreatDoor.X Go.Shelf
theorem e_nan47 (x : Int) (w : World) : Calls Tryz.prog 158 #[.int .i64 x] w fun e w' => e = .returned (.bool false) ∧ w' = w := by
  go_enter Tryz.func158, Tryz.ntmps158
  go_wp2
  go_ret
  exact ⟨by simp, rfl⟩
theorem e_nan48 (x : Int) (w : World) : Calls Tryz.prog 159 #[.int .i64 x] w fun e w' => e = .returned (.bool false) ∧ w' = w := by
  go_enter Tryz.func159, Tryz.ntmps159
  go_wp2
  go_ret
  exact ⟨by simp, rfl⟩
theorem e_cmp33 (x y : Int) (w : World) : Calls Tryz.prog 123 #[.int .i64 x, .int .i64 y] w fun e w' => e = .returned (.int .i64 (cmpI x y)) ∧ w' = w := by
  go_enter Tryz.func123, Tryz.ntmps123
  go_wp2_with (go_at_call 158; refine (e_nan47 _ _).mono ?_; rintro e w' ⟨rfl, rfl⟩)
  all_goals go_ret
  all_goals (refine ⟨?_, rfl⟩; unfold cmpI; simp_all)
  all_goals (try omega)
theorem e_cmp34 (x y : Int) (w : World) : Calls Tryz.prog 124 #[.int .i64 x, .int .i64 y] w fun e w' => e = .returned (.int .i64 (cmpI x y)) ∧ w' = w := by
  go_enter Tryz.func124, Tryz.ntmps124
  go_wp2_with (go_at_call 159; refine (e_nan48 _ _).mono ?_; rintro e w' ⟨rfl, rfl⟩)
  all_goals go_ret
  all_goals (refine ⟨?_, rfl⟩; unfold cmpI; simp_all)
  all_goals (try omega)
theorem e_or (b : Nat) (x y z : Int) (w : World) (h0 : w.cell? ⟨b, 0, none⟩ = some (.int .i64 x)) (h1 : w.cell? ⟨b, 1, none⟩ = some (.int .i64 y)) (h2 : w.cell? ⟨b, 2, none⟩ = some (.int .i64 z)) :
    Calls Tryz.prog 122 #[.slice (some ⟨b, 0, none⟩) 3 3] w fun e w' => e = .returned (.int .i64 (orL [x, y, z])) ∧ w' = w := by
  go_enter Tryz.func122, Tryz.ntmps122
  go_wp2
  refine wp_loop_rounds 4 ?_
  have fin : ∀ v : Int, orL [x, y, z] = v → Ending.returned (Value.int .i64 v) = .returned (.int .i64 (orL [x, y, z])) := fun v h => by rw [h]
  rw [rounds_succ]; go_wp2
  · go_ret
    exact ⟨by simp_all [orL], rfl⟩
  · rw [rounds_succ]; go_wp2
    · go_ret
      exact ⟨by simp_all [orL], rfl⟩
    · rw [rounds_succ]; go_wp2
      · go_ret
        exact ⟨by simp_all [orL], rfl⟩
      · rw [rounds_succ]; go_wp2
        go_ret
        exact ⟨by simp_all [orL], rfl⟩
theorem e_str (x y : Bs) (w : World) : Calls Tryz.prog 125 #[str x, str y] w fun e w' => e = .returned (.int .i64 (Lib.compareBytes x y)) ∧ w' = w :=
  Tryz.strings_Compare ⟨x.toArray⟩ ⟨y.toArray⟩ w
def vc (x : Val) : List Value := [.int .i64 x.k, .int .i64 x.n, X.str x.s]
def blk3 (x y : Val) : Obj := .cells #[.int .i64 (cmpI x.k y.k), .int .i64 (cmpI x.n y.n), .int .i64 (Lib.compareBytes x.s y.s)] 3
def two (w : World) (x y : Val) : World := (w.alloc (.cells (vc x).toArray 42)).alloc (.cells (vc y).toArray 42)
def WI (w : World) (x y : Val) (f : Nat → Bool) (_ : Heap) (W : World) : Prop := ∃ q, W = Go.Sort.grow ((two w x y).drewN q) (cond (f 15) #[blk3 x y] #[])
theorem two_size (w : World) (x y : Val) : (two w x y).heap.size = w.heap.size + 2 := by unfold two; simp
theorem two_cell (w : World) (x y : Val) (q : Nat) (os : Array Obj) : ∀ j v, ((vc x)[j]? = some v → (Go.Sort.grow ((two w x y).drewN q) os).cell? ⟨w.heap.size, j, none⟩ = some v) ∧ ((vc y)[j]? = some v → (Go.Sort.grow ((two w x y).drewN q) os).cell? ⟨w.heap.size + 1, j, none⟩ = some v) := by
  intro j v
  have e : (Go.Sort.grow ((two w x y).drewN q) os).heap = ((w.heap.push (.cells (vc x).toArray 42)).push (.cells (vc y).toArray 42)) ++ os := rfl
  constructor <;> intro h <;> unfold World.cell? <;> rw [e] <;> rw [Array.getElem?_append_left (by simp <;> omega)] <;> simp only [Array.getElem?_push, Array.size_push] <;> (repeat first | rw [if_pos trivial] | rw [if_pos (by omega)] | rw [if_neg (by omega)]) <;> simpa using h
set_option maxRecDepth 100000 in
set_option maxHeartbeats 1000000 in
theorem e_compare (x y : Val) (w : World) : Calls Tryz.prog 81 #[.agg (vc x).toArray, .agg (vc y).toArray] w fun e w' => e = .returned (.int .i64 (compareV x y)) ∧ ∃ q os, w' = Go.Sort.grow (w.drewN q) os := by
  refine enter Tryz.func81 rfl Tryz.ntmps81 rfl ?_
  intro Q hQ a HE
  refine wp_seq_k (fun K hK => ?_); refine wp_region_lit ?_
  refine o_boxW HE rfl rfl ?_; clear HE; intro a HE
  refine o_boxW HE rfl rfl ?_; clear HE; intro a HE
  refine o_assign HE rfl rfl ?_; clear HE; intro a HE
  refine hK _ _ ?_; clear hK K
  refine wp_seq_k (fun K3 hK2 => ?_)
  change Env _ _ _ _ at HE
  rw [World.size_alloc] at HE
  replace HE := HE.cut (L' := [(2, .pointer (some ⟨w.heap.size, 0, none⟩)), (3, .pointer (some ⟨w.heap.size + 1, 0, none⟩))]) ⟨rfl, rfl, trivial⟩
  refine drawnF (G := fun _ => none) (WI w x y) [fun v _ => v = .pointer (some ⟨w.heap.size, 0, none⟩), fun v _ => v = .int .i64 x.k, fun v _ => v = .pointer (some ⟨w.heap.size + 1, 0, none⟩), fun v _ => v = .int .i64 y.k, fun v _ => v = .int .i64 (cmpI x.k y.k), fun v _ => v = .pointer (some ⟨w.heap.size, 1, none⟩), fun v _ => v = .int .i64 x.n, fun v _ => v = .pointer (some ⟨w.heap.size + 1, 1, none⟩), fun v _ => v = .int .i64 y.n, fun v _ => v = .int .i64 (cmpI x.n y.n), fun v _ => v = .pointer (some ⟨w.heap.size, 2, none⟩), fun v _ => v = X.str x.s, fun v _ => v = .pointer (some ⟨w.heap.size + 1, 2, none⟩), fun v _ => v = X.str y.s, fun v _ => v = .int .i64 (Lib.compareBytes x.s y.s), fun v _ => v = .slice (some ⟨w.heap.size + 2, 0, none⟩) 3 3, fun v _ => v = .int .i64 (compareV x y), fun v _ => v = .int .i64 (compareV x y)] [] (by kernel_rfl) rfl HE ⟨1, rfl⟩ rfl (by simp) ?mono ⟨?_, ?_, ?_, ?_, ?_, ?_, ?_, ?_, ?_, ?_, ?_, ?_, ?_, ?_, ?_, ?_, ?_, ?_, trivial⟩ ?fin
  case mono =>
    intro p hp v A B _ h
    simp only [List.mem_cons, List.not_mem_nil, or_false] at hp
    rcases hp with rfl | rfl | rfl | rfl | rfl | rfl | rfl | rfl | rfl | rfl | rfl | rfl | rfl | rfl | rfl | rfl | rfl | rfl <;> exact h
  · intro a W G f hcl hfi hon hW HE hp hO
    obtain ⟨q, rfl⟩ := hW
    refine o_fld HE rfl rfl (by kernel_rfl : fieldOff Tryz.prog 42 0 = some 0) ?_; clear HE; intro a HE
    exact ⟨_, G, Heap.le.refl _, ⟨q, rfl⟩, fun d hd => by cases hd; exact HE.get _ _ rfl, HE.defers, rfl⟩
  · intro a W G f hcl hfi hon hW HE hp hO
    obtain ⟨q, rfl⟩ := hW
    obtain ⟨_, e0, rfl⟩ := hp 0 5 _ (hon 0 rfl) rfl rfl; replace HE := HE.add e0
    refine o_ldW HE rfl rfl (by kernel_rfl) ((two_cell w x y q _ 0 _).1 rfl) ?_; clear HE; intro a HE
    exact ⟨_, G, Heap.le.refl _, ⟨q, rfl⟩, fun d hd => by cases hd; exact HE.get _ _ rfl, HE.defers, rfl⟩
  · intro a W G f hcl hfi hon hW HE hp hO
    obtain ⟨q, rfl⟩ := hW
    refine o_fld HE rfl rfl (by kernel_rfl : fieldOff Tryz.prog 42 0 = some 0) ?_; clear HE; intro a HE
    exact ⟨_, G, Heap.le.refl _, ⟨q, rfl⟩, fun d hd => by cases hd; exact HE.get _ _ rfl, HE.defers, rfl⟩
  · intro a W G f hcl hfi hon hW HE hp hO
    obtain ⟨q, rfl⟩ := hW
    obtain ⟨_, e0, rfl⟩ := hp 2 7 _ (hon 2 rfl) rfl rfl; replace HE := HE.add e0
    refine o_ldW HE rfl rfl (by kernel_rfl) ((two_cell w x y q _ 0 _).2 rfl) ?_; clear HE; intro a HE
    exact ⟨_, G, Heap.le.refl _, ⟨q, rfl⟩, fun d hd => by cases hd; exact HE.get _ _ rfl, HE.defers, rfl⟩
  · intro a W G f hcl hfi hon hW HE hp hO
    obtain ⟨q, rfl⟩ := hW
    obtain ⟨_, e0, rfl⟩ := hp 1 6 _ (hon 1 rfl) rfl rfl; replace HE := HE.add e0
    obtain ⟨_, e1, rfl⟩ := hp 3 8 _ (hon 3 rfl) rfl rfl; replace HE := HE.add e1
    refine o_callW HE rfl rfl rfl (by kernel_rfl) (e_cmp33 _ _ _) ?_; clear HE; intro a HE
    exact ⟨_, G, Heap.le.refl _, ⟨q, rfl⟩, fun d hd => by cases hd; exact HE.get _ _ rfl, HE.defers, rfl⟩
  · intro a W G f hcl hfi hon hW HE hp hO
    obtain ⟨q, rfl⟩ := hW
    refine o_fld HE rfl rfl (by kernel_rfl : fieldOff Tryz.prog 42 1 = some 1) ?_; clear HE; intro a HE
    exact ⟨_, G, Heap.le.refl _, ⟨q, rfl⟩, fun d hd => by cases hd; exact HE.get _ _ rfl, HE.defers, rfl⟩
  · intro a W G f hcl hfi hon hW HE hp hO
    obtain ⟨q, rfl⟩ := hW
    obtain ⟨_, e0, rfl⟩ := hp 5 10 _ (hon 5 rfl) rfl rfl; replace HE := HE.add e0
    refine o_ldW HE rfl rfl (by kernel_rfl) ((two_cell w x y q _ 1 _).1 rfl) ?_; clear HE; intro a HE
    exact ⟨_, G, Heap.le.refl _, ⟨q, rfl⟩, fun d hd => by cases hd; exact HE.get _ _ rfl, HE.defers, rfl⟩
  · intro a W G f hcl hfi hon hW HE hp hO
    obtain ⟨q, rfl⟩ := hW
    refine o_fld HE rfl rfl (by kernel_rfl : fieldOff Tryz.prog 42 1 = some 1) ?_; clear HE; intro a HE
    exact ⟨_, G, Heap.le.refl _, ⟨q, rfl⟩, fun d hd => by cases hd; exact HE.get _ _ rfl, HE.defers, rfl⟩
  · intro a W G f hcl hfi hon hW HE hp hO
    obtain ⟨q, rfl⟩ := hW
    obtain ⟨_, e0, rfl⟩ := hp 7 12 _ (hon 7 rfl) rfl rfl; replace HE := HE.add e0
    refine o_ldW HE rfl rfl (by kernel_rfl) ((two_cell w x y q _ 1 _).2 rfl) ?_; clear HE; intro a HE
    exact ⟨_, G, Heap.le.refl _, ⟨q, rfl⟩, fun d hd => by cases hd; exact HE.get _ _ rfl, HE.defers, rfl⟩
  · intro a W G f hcl hfi hon hW HE hp hO
    obtain ⟨q, rfl⟩ := hW
    obtain ⟨_, e0, rfl⟩ := hp 6 11 _ (hon 6 rfl) rfl rfl; replace HE := HE.add e0
    obtain ⟨_, e1, rfl⟩ := hp 8 13 _ (hon 8 rfl) rfl rfl; replace HE := HE.add e1
    refine o_callW HE rfl rfl rfl (by kernel_rfl) (e_cmp34 _ _ _) ?_; clear HE; intro a HE
    exact ⟨_, G, Heap.le.refl _, ⟨q, rfl⟩, fun d hd => by cases hd; exact HE.get _ _ rfl, HE.defers, rfl⟩
  · intro a W G f hcl hfi hon hW HE hp hO
    obtain ⟨q, rfl⟩ := hW
    refine o_fld HE rfl rfl (by kernel_rfl : fieldOff Tryz.prog 42 2 = some 2) ?_; clear HE; intro a HE
    exact ⟨_, G, Heap.le.refl _, ⟨q, rfl⟩, fun d hd => by cases hd; exact HE.get _ _ rfl, HE.defers, rfl⟩
  · intro a W G f hcl hfi hon hW HE hp hO
    obtain ⟨q, rfl⟩ := hW
    obtain ⟨_, e0, rfl⟩ := hp 10 15 _ (hon 10 rfl) rfl rfl; replace HE := HE.add e0
    refine o_ldW HE rfl rfl (by kernel_rfl) ((two_cell w x y q _ 2 _).1 rfl) ?_; clear HE; intro a HE
    exact ⟨_, G, Heap.le.refl _, ⟨q, rfl⟩, fun d hd => by cases hd; exact HE.get _ _ rfl, HE.defers, rfl⟩
  · intro a W G f hcl hfi hon hW HE hp hO
    obtain ⟨q, rfl⟩ := hW
    refine o_fld HE rfl rfl (by kernel_rfl : fieldOff Tryz.prog 42 2 = some 2) ?_; clear HE; intro a HE
    exact ⟨_, G, Heap.le.refl _, ⟨q, rfl⟩, fun d hd => by cases hd; exact HE.get _ _ rfl, HE.defers, rfl⟩
  · intro a W G f hcl hfi hon hW HE hp hO
    obtain ⟨q, rfl⟩ := hW
    obtain ⟨_, e0, rfl⟩ := hp 12 17 _ (hon 12 rfl) rfl rfl; replace HE := HE.add e0
    refine o_ldW HE rfl rfl (by kernel_rfl) ((two_cell w x y q _ 2 _).2 rfl) ?_; clear HE; intro a HE
    exact ⟨_, G, Heap.le.refl _, ⟨q, rfl⟩, fun d hd => by cases hd; exact HE.get _ _ rfl, HE.defers, rfl⟩
  · intro a W G f hcl hfi hon hW HE hp hO
    obtain ⟨q, rfl⟩ := hW
    obtain ⟨_, e0, rfl⟩ := hp 11 16 _ (hon 11 rfl) rfl rfl; replace HE := HE.add e0
    obtain ⟨_, e1, rfl⟩ := hp 13 18 _ (hon 13 rfl) rfl rfl; replace HE := HE.add e1
    refine o_callW HE rfl rfl rfl (by kernel_rfl) (e_str _ _ _) ?_; clear HE; intro a HE
    exact ⟨_, G, Heap.le.refl _, ⟨q, rfl⟩, fun d hd => by cases hd; exact HE.get _ _ rfl, HE.defers, rfl⟩
  · intro a W G f hcl hfi hon hW HE hp hO
    obtain ⟨q, rfl⟩ := hW
    obtain ⟨_, e4, rfl⟩ := hp 4 9 _ (hon 4 rfl) rfl rfl; replace HE := HE.add e4
    obtain ⟨_, e9, rfl⟩ := hp 9 14 _ (hon 9 rfl) rfl rfl; replace HE := HE.add e9
    obtain ⟨_, e14, rfl⟩ := hp 14 19 _ (hon 14 rfl) rfl rfl; replace HE := HE.add e14
    refine o_buildW (cs := #[.int .i64 (cmpI x.k y.k), .int .i64 (cmpI x.n y.n), .int .i64 (Lib.compareBytes x.s y.s)]) (e := 3) (m := 1) HE rfl rfl (by kernel_rfl) (by kernel_rfl) ?_; clear HE; intro a HE
    rw [hfi] at HE ⊢
    have hsz : (Go.Sort.grow ((two w x y).drewN q) (cond false #[blk3 x y] #[])).heap.size = w.heap.size + 2 := by
      show ((two w x y).heap ++ #[]).size = _
      simp [two_size]
    rw [hsz] at HE
    exact ⟨_, G, Heap.le.refl _, ⟨q, by simp only [cond_false]; rfl⟩, fun d hd => by cases hd; exact HE.get _ _ rfl, HE.defers, rfl⟩
  · intro a W G f hcl hfi hon hW HE hp hO
    obtain ⟨q, rfl⟩ := hW
    obtain ⟨_, e0, rfl⟩ := hp 15 20 _ (hon 15 rfl) rfl rfl; replace HE := HE.add e0
    have hf15 : f 15 = true := hon 15 rfl
    have hc : ∀ j v, [Value.int .i64 (cmpI x.k y.k), .int .i64 (cmpI x.n y.n), .int .i64 (Lib.compareBytes x.s y.s)][j]? = some v → (Go.Sort.grow ((two w x y).drewN q) (cond (f 15) #[blk3 x y] #[])).cell? ⟨w.heap.size + 2, j, none⟩ = some v := by
      intro j v hj
      rw [hf15]
      unfold World.cell?
      have e : (Go.Sort.grow ((two w x y).drewN q) (cond true #[blk3 x y] #[])).heap = (two w x y).heap ++ #[blk3 x y] := rfl
      simp only [e]
      rw [Array.getElem?_append_right (by rw [two_size]; omega), two_size]
      simpa [blk3] using hj
    refine o_callW HE rfl rfl rfl (by kernel_rfl) (e_or _ _ _ _ _ (hc 0 _ rfl) (hc 1 _ rfl) (hc 2 _ rfl)) ?_; clear HE; intro a HE
    exact ⟨_, G, Heap.le.refl _, ⟨q, rfl⟩, fun d hd => by cases hd; exact HE.get _ _ rfl, HE.defers, rfl⟩
  · intro a W G f hcl hfi hon hW HE hp hO
    obtain ⟨q, rfl⟩ := hW
    obtain ⟨_, e0, rfl⟩ := hp 16 21 _ (hon 16 rfl) rfl rfl; replace HE := HE.add e0
    refine o_assign HE rfl rfl ?_; clear HE; intro a HE
    exact ⟨_, G, Heap.le.refl _, ⟨q, rfl⟩, fun d hd => by cases hd; exact HE.get _ _ rfl, HE.defers, rfl⟩
  case fin =>
    intro a W G' f _ hall ⟨q, hW⟩ HE hv
    obtain ⟨_, e0, rfl⟩ := hv 17 4 _ rfl rfl; replace HE := HE.add e0
    subst hW
    refine hK2 _ _ ?_; clear hK2
    refine wp_ret ?_
    show Q .ret _ _
    refine ret hQ HE rfl (HE.res rfl .nil) ⟨rfl, q, (#[.cells (vc x).toArray 42] ++ #[.cells (vc y).toArray 42]) ++ cond (f 15) #[blk3 x y] #[], ?_⟩
    have e : two w x y = Go.Sort.grow w (#[.cells (vc x).toArray 42] ++ #[.cells (vc y).toArray 42]) := by
      unfold two
      rw [Go.Sort.alloc_eq_grow, Go.Sort.alloc_eq_grow, Go.Sort.grow_grow]
    rw [e]
    exact Go.Sort.grow_grow (w.drewN q) _ _
end Go.Proofs.YtngoaapgdfohjaaGreatDoor.TS
