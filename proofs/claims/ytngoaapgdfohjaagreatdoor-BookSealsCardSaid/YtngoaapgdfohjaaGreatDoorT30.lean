/- Own text. -/
import Derived.Test.YtngoaapgdfohjaaGreatDoorX40
import Derived.Test.YtngoaapgdfohjaaGreatDoorT26
set_option linter.unusedVariables false
set_option linter.unusedSimpArgs false
namespace Go.Proofs.YtngoaapgdfohjaaGreatDoor.TB
open Go Go.Proofs.YtngoaapgdfohjaaGreatDoor.X Go.Proofs

theorem B.f0 : fieldOff Tryz.prog 123 0 = some 0 := by kernel_rfl
theorem B.f1 : fieldOff Tryz.prog 123 1 = some 1 := by kernel_rfl
theorem B.sP : scal Tryz.prog 121 = true := by kernel_rfl
theorem B.sS : scal Tryz.prog 24 = true := by kernel_rfl
theorem B.uP : Tryz.prog.underlying 121 = some (.pointer 123) := by kernel_rfl
theorem B.uS : Tryz.prog.underlying 24 = some (.slice 5) := by kernel_rfl
theorem B.uT : Tryz.prog.underlying 9 = some .string := by kernel_rfl
theorem B.uU : Tryz.prog.underlying 221 = some .unsafePointer := by kernel_rfl
theorem B.aB : aggSz Tryz.prog 123 = some 2 := by kernel_rfl
theorem B.lies : liesAt Tryz.prog Tryz.prog.depth 123 (2 / Tryz.prog.cellsOf 123) 0 123 1 = true := by kernel_rfl
theorem B.gC : goFn Tryz.prog 128 = true := by kernel_rfl
theorem B.ap : apOf Tryz.prog 24 = some (5, 1, 1) := by kernel_rfl
theorem B.lS : slOf Tryz.prog 24 = some (5, 1) := by kernel_rfl
theorem B.mix : Tryz.prog.follows .mixedOrders = true := by kernel_rfl
abbrev BldT (G : Heap) (b : Nat) (s : Bs) (C : Chunk) : Prop := Bld 123 5 G b s C
set_option maxRecDepth 100000 in
set_option maxHeartbeats 4000000 in
theorem c_copy (b : Nat) (p v : Value) {W0 : World} {H0 : Heap} {L0 : List Nat} {M0 : List Chunk} (w0 : World) (G : Heap) (hS0 : St W0 H0 L0 G w0 ([(b, Arr 123 [p, v])] :: M0)) (hp : p = .pointer none ∨ p = .pointer (some ⟨b, 0, none⟩)) :
    Calls Tryz.prog 128 #[.pointer (some ⟨b, 0, none⟩)] w0 (X.Ends w0 G [b] (fun r G' C' => r = .tuple #[] ∧ G' = G ∧ C' = [(b, Arr 123 [.pointer (some ⟨b, 0, none⟩), v])]) (fun _ _ _ => False)) := by
  refine enter Tryz.func128 rfl Tryz.ntmps128 rfl ?_
  intro Q hQ a HE
  have HS := St.start (C := [(b, Arr 123 [p, v])]) hS0.sub (fun p hp => hS0.mem p (by simp only [List.flatten_cons, List.mem_append]; exact .inl hp)) (fun p hp => hS0.sep p (by simp only [List.flatten_cons, List.mem_append]; exact .inl hp)) (by simp [X.keys])
  change St w0 G [b] G w0 _ at HS
  rcases hp with rfl | rfl
  · refine sr fun K hK => ?_
    refine o_move HE rfl rfl ?_; clear HE; intro a HE
    refine o_nil HE rfl rfl ?_; clear HE; intro a HE
    refine o_fld HE rfl rfl B.f0 ?_; clear HE; intro a HE
    refine o_ldR HE rfl HS rfl B.sP (.here .here) rfl ?_; clear HE; intro a HE
    refine o_eqNilP HE rfl rfl rfl B.uP ?_; clear HE; intro a HE
    apply hK; clear hK K
    refine cond HE rfl (fun h2 => ?_) (fun h2 => absurd h2 (by simp))
    refine wp_region_lit ?_
    refine o_move HE rfl rfl ?_; clear HE; intro a HE
    refine o_move HE rfl rfl ?_; clear HE; intro a HE
    refine o_toU HE rfl HS rfl (.here .here) rfl B.uP B.uU B.aB rfl ?_; clear HE; intro a HE
    refine o_ext HE rfl rfl rfl Tryz.func161 (by kernel_rfl) (by kernel_rfl) (by kernel_rfl) (e := Extern.AbiNoEscape.same) (by kernel_rfl) (Lib.run_noEscape _ _) ?_; clear HE; intro a HE
    refine o_fromU (e := 123) HE rfl HS rfl (.here .here) B.uU B.uP B.aB B.lies ?_; clear HE; intro a HE
    refine o_nil HE rfl rfl ?_; clear HE; intro a HE
    refine o_fld HE rfl rfl B.f0 ?_; clear HE; intro a HE
    refine o_stR HE HS rfl rfl rfl B.sP (.here .here) (by simp) ?_; clear HS; intro w HS
    show Q .normal _ _
    refine retN hQ HE rfl .nil ?_
    exact ⟨_, _, HS.stop (by simp), rfl, rfl, rfl⟩
  · refine sr fun K hK => ?_
    refine o_move HE rfl rfl ?_; clear HE; intro a HE
    refine o_nil HE rfl rfl ?_; clear HE; intro a HE
    refine o_fld HE rfl rfl B.f0 ?_; clear HE; intro a HE
    refine o_ldR HE rfl HS rfl B.sP (.here .here) rfl ?_; clear HE; intro a HE
    refine o_eqNilP HE rfl rfl rfl B.uP ?_; clear HE; intro a HE
    apply hK; clear hK K
    refine cond HE rfl (fun h2 => absurd h2 (by simp)) (fun h2 => ?_)
    refine sr fun K hK => ?_
    refine o_move HE rfl rfl ?_; clear HE; intro a HE
    refine o_nil HE rfl rfl ?_; clear HE; intro a HE
    refine o_fld HE rfl rfl B.f0 ?_; clear HE; intro a HE
    refine o_ldR HE rfl HS rfl B.sP (.here .here) rfl ?_; clear HE; intro a HE
    refine o_move HE rfl rfl ?_; clear HE; intro a HE
    refine o_nePs HE rfl rfl rfl B.uP B.aB ?_; clear HE; intro a HE
    apply hK; clear hK K
    refine cond HE rfl (fun h3 => absurd h3 (by simp)) (fun h3 => ?_)
    refine wp_skip ?_
    show Q .normal _ _
    refine retN hQ HE rfl .nil ?_
    exact ⟨_, _, HS.stop (by simp), rfl, rfl, rfl⟩

set_option maxRecDepth 100000 in
set_option maxHeartbeats 4000000 in
theorem c_bWS (b : Nat) (xs : Bs) (s : Bs) {C : Chunk} {W0 : World} {H0 : Heap} {L0 : List Nat} {M0 : List Chunk} (w0 : World) (G : Heap) (hS0 : St W0 H0 L0 G w0 (C :: M0)) (hB : BldT G b xs C) (hs : xs.length + s.length ≤ 140737488355328) :
    Calls Tryz.prog 85 #[.pointer (some ⟨b, 0, none⟩), str s] w0 (X.Ends w0 G (X.keys C) (fun r G' C' => r = .tuple #[.int .i64 s.length, .nilIface] ∧ G' = G ∧ BldT G b (xs ++ s) C') (fun _ _ _ => False)) := by
  refine enter Tryz.func85 rfl Tryz.ntmps85 rfl ?_
  intro Q hQ a HE
  have HS := St.start (C := C) hS0.sub (fun p hp => hS0.mem p (by simp only [List.flatten_cons, List.mem_append]; exact .inl hp)) (fun p hp => hS0.sep p (by simp only [List.flatten_cons, List.mem_append]; exact .inl hp)) (by have := hS0.nodup; simp only [List.flatten_cons, List.map_append] at this; exact (List.nodup_append.1 this).1)
  change St w0 G _ G w0 _ at HS
  obtain ⟨p, A0, c0, Cb, hp, hA, hC, rfl⟩ := hB
  replace HS := HS.part2
  refine sr fun K hK => ?_
  refine o_assign HE rfl rfl ?_; clear HE; intro a HE
  refine o_assign HE rfl rfl ?_; clear HE; intro a HE
  apply hK; clear hK K
  refine sr fun K hK => ?_
  refine o_move HE rfl rfl ?_; clear HE; intro a HE
  have hcall := c_copy b p _ _ _ HS hp
  replace HS : St w0 G _ G _ ([] ++ [(b, Arr 123 [p, .slice A0 xs.length c0])] :: [Cb]) := HS
  refine o_callM HE rfl HS rfl rfl B.gC hcall ?_ (fun _ _ _ _ _ _ h => h.elim)
  clear HE HS; rintro _ G6 _ w a HS hle6 ⟨rfl, hG, rfl⟩ HE; replace hG := hG.symm; subst hG; clear hcall hle6; simp only [List.nil_append] at HS
  apply hK; clear hK K
  refine sr fun K hK => ?_
  refine o_move HE rfl rfl ?_; clear HE; intro a HE
  refine o_move HE rfl rfl ?_; clear HE; intro a HE
  refine o_nil HE rfl rfl ?_; clear HE; intro a HE
  refine o_fld HE rfl rfl B.f1 ?_; clear HE; intro a HE
  refine o_ldR HE rfl HS rfl B.sS (.here .here) rfl ?_; clear HE; intro a HE
  refine o_move HE rfl rfl ?_; clear HE; intro a HE
  refine o_appendS HE rfl HS (.there .here) hC rfl rfl B.ap B.uT hA (by omega) (by omega) ?_; clear HE HS; intro A1 c1 C1 w a HS hC1 hA1 HE
  refine o_nil HE rfl rfl ?_; clear HE; intro a HE
  refine o_fld HE rfl rfl B.f1 ?_; clear HE; intro a HE
  refine o_stR HE HS rfl rfl rfl B.sS (.there (.here .here)) (by simp) ?_; clear HS; intro w HS
  apply hK; clear hK K
  refine sr fun K hK => ?_
  refine o_move HE rfl rfl ?_; clear HE; intro a HE
  refine o_lenS HE rfl rfl B.uT ?_; clear HE; intro a HE
  refine o_assign HE rfl rfl ?_; clear HE; intro a HE
  refine o_assign HE rfl rfl ?_; clear HE; intro a HE
  apply hK; clear hK K
  exact rtE hQ HE HS ⟨_, _ :: C1, (HS.front (.there .here)).stop (by simp), rfl, rfl, _, A1, c1, C1, .inr rfl, hA1, hC1, rfl⟩

set_option maxRecDepth 100000 in
set_option maxHeartbeats 4000000 in
theorem c_bWB (b : Nat) (xs : Bs) (x : UInt8) {C : Chunk} {W0 : World} {H0 : Heap} {L0 : List Nat} {M0 : List Chunk} (w0 : World) (G : Heap) (hS0 : St W0 H0 L0 G w0 (C :: M0)) (hB : BldT G b xs C) (hs : xs.length + 1 ≤ 140737488355328) :
    Calls Tryz.prog 87 #[.pointer (some ⟨b, 0, none⟩), .int .u8 (x.toNat : Int)] w0 (X.Ends w0 G (X.keys C) (fun r G' C' => r = .nilIface ∧ G' = G ∧ BldT G b (xs ++ [x]) C') (fun _ _ _ => False)) := by
  refine enter Tryz.func87 rfl Tryz.ntmps87 rfl ?_
  intro Q hQ a HE
  have HS := St.start (C := C) hS0.sub (fun p hp => hS0.mem p (by simp only [List.flatten_cons, List.mem_append]; exact .inl hp)) (fun p hp => hS0.sep p (by simp only [List.flatten_cons, List.mem_append]; exact .inl hp)) (by have := hS0.nodup; simp only [List.flatten_cons, List.map_append] at this; exact (List.nodup_append.1 this).1)
  change St w0 G _ G w0 _ at HS
  obtain ⟨p, A0, c0, Cb, hp, hA, hC, rfl⟩ := hB
  replace HS := HS.part2
  refine sr fun K hK => ?_
  refine o_assign HE rfl rfl ?_; clear HE; intro a HE
  apply hK; clear hK K
  refine sr fun K hK => ?_
  refine o_move HE rfl rfl ?_; clear HE; intro a HE
  have hcall := c_copy b p _ _ _ HS hp
  replace HS : St w0 G _ G _ ([] ++ [(b, Arr 123 [p, .slice A0 xs.length c0])] :: [Cb]) := HS
  refine o_callM HE rfl HS rfl rfl B.gC hcall ?_ (fun _ _ _ _ _ _ h => h.elim)
  clear HE HS; rintro _ G6 _ w a HS hle6 ⟨rfl, hG, rfl⟩ HE; replace hG := hG.symm; subst hG; clear hcall hle6; simp only [List.nil_append] at HS
  apply hK; clear hK K
  refine sr fun K hK => ?_
  refine o_move HE rfl rfl ?_; clear HE; intro a HE
  refine o_move HE rfl rfl ?_; clear HE; intro a HE
  refine o_nil HE rfl rfl ?_; clear HE; intro a HE
  refine o_fld HE rfl rfl B.f1 ?_; clear HE; intro a HE
  refine o_ldR HE rfl HS rfl B.sS (.here .here) rfl ?_; clear HE; intro a HE
  refine o_move HE rfl rfl ?_; clear HE; intro a HE
  refine o_buildSl (cs := #[.int .u8 (x.toNat : Int)]) [(0, _)] HE rfl HS rfl B.lS (by kernel_rfl) ⟨rfl, trivial⟩ ?_; clear HE HS; intro bn w a HS HE
  refine o_appendL (ys := [x]) (n := 1) HE rfl HS (.there (.there .here)) hC rfl rfl B.ap (.here .here) rfl ⟨rfl, rfl⟩ rfl rfl (by simp; omega) (by simp; omega) ?_; clear HE HS; intro A1 c1 C1 w a HS hC1 HE
  have hA1 : A1 = none ∨ 0 < c1 := by
    obtain ⟨cs, h1, h2, h3, h4⟩ := hC1
    rcases h4 with ⟨h5, _⟩ | ⟨g, _, h6, _⟩
    · exact .inl h5
    · simp at h6; exact .inr (by omega)
  refine o_nil HE rfl rfl ?_; clear HE; intro a HE
  refine o_fld HE rfl rfl B.f1 ?_; clear HE; intro a HE
  refine o_stR HE HS rfl rfl rfl B.sS (.there (.there (.here .here))) (by simp) ?_; clear HS; intro w HS
  apply hK; clear hK K
  refine sr fun K hK => ?_
  refine o_assign HE rfl rfl ?_; clear HE; intro a HE
  apply hK; clear hK K
  exact rtE hQ HE HS ⟨_, _ :: C1, (HS.front (.there (.there .here))).stop (by simp), rfl, rfl, _, A1, c1, C1, .inr rfl, hA1, hC1, rfl⟩

set_option maxRecDepth 100000 in
set_option maxHeartbeats 4000000 in
theorem c_bS (b : Nat) (xs : Bs) {C : Chunk} {W0 : World} {H0 : Heap} {L0 : List Nat} {M0 : List Chunk} (w0 : World) (G : Heap) (hS0 : St W0 H0 L0 G w0 (C :: M0)) (hB : BldT G b xs C) :
    Calls Tryz.prog 89 #[.pointer (some ⟨b, 0, none⟩)] w0 (X.Ends w0 G (X.keys C) (fun r G' C' => r = str xs ∧ G' = G ∧ True) (fun _ _ _ => False)) := by
  refine enter Tryz.func89 rfl Tryz.ntmps89 rfl ?_
  intro Q hQ a HE
  have HS := St.start (C := C) hS0.sub (fun p hp => hS0.mem p (by simp only [List.flatten_cons, List.mem_append]; exact .inl hp)) (fun p hp => hS0.sep p (by simp only [List.flatten_cons, List.mem_append]; exact .inl hp)) (by have := hS0.nodup; simp only [List.flatten_cons, List.map_append] at this; exact (List.nodup_append.1 this).1)
  change St w0 G _ G w0 _ at HS
  obtain ⟨p, A0, c0, Cb, hp, hA, hC, rfl⟩ := hB
  replace HS := HS.part2
  refine sr fun K hK => ?_
  refine o_assign HE rfl rfl ?_; clear HE; intro a HE
  apply hK; clear hK K
  refine wp_seq_k (fun K2 hK2 => ?_)
  replace HE := HE.cut (L' := [(0, .pointer (some ⟨b, 0, none⟩))]) ⟨rfl, trivial⟩
  refine drawnF (fun f G' w => G = G' ∧ St w0 G (X.keys ((b, Arr 123 [p, .slice A0 xs.length c0]) :: Cb)) G' w ([(b, Arr 123 [p, .slice A0 xs.length c0])] :: bif f 10 then [] else [Cb])) [fun v _ => v = .pointer (some ⟨b, 0, none⟩), fun v _ => v = .pointer (some ⟨b, 0, none⟩), fun v _ => v = .pointer (some ⟨b, 1, none⟩), fun v _ => v = .slice A0 xs.length c0, fun v _ => v = .pointer A0, fun v _ => v = .pointer (some ⟨b, 0, none⟩), fun v _ => v = .pointer (some ⟨b, 0, none⟩), fun v _ => v = .pointer (some ⟨b, 1, none⟩), fun v _ => v = .slice A0 xs.length c0, fun v _ => v = .int .i64 xs.length, fun v _ => v = str xs, fun v _ => v = str xs] [] B.mix rfl HE ⟨rfl, HS.drew⟩ rfl (by simp) (AllM.get ⟨fun _ _ _ _ h => h, fun _ _ _ _ h => h, fun _ _ _ _ h => h, fun _ _ _ _ h => h, fun _ _ _ _ h => h, fun _ _ _ _ h => h, fun _ _ _ _ h => h, fun _ _ _ _ h => h, fun _ _ _ _ h => h, fun _ _ _ _ h => h, fun _ _ _ _ h => h, fun _ _ _ _ h => h, trivial⟩) ⟨?_, ?_, ?_, ?_, ?_, ?_, ?_, ?_, ?_, ?_, ?_, ?_, trivial⟩ ?_
  · intro a w G1 f hcl hfi hon hW HE hp hO; obtain ⟨rfl, HS⟩ := hW
    refine o_move HE rfl rfl ?_; clear HE; intro a HE
    exact ⟨_, _, Heap.le.refl _, ⟨rfl, HS⟩, fun d hd => (by cases hd; exact HE.get _ _ rfl), HE.defers, rfl⟩
  · intro a w G1 f hcl hfi hon hW HE hp hO; obtain ⟨rfl, HS⟩ := hW
    obtain ⟨_, e0, rfl⟩ := hp 0 3 _ (hon 0 rfl) rfl rfl; replace HE := HE.add e0
    refine o_nil HE rfl rfl ?_; clear HE; intro a HE
    exact ⟨_, _, Heap.le.refl _, ⟨rfl, HS⟩, fun d hd => (by cases hd; exact HE.get _ _ rfl), HE.defers, rfl⟩
  · intro a w G1 f hcl hfi hon hW HE hp hO; obtain ⟨rfl, HS⟩ := hW
    obtain ⟨_, e1, rfl⟩ := hp 1 4 _ (hon 1 rfl) rfl rfl; replace HE := HE.add e1
    refine o_fld HE rfl rfl B.f1 ?_; clear HE; intro a HE
    exact ⟨_, _, Heap.le.refl _, ⟨rfl, HS⟩, fun d hd => (by cases hd; exact HE.get _ _ rfl), HE.defers, rfl⟩
  · intro a w G1 f hcl hfi hon hW HE hp hO; obtain ⟨rfl, HS⟩ := hW
    obtain ⟨_, e2, rfl⟩ := hp 2 5 _ (hon 2 rfl) rfl rfl; replace HE := HE.add e2
    refine o_ldR HE rfl HS rfl B.sS (.here .here) rfl ?_; clear HE; intro a HE
    exact ⟨_, _, Heap.le.refl _, ⟨rfl, HS⟩, fun d hd => (by cases hd; exact HE.get _ _ rfl), HE.defers, rfl⟩
  · intro a w G1 f hcl hfi hon hW HE hp hO; obtain ⟨rfl, HS⟩ := hW
    obtain ⟨_, e3, rfl⟩ := hp 3 6 _ (hon 3 rfl) rfl rfl; replace HE := HE.add e3
    refine o_slData HE rfl rfl hA ?_; clear HE; intro a HE
    exact ⟨_, _, Heap.le.refl _, ⟨rfl, HS⟩, fun d hd => (by cases hd; exact HE.get _ _ rfl), HE.defers, rfl⟩
  · intro a w G1 f hcl hfi hon hW HE hp hO; obtain ⟨rfl, HS⟩ := hW
    refine o_move HE rfl rfl ?_; clear HE; intro a HE
    exact ⟨_, _, Heap.le.refl _, ⟨rfl, HS⟩, fun d hd => (by cases hd; exact HE.get _ _ rfl), HE.defers, rfl⟩
  · intro a w G1 f hcl hfi hon hW HE hp hO; obtain ⟨rfl, HS⟩ := hW
    obtain ⟨_, e5, rfl⟩ := hp 5 8 _ (hon 5 rfl) rfl rfl; replace HE := HE.add e5
    refine o_nil HE rfl rfl ?_; clear HE; intro a HE
    exact ⟨_, _, Heap.le.refl _, ⟨rfl, HS⟩, fun d hd => (by cases hd; exact HE.get _ _ rfl), HE.defers, rfl⟩
  · intro a w G1 f hcl hfi hon hW HE hp hO; obtain ⟨rfl, HS⟩ := hW
    obtain ⟨_, e6, rfl⟩ := hp 6 9 _ (hon 6 rfl) rfl rfl; replace HE := HE.add e6
    refine o_fld HE rfl rfl B.f1 ?_; clear HE; intro a HE
    exact ⟨_, _, Heap.le.refl _, ⟨rfl, HS⟩, fun d hd => (by cases hd; exact HE.get _ _ rfl), HE.defers, rfl⟩
  · intro a w G1 f hcl hfi hon hW HE hp hO; obtain ⟨rfl, HS⟩ := hW
    obtain ⟨_, e7, rfl⟩ := hp 7 10 _ (hon 7 rfl) rfl rfl; replace HE := HE.add e7
    refine o_ldR HE rfl HS rfl B.sS (.here .here) rfl ?_; clear HE; intro a HE
    exact ⟨_, _, Heap.le.refl _, ⟨rfl, HS⟩, fun d hd => (by cases hd; exact HE.get _ _ rfl), HE.defers, rfl⟩
  · intro a w G1 f hcl hfi hon hW HE hp hO; obtain ⟨rfl, HS⟩ := hW
    obtain ⟨_, e8, rfl⟩ := hp 8 11 _ (hon 8 rfl) rfl rfl; replace HE := HE.add e8
    refine o_lenL HE rfl rfl B.uS ?_; clear HE; intro a HE
    exact ⟨_, _, Heap.le.refl _, ⟨rfl, HS⟩, fun d hd => (by cases hd; exact HE.get _ _ rfl), HE.defers, rfl⟩
  · intro a w G1 f hcl hfi hon hW HE hp hO; obtain ⟨rfl, HS⟩ := hW
    obtain ⟨_, e4, rfl⟩ := hp 4 7 _ (hon 4 rfl) rfl rfl; replace HE := HE.add e4
    obtain ⟨_, e9, rfl⟩ := hp 9 12 _ (hon 9 rfl) rfl rfl; replace HE := HE.add e9
    rw [hfi, cond_false] at HS
    replace HS := HS.front (.there .here)
    refine o_uString HE rfl HS hC rfl rfl (pt := 182) (it := 3) (T := 5) (by kernel_rfl) (by kernel_rfl) ?_; clear HE HS; intro a w HS HE
    exact ⟨_, _, Heap.le.refl _, ⟨rfl, HS⟩, fun d hd => (by cases hd; exact HE.get _ _ rfl), HE.defers, rfl⟩
  · intro a w G1 f hcl hfi hon hW HE hp hO; obtain ⟨rfl, HS⟩ := hW
    obtain ⟨_, e10, rfl⟩ := hp 10 13 _ (hon 10 rfl) rfl rfl; replace HE := HE.add e10
    refine o_assign HE rfl rfl ?_; clear HE; intro a HE
    exact ⟨_, _, Heap.le.refl _, ⟨rfl, HS⟩, fun d hd => (by cases hd; exact HE.get _ _ rfl), HE.defers, rfl⟩
  clear HE HS; intro a w G7 f hle7 hall HW HE hp; obtain ⟨rfl, HS⟩ := HW
  have hf10 := hall 10 (by decide)
  simp only [hf10, cond_true] at HS
  obtain ⟨_, e11, rfl⟩ := hp 11 2 _ rfl rfl; replace HE := HE.add e11
  refine hK2 _ _ ?_; clear hK2
  exact rtE hQ HE HS ⟨_, [], HS.stop (by simp), rfl, rfl, trivial⟩
end Go.Proofs.YtngoaapgdfohjaaGreatDoor.TB

set_option linter.unusedVariables false
set_option linter.unusedSimpArgs false
set_option maxRecDepth 100000
namespace Go.Proofs.YtngoaapgdfohjaaGreatDoor.T27
open Go Go.Proofs.YtngoaapgdfohjaaGreatDoor.X Go.Proofs Go.Proofs.YtngoaapgdfohjaaGreatDoor.T28 Go.Proofs.YtngoaapgdfohjaaGreatDoor.TS Go.Proofs.YtngoaapgdfohjaaGreatDoor.TK
/-! ## A builder's contracts, with own chunks -/
abbrev pB (b : Nat) : Value := .pointer (some ⟨b, 0, none⟩)
theorem ends_mono {w : World} {G : Heap} {K : List Nat} {R R' : Value → Heap → Chunk → Prop} {e : Ending} {w' : World} (h : X.Ends w G K R (fun _ _ _ => False) e w') (hR : ∀ v G' C', R v G' C' → R' v G' C') : X.Ends w G K R' (fun _ _ _ => False) e w' := by
  cases e with
  | returned v => obtain ⟨G', M', h1, h2⟩ := h; exact ⟨G', M', h1, hR _ _ _ h2⟩
  | panicked c => obtain ⟨G', M', _, h2⟩ := h; exact h2.elim
  | outgrown => exact h
theorem f_WS (b : Nat) (xs s : Bs) (C : Chunk) (G : Heap) (hB : TB.BldT G b xs C) (hs : xs.length + s.length ≤ 140737488355328) :
    FnM Tryz.prog 85 [pB b, str s] G [C] (fun v G' Ms => v = .tuple #[.int .i64 s.length, .nilIface] ∧ G' = G ∧ ∃ C', Ms = [C'] ∧ TB.BldT G b (xs ++ s) C') := by
  intro W0 H0 L0 M0 w hS
  have e : ([C] : List Chunk).flatten = C := by simp
  rw [e]
  refine (TB.c_bWS b xs s w G hS hB hs).mono fun e w' h => ends_mono h fun v G' C' ⟨h1, h2, h3⟩ => ⟨[C'], by simp, h1, h2, C', rfl, h3⟩
theorem f_WB (b : Nat) (xs : Bs) (x : UInt8) (C : Chunk) (G : Heap) (hB : TB.BldT G b xs C) (hs : xs.length + 1 ≤ 140737488355328) :
    FnM Tryz.prog 87 [pB b, .int .u8 (x.toNat : Int)] G [C] (fun v G' Ms => v = .nilIface ∧ G' = G ∧ ∃ C', Ms = [C'] ∧ TB.BldT G b (xs ++ [x]) C') := by
  intro W0 H0 L0 M0 w hS
  have e : ([C] : List Chunk).flatten = C := by simp
  rw [e]
  refine (TB.c_bWB b xs x w G hS hB hs).mono fun e w' h => ends_mono h fun v G' C' ⟨h1, h2, h3⟩ => ⟨[C'], by simp, h1, h2, C', rfl, h3⟩
theorem f_BS (b : Nat) (xs : Bs) (C : Chunk) (G : Heap) (hB : TB.BldT G b xs C) :
    FnM Tryz.prog 89 [pB b] G [C] (fun v G' Ms => v = str xs) := by
  intro W0 H0 L0 M0 w hS
  have e : ([C] : List Chunk).flatten = C := by simp
  rw [e]
  refine (TB.c_bS b xs w G hS hB).mono fun e w' h => ends_mono h fun v G' C' ⟨h1, h2, h3⟩ => ⟨[C'], by simp, h1⟩
end Go.Proofs.YtngoaapgdfohjaaGreatDoor.T27

set_option linter.unusedVariables false
set_option linter.unusedSimpArgs false
set_option maxRecDepth 100000
set_option maxHeartbeats 4000000
namespace Go.Proofs.YtngoaapgdfohjaaGreatDoor.T27
open Go Go.Proofs.YtngoaapgdfohjaaGreatDoor.X Go.Proofs Go.Proofs.YtngoaapgdfohjaaGreatDoor.T28 Go.Proofs.YtngoaapgdfohjaaGreatDoor.TS Go.Proofs.YtngoaapgdfohjaaGreatDoor.TK
/-! ## A line put -/
theorem f_put (b : Nat) (xs : List Bs) (A : Option Addr) (c : Nat) (t : Bs) (C : Chunk) (G : Heap) (hB : TB.BldT G b t C) (hR : Rd Knd.s G A xs) (hc : xs.length ≤ c) (hl : xs.length ≤ 1000) (hj : (Lib.join xs [32]).length ≤ 100000000) (ht : t.length ≤ 100000000) :
    FnM Tryz.prog 84 [.slice A xs.length c, pB b] G [C] (fun v G' Ms => G' = G ∧ ∃ C', Ms = [C'] ∧ TB.BldT G b (t ++ (Lib.join xs [32] ++ [10])) C') := by
  refine fnM_in Tryz.func84 rfl Tryz.ntmps84 rfl fun w0 K0 Q0 hQ => ?_
  refine go ?_
  refine w_stp (p_call rfl rfl rfl (c_LJoin xs A c _ hR.up hc (by omega) (by omega))) ?_
  refine go ?_
  refine w_callM rfl rfl rfl (f_WS b t (Lib.join xs [32]) C G hB (by omega)) (.cons .here .nil) fun r G1 Ms _ hr => ?_
  obtain ⟨rfl, rfl, C1, rfl, hB1⟩ := hr
  refine go ?_
  refine w_callM rfl rfl rfl (f_WB b (t ++ Lib.join xs [32]) 10 C1 G1 hB1 (by simp only [List.length_append]; omega)) (.cons .here .nil) fun r G2 Ms _ hr => ?_
  obtain ⟨rfl, rfl, C2, rfl, hB2⟩ := hr
  refine go ?_
  refine w_endM hQ (.cons .here .nil) ?_ .nil
  exact ⟨rfl, C2, rfl, by rw [← List.append_assoc]; exact hB2⟩
end Go.Proofs.YtngoaapgdfohjaaGreatDoor.T27

set_option linter.unusedVariables false
set_option linter.unusedSimpArgs false
set_option maxRecDepth 100000
namespace Go.Proofs.YtngoaapgdfohjaaGreatDoor.T27
open Go Go.Proofs.YtngoaapgdfohjaaGreatDoor.X Go.Proofs Go.Proofs.YtngoaapgdfohjaaGreatDoor.T28 Go.Proofs.YtngoaapgdfohjaaGreatDoor.TS Go.Proofs.YtngoaapgdfohjaaGreatDoor.TK
/-! ## The lines of a book, as words joined -/
def entW (x : Ent) : List Bs := [[110, 97, 109, 101], letterS x.dom, printV x.name, printV x.real]
def momW (m : Mom) : List Bs := [[116, 105, 109, 101], Lib.itoa m.rank, Lib.itoa m.time]
def remW (r : Rem) : List Bs := [[110, 111, 116, 101], Lib.itoa r.event, [59] ++ r.note]
theorem ent_join (x : Ent) : Lib.join (entW x) [32] ++ [10] = entL x := by unfold entW entL; simp [Lib.join]
theorem mom_join (m : Mom) : Lib.join (momW m) [32] ++ [10] = momL m := by unfold momW momL; simp [Lib.join]
theorem rem_join (r : Rem) : Lib.join (remW r) [32] ++ [10] = remL r := by unfold remW remL; simp [Lib.join]
end Go.Proofs.YtngoaapgdfohjaaGreatDoor.T27
