/- Own text. -/
import Derived.Test.YtngoaapgdfohjaaGreatDoorW16
set_option linter.unusedVariables false
set_option linter.unusedSimpArgs false
set_option maxRecDepth 100000
set_option maxHeartbeats 4000000
namespace Go.Proofs.YtngoaapgdfohjaaGreatDoor.T27
open Go Go.Proofs.YtngoaapgdfohjaaGreatDoor.X Go.Proofs Go.Proofs.YtngoaapgdfohjaaGreatDoor.T28 Go.Proofs.YtngoaapgdfohjaaGreatDoor.TS Go.Proofs.YtngoaapgdfohjaaGreatDoor.TK
/-! ## What is recovered -/
section
variable {P : Program} {Q : Exit → Act → List Frame → World → Prop} {N : Nat} {D : List Deferred} {w0 : World} {G0 : Heap} {K0 : List Nat} {ops : Array Oper} {G : Heap} {L : List (Nat × Value)} {M M' : List Chunk} {d : Nat} {ty : TypeId} {pos : String} {af : Array Edge} {x y : Operand} {a : Act} {w : World} {cs : List Frame} {l : List Nat}
theorem opsS_skip {i : Nat} {o : Oper} {w' : World} (ho : ops[i]? = some o) (hg : o.guard = none) (hd : o.dst = none) (hr : (execOp a.eval o).run P w = .ok .skip w') (k : wpOpsS P ops Q l a cs w') : wpOpsS P ops Q (i :: l) a cs w := by
  unfold wpOpsS
  have hw : Region.wanted o (yielded ops a.tmps) = true := by simp [Region.wanted, hg]
  simp only [ho, hw, if_true, hr]
  rw [Oper.upon_skip, hd]
  exact k
theorem opsS_alloc {i T : Nat} {g : Option (Nat × Bool)} {z : Value} (hg : g = none) (ho : ops[i]? = some ⟨some d, .alloc T, ty, pos, af, g⟩) (hE : Env a N D L) (hN : Nat.blt d N = true) (hS : St w0 G0 K0 G w M) (hz : zeroOf P T = some z)
    (k : ∀ b w' a', St w0 G0 K0 G w' ([(b, Cells T (enum 0 (cellsOf z)))] :: M) → Env a' N D ((d, .pointer (some ⟨b, 0, none⟩)) :: L) → wpOpsS P ops Q l a' cs w') : wpOpsS P ops Q (i :: l) a cs w := by
  subst hg
  refine opsS_val (w' := w.alloc (.cells z.cells T)) (v := .pointer (some ⟨w.heap.size, 0, none⟩)) ho rfl rfl hE hN ?_ fun a' hE' => k _ _ a' (hS.alloc _ ?_) hE'
  · unfold zeroOf at hz
    cases hi : P.info? T with
    | none => simp [hi] at hz
    | some i =>
      simp [hi] at hz
      simp [execOp, Instr.alloc, zeroValue, typeInfo, hi, hz, newVar, run_row]
  · have := cells_enum z.cells T
    rwa [cellsOf_cells] at this
theorem opsS_stA {i t T b off : Nat} {Lb : List (Nat × Value)} {vs : Array Value} {us : List Value} (ho : ops[i]? = some ⟨none, .store t x y, ty, pos, af, none⟩) (hE : Env a N D L) (hS : St w0 G0 K0 G w M) (hx : ev L x = some (.pointer (some ⟨b, off, none⟩))) (hy : ev L y = some (.agg vs)) (h1 : vs.toList.all one = true) (ht : aggSz P t = some vs.toList.length)
    (hm : RepM b (Cells T Lb) (Cells T (enum off vs.toList ++ Lb)) M M') (hu : lks Lb off vs.toList.length = some us) (k : ∀ w', St w0 G0 K0 G w' M' → wpOpsS P ops Q l a cs w') : wpOpsS P ops Q (i :: l) a cs w := by
  obtain ⟨w', hr, hS'⟩ := St.sets (P := P) (off := off) vs.toList 0 hS (by simpa using hm) h1 (by simpa using hu)
  obtain ⟨_, i', hi, hs⟩ := agg_spec (w := w) ht
  refine opsS_skip ho rfl rfl ?_ (k w' hS')
  simp [execOp, hE.eval hx, hE.eval hy, Instr.storeAt, Instr.sureAddr, storeVar, run_sizeOf' hi, hs, Value.cells, hr]
theorem wpS_W {c : Code} (h : W P (fun e a w => Q e a cs w) N D w0 G0 K0 [.co c] G L M) (E : Env a N D L) (S : St w0 G0 K0 G w M) : c.wpS P Q a cs w := wpS_of_wp (h.run a w E S)
theorem w_endS {Q0 : Exit → Act → World → Prop} (h : ∀ a w, Env a N D L → St w0 G0 K0 G w M → Q0 .normal a w) : W P Q0 N D w0 G0 K0 [] G L M := W.of fun a w E S => h a w E S
end
theorem Tk.z59 : zeroOf Tryz.prog 59 = some (.agg #[.int .i64 0, .int .i64 0]) := by kernel_rfl
theorem run_noFail {w : World} : (Instr.typeAssert .nilIface 20 59 true).run Tryz.prog w = .ok (.tuple #[.agg #[.int .i64 0, .int .i64 0], .bool false]) w := by
  obtain ⟨td, hu, hk⟩ : ∃ td, Tryz.prog.underlying 59 = some td ∧ (∀ m, td ≠ .interface m) := by
    have h : notIf Tryz.prog 59 = true := by kernel_rfl
    unfold notIf at h
    cases hu : Tryz.prog.underlying 59 with
    | none => simp [hu] at h
    | some td => exact ⟨td, rfl, fun m e => by subst e; simp [hu] at h⟩
  have hz := Tk.z59
  unfold zeroOf at hz
  cases hi : Tryz.prog.info? 59 with
  | none => simp [hi] at hz
  | some i =>
    simp [hi] at hz
    cases td <;> first | exact absurd rfl (hk _) | simp [Instr.typeAssert, run_underlying hu, zeroValue, typeInfo, hi, hz]
theorem run_isFail {w : World} {e : Value} : (Instr.typeAssert (.iface 59 e) 20 59 true).run Tryz.prog w = .ok (.tuple #[e, .bool true]) w := by
  obtain ⟨td, hu, hk⟩ : ∃ td, Tryz.prog.underlying 59 = some td ∧ (∀ m, td ≠ .interface m) := by
    have h : notIf Tryz.prog 59 = true := by kernel_rfl
    unfold notIf at h
    cases hu : Tryz.prog.underlying 59 with
    | none => simp [hu] at h
    | some td => exact ⟨td, rfl, fun m e => by subst e; simp [hu] at h⟩
  cases td <;> first | exact absurd rfl (hk _) | simp [Instr.typeAssert, run_underlying hu]
theorem cl_idle (p q : Nat) {w0 : World} {G0 : Heap} {K0 : List Nat} {G : Heap} {w : World} {M : List Chunk} (HS : St w0 G0 K0 G w M) :
    CallsD Tryz.prog 53 #[.pointer (some ⟨p, 0, none⟩), .pointer (some ⟨q, 0, none⟩)] .returning w fun e u' w' => (∃ v, e = .returned v) ∧ u' = .returning ∧ ∃ G', Heap.le G G' ∧ St w0 G0 K0 G' w' M := by
  refine enterS Tryz.func53 rfl Tryz.ntmps53 rfl fun c₀ cs hu a HE => ?_
  apply wpS_seq
  apply wpS_region
  show wpOpsS _ _ _ [0, 1, 2, 3, 4, 5, 6, 7] _ _ _
  refine opsS_recover rfl rfl rfl HE rfl run_recover (fun _ a HE => ?_) (fun v cs' h => by simp [recoverD, hu] at h)
  refine opsS_val (w' := w) (v := .tuple #[.agg #[.int .i64 0, .int .i64 0], .bool false]) rfl rfl rfl HE rfl (by simp [execOp, HE.eval (x := .tmp 5) (v := .nilIface) rfl, run_noFail]) fun a HE => ?_
  refine opsS_val (w' := w) (v := .tuple #[.agg #[.int .i64 0, .int .i64 0], .bool false]) rfl rfl rfl HE rfl (by simp [execOp, HE.eval (x := .tmp 6) (v := .tuple #[.agg #[.int .i64 0, .int .i64 0], .bool false]) rfl]) fun a HE => ?_
  refine opsS_val (w' := w) (v := .agg #[.int .i64 0, .int .i64 0]) rfl rfl rfl HE rfl (by simp [execOp, HE.eval (x := .tmp 4) (v := .tuple #[.agg #[.int .i64 0, .int .i64 0], .bool false]) rfl, Instr.extract]) fun a HE => ?_
  refine opsS_val (w' := w) (v := .bool false) rfl rfl rfl HE rfl (by simp [execOp, HE.eval (x := .tmp 4) (v := .tuple #[.agg #[.int .i64 0, .int .i64 0], .bool false]) rfl, Instr.extract]) fun a HE => ?_
  refine opsS_alloc rfl rfl HE rfl HS Tk.z59 fun B w1 a HS HE => ?_
  refine opsS_stA rfl HE HS rfl rfl rfl (by kernel_rfl) (.here .here) rfl fun w2 HS => ?_
  refine opsS_val (w' := w2) (v := .bool false) rfl rfl rfl HE rfl (by simp [execOp, HE.eval (x := .tmp 8) (v := .bool false) rfl]) fun a HE => ?_
  show Code.wpS _ _ _ _ _ _
  refine wpS_W ?_ HE HS
  refine go ?_
  refine w_endS fun a w E S => ?_
  exact ⟨E.defers, .returning, by cases c₀; simp_all, _, Res.nil.run rfl, ⟨_, rfl⟩, rfl, G, Heap.le.refl _, S.drop (by simp)⟩
abbrev failB (q : Nat) (c l : Int) : Chunk := [(q, Cells 59 [(0, .int .i64 c), (1, .int .i64 l)])]
theorem cl_pan (p q : Nat) {w0 : World} {G0 : Heap} {K0 : List Nat} {G : Heap} {w : World} {M0 : List Chunk} (HS : St w0 G0 K0 G w (failB q 0 0 :: bkB p BK0 AK0 :: M0)) :
    CallsD Tryz.prog 53 #[.pointer (some ⟨p, 0, none⟩), .pointer (some ⟨q, 0, none⟩)] (.panicking (thV TF bad10)) w fun e' u' w' => (∃ v, e' = .returned v) ∧ u' = .panicking [{ v := .iface TF bad10, recovered := true }] ∧ ∃ G', Heap.le G G' ∧ St w0 G0 K0 G' w' (failB q 10 0 :: bkB p BK0 AK0 :: M0) := by
  refine enterS Tryz.func53 rfl Tryz.ntmps53 rfl fun c₀ cs hu a HE => ?_
  apply wpS_seq
  apply wpS_region
  show wpOpsS _ _ _ [0, 1, 2, 3, 4, 5, 6, 7] _ _ _
  refine opsS_recover rfl rfl rfl HE rfl run_recover (fun h => by simp [recoverD, hu, thV] at h) (fun v cs' h a HE => ?_)
  obtain ⟨rfl, rfl⟩ : v = .iface TF bad10 ∧ cs' = { c₀ with mode := .panicking [{ v := .iface TF bad10, recovered := true }] } :: cs := by
    simp [recoverD, hu, thV] at h
    exact ⟨h.1.symm, h.2.symm⟩
  refine opsS_val (w' := w) (v := .tuple #[bad10, .bool true]) rfl rfl rfl HE rfl (by simp [execOp, HE.eval (x := .tmp 5) (v := .iface TF bad10) rfl, run_isFail]) fun a HE => ?_
  refine opsS_val (w' := w) (v := .tuple #[bad10, .bool true]) rfl rfl rfl HE rfl (by simp [execOp, HE.eval (x := .tmp 6) (v := .tuple #[bad10, .bool true]) rfl]) fun a HE => ?_
  refine opsS_val (w' := w) (v := bad10) rfl rfl rfl HE rfl (by simp [execOp, HE.eval (x := .tmp 4) (v := .tuple #[bad10, .bool true]) rfl, Instr.extract]) fun a HE => ?_
  refine opsS_val (w' := w) (v := .bool true) rfl rfl rfl HE rfl (by simp [execOp, HE.eval (x := .tmp 4) (v := .tuple #[bad10, .bool true]) rfl, Instr.extract]) fun a HE => ?_
  refine opsS_alloc rfl rfl HE rfl HS Tk.z59 fun B w1 a HS HE => ?_
  refine opsS_stA rfl HE HS rfl rfl rfl (by kernel_rfl) (.here .here) rfl fun w2 HS => ?_
  refine opsS_val (w' := w2) (v := .bool true) rfl rfl rfl HE rfl (by simp [execOp, HE.eval (x := .tmp 8) (v := .bool true) rfl]) fun a HE => ?_
  show Code.wpS _ _ _ _ _ _
  refine wpS_W ?_ HE HS
  refine go ?_
  refine w_det 3 (fun _ => _) rfl (fun f hf => rfl) (by kernel_rfl) ?_
  refine deg ?_
  refine .cons (fun f => rfl) rfl (fun f => p_build (cs := (bookC BK0 AK0).toArray) rfl rfl (by kernel_rfl)) (deg ?_)
  refine .eff rfl (fun f h1 h2 => e_stA rfl rfl rfl (.there (.there (.here .here))) rfl rfl ?_) (.nil ?_)
  · show UpdN (bkE BK0 AK0) 0 (bookC BK0 AK0) (bkE BK0 AK0)
    exact .cons .here (.cons (.there rfl .here) (.cons (.there rfl (.there rfl .here)) (.cons (.there rfl (.there rfl (.there rfl .here))) (.cons (.there rfl (.there rfl (.there rfl (.there rfl .here)))) (.cons (.there rfl (.there rfl (.there rfl (.there rfl (.there rfl .here))))) (.cons (.there rfl (.there rfl (.there rfl (.there rfl (.there rfl (.there rfl .here)))))) (.cons (.there rfl (.there rfl (.there rfl (.there rfl (.there rfl (.there rfl (.there rfl .here))))))) (.cons (.there rfl (.there rfl (.there rfl (.there rfl (.there rfl (.there rfl (.there rfl (.there rfl .here)))))))) (.cons (.there rfl (.there rfl (.there rfl (.there rfl (.there rfl (.there rfl (.there rfl (.there rfl (.there rfl .here))))))))) (.cons (.there rfl (.there rfl (.there rfl (.there rfl (.there rfl (.there rfl (.there rfl (.there rfl (.there rfl (.there rfl .here)))))))))) (.cons (.there rfl (.there rfl (.there rfl (.there rfl (.there rfl (.there rfl (.there rfl (.there rfl (.there rfl (.there rfl (.there rfl .here))))))))))) (.cons (.there rfl (.there rfl (.there rfl (.there rfl (.there rfl (.there rfl (.there rfl (.there rfl (.there rfl (.there rfl (.there rfl (.there rfl .here)))))))))))) (.cons (.there rfl (.there rfl (.there rfl (.there rfl (.there rfl (.there rfl (.there rfl (.there rfl (.there rfl (.there rfl (.there rfl (.there rfl (.there rfl .here))))))))))))) (.cons (.there rfl (.there rfl (.there rfl (.there rfl (.there rfl (.there rfl (.there rfl (.there rfl (.there rfl (.there rfl (.there rfl (.there rfl (.there rfl (.there rfl .here)))))))))))))) (.cons (.there rfl (.there rfl (.there rfl (.there rfl (.there rfl (.there rfl (.there rfl (.there rfl (.there rfl (.there rfl (.there rfl (.there rfl (.there rfl (.there rfl (.there rfl .here))))))))))))))) (.cons (.there rfl (.there rfl (.there rfl (.there rfl (.there rfl (.there rfl (.there rfl (.there rfl (.there rfl (.there rfl (.there rfl (.there rfl (.there rfl (.there rfl (.there rfl (.there rfl .here)))))))))))))))) .nil))))))))))))))))
  intro G3 hG3
  refine go ?_
  refine w_endS fun a w E S => ?_
  exact ⟨E.defers, .panicking [{ v := .iface TF bad10, recovered := true }], rfl, _, Res.nil.run rfl, ⟨_, rfl⟩, rfl, G3, hG3.le, S.drop (by simp)⟩
end Go.Proofs.YtngoaapgdfohjaaGreatDoor.T27
