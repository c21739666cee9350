/- Panics, and deferred calls that recover. -/
import Derived.Test.YtiinipcmghhacaaDoorX12
import Derived.Recover
import Derived.Orders
import Derived.WideLaws
import Derived.Laws.Externs
set_option linter.unusedVariables false
set_option linter.unusedSimpArgs false
namespace Go.Proofs.YtiinipcmghhacaaDoor.X
open Go
/-! ## Panics, and deferred calls -/
def notIf (P : Program) (t : TypeId) : Bool := match P.underlying t with
  | some (.interface _) => false
  | some _ => true
  | none => false
/-- The panic of a fault `e` of type `T`. -/
abbrev thrown (T : TypeId) (e : Int) : List PanicEntry := [{ v := .iface T (.int .i64 e), recovered := false }]
/-- It hands back, or throws a fault, as `spec` says. -/
abbrev Throws (w : World) (G : Heap) (T : TypeId) (R : Value → Heap → Prop) (E : Int → Prop) : Ending → World → Prop :=
  Ends w G [] (fun v G' M' => M' = [] ∧ R v G') (fun c _ M' => M' = [] ∧ ∃ e, E e ∧ c = thrown T e)
section
variable {P : Program} {w0 : World} {G0 : Heap} {K0 : List Nat} {G : Heap} {w : World} {M : List Chunk}
variable {Q : Exit → Act → World → Prop} {a : Act} {N : Nat} {D : List Deferred} {L : List (Nat × Value)} {ops : Array Oper} {rest : List Oper}
variable {d : Nat} {ty : TypeId} {pos : String} {af : Array Edge}
theorem o_mkIf {t : TypeId} {x : Operand} {v : Value} (hE : Env a N D L) (hN : Nat.blt d N = true) (hx : ev L x = some v) (ht : notIf P t = true) (k : ∀ a', Env a' N D ((d, .iface t v) :: L) → wpList P ops Q rest a' w) :
    wpList P ops Q (⟨some d, .makeInterface t x, ty, pos, af, none⟩ :: rest) a w :=
  op_val rfl rfl hE hN (by
    have h : (Instr.makeInterface t v).run P w = .ok (.iface t v) w := by
      unfold notIf at ht
      cases hu : P.underlying t with
      | none => simp [hu] at ht
      | some td => cases td <;> simp [hu] at ht <;> simp [Instr.makeInterface, run_underlying hu]
    simp [execOp, hE.eval hx, h]) k
theorem o_panic {x : Operand} {t : TypeId} {v : Value} (hE : Env a N D L) (hx : ev L x = some (.iface t v)) (k : Q (.panic [{ v := .iface t v, recovered := false }]) a w) :
    wpList P ops Q (⟨none, .panic x, ty, pos, af, none⟩ :: rest) a w :=
  wpList_plain rfl fun K hK => by
    unfold Oper.wp
    have h : (Instr.panic (.iface t v)).run P w = .halt (.panic (.iface t v)) w := rfl
    simp [execOp, hE.eval hx, h]
    exact k
/-- A call that hands back, or throws. -/
theorem o_callE {f : Nat} {x : Operand} {xs : Array Operand} {ats : Array TypeId} {us vs cs : List Value} {R : Value → Heap → Prop} {T : TypeId} {E : Int → Prop} (hE : Env a N D L) (hN : Nat.blt d N = true) (hS : St w0 G0 K0 G w M) (hx : ev L x = some (.func (.func f) us.toArray cs.toArray)) (hv : evs L xs.toList = some vs) (hf : goFn P f = true)
    (hc : Calls P f (us ++ vs ++ cs).toArray w (Throws w G T R E)) (kp : ∀ e G' w', St w0 G0 K0 G' w' M → Heap.le G G' → E e → Q (.panic (thrown T e)) a w') (k : ∀ v G' w' a', St w0 G0 K0 G' w' M → Heap.le G G' → R v G' → Env a' N D ((d, v) :: L) → wpList P ops Q rest a' w') :
    wpList P ops Q (⟨some d, .call ⟨.value x, xs, ats⟩, ty, pos, af, none⟩ :: rest) a w :=
  wpList_plain rfl fun K hK => by
    unfold Oper.wp
    rw [run_callOp hE hx hv hf, Oper.upon_enter]
    refine hc.mono fun e w' he => ?_
    cases e with
    | returned v =>
      obtain ⟨G', M2, ha, rfl, hR⟩ := he
      exact hK _ _ (k v G' w' _ (hS.called0 ha) ha.le hR (hE.put hN v))
    | panicked c =>
      obtain ⟨G', M2, ha, rfl, e, hR, rfl⟩ := he
      exact kp e G' w' (hS.called0 ha) ha.le hR
    | outgrown => exact he.elim
theorem o_defer {x : Operand} {f : Nat} {us cs : List Value} {ats : Array TypeId} (hE : Env a N D L) (hx : ev L x = some (.func (.func f) us.toArray cs.toArray)) (k : ∀ a', Env a' N (⟨.fn (.func f) cs.toArray, us.toArray⟩ :: D) L → wpList P ops Q rest a' w) :
    wpList P ops Q (⟨none, .defer ⟨.value x, #[], ats⟩, ty, pos, af, none⟩ :: rest) a w :=
  wpList_plain rfl fun K hK => by
    unfold Oper.wp
    simp [execOp, resolve, hE.eval hx, Deferred.ofValue]
    exact hK _ _ (k _ (hE.defer _))
/-- Leaving with a fault, where nothing is deferred. -/
theorem throwX {fn : Func} {R : Ending → World → Prop} {c : List PanicEntry} (hQ : ∀ e a w, bodyPost P fn R e a w → Q e a w) (hE : Env a N [] L) (hR : R (.panicked c) w) : Q (.panic c) a w := hQ _ _ _ ⟨hE.defers, hR⟩
/-- One way of many orders. -/
theorem any_node {l : List Nat} {fuel : Nat} {md : Region.Mode} {listed : Array Bool} (hr : Region.ready md ops listed = l) (hne : l ≠ []) (h : ∀ i ∈ l, wpOp P ops Q i (wpAny P md ops Q fuel (listed.setIfInBounds i true)) a w) : wpAny P md ops Q (fuel + 1) listed a w :=
  ⟨fun h0 => absurd (hr.symm.trans h0) hne, fun i hi => h i (hr ▸ hi)⟩
theorem any_end {fuel : Nat} {md : Region.Mode} {listed : Array Bool} (hr : Region.ready md ops listed = []) (h : Q .normal a w) : wpAny P md ops Q fuel listed a w := by
  cases fuel with
  | zero => exact ⟨hr, h⟩
  | succ n => exact ⟨fun _ => h, fun i hi => by rw [hr] at hi; cases hi⟩
theorem any_op {i : Nat} {o : Oper} {K : Act → World → Prop} (ho : ops[i]? = some o) (h : wpList P ops (Exit.then K Q) [o] a w) : wpOp P ops Q i K a w := by
  unfold wpOp
  rw [ho]
  simp only
  unfold wpList at h
  by_cases hw : Region.wanted o (yielded ops a.tmps) = true
  · rw [if_pos hw] at h ⊢
    rcases h with h | ⟨h1, a', w', hq⟩
    · exact .inl (wp_exits (fun _ _ _ h => h) (fun ⟨a, w, h⟩ => ⟨a, w, h⟩) h)
    · exact .inr ⟨h1, a', w', hq⟩
  · rw [if_neg hw] at h ⊢
    exact h
theorem any_next {fuel i : Nat} {md : Region.Mode} {l1 l2 : Array Bool} {Q' : Exit → Act → World → Prop} (e : l1.setIfInBounds i true = l2) (h : wpAny P md ops Q fuel l2 a w) : wpList P ops (Exit.then (wpAny P md ops Q fuel (l1.setIfInBounds i true)) Q') [] a w := by
  subst e
  exact h
theorem enterD {f : FuncId} {fn : Func} {c : Code} {args : Array Value} {R : Ending → World → Prop} (hf : P.funcs[f]? = some fn) (hb : fn.body = some c) (hn : fn.ntmps = N) (hN : Nat.ble args.size N = true)
    (h : ∀ Q : Exit → Act → World → Prop, (∀ e a w, bodyPostD P fn R e a w → Q e a w) → ∀ a, Env a N [] (argEnv 0 args.toList) → c.wp P Q a w) : Calls P f args w R := by
  refine calls_of_wp_defers hf hb ?_
  subst hn
  exact h _ (fun _ _ _ h => h) _ (Env.start args _ (Nat.le_of_ble_eq_true hN))
theorem enterS {f : FuncId} {fn : Func} {c : Code} {args : Array Value} {u : FrameMode} {R : Ending → FrameMode → World → Prop} (hf : P.funcs[f]? = some fn) (hb : fn.body = some c) (hn : fn.ntmps = N) (hN : Nat.ble args.size N = true)
    (h : ∀ (c₀ : Frame) (cs : List Frame), c₀.mode = u → ∀ a, Env a N [] (argEnv 0 args.toList) → c.wpS P (bodyPostS P fn c₀ cs R) a (c₀ :: cs) w) : CallsD P f args u w R := by
  refine callsD_of_wpS hf hb fun c₀ cs hu => ?_
  subst hn
  exact h c₀ cs hu _ (Env.start args _ (Nat.le_of_ble_eq_true hN))
variable {QS : Exit → Act → List Frame → World → Prop} {cs : List Frame} {l : List Nat}
theorem opsS_val {i : Nat} {o : Oper} {v : Value} {w' : World} (ho : ops[i]? = some o) (hg : o.guard = none) (hd : o.dst = some d) (hE : Env a N D L) (hN : Nat.blt d N = true) (hr : (execOp a.eval o).run P w = .ok (.value v) w') (k : ∀ a', Env a' N D ((d, v) :: L) → wpOpsS P ops QS l a' cs w') : wpOpsS P ops QS (i :: l) a cs w := by
  unfold wpOpsS
  have hw : Region.wanted o (yielded ops a.tmps) = true := by simp [Region.wanted, hg]
  simp only [ho, hw, if_true, hr]
  rw [Oper.upon_value, hd]
  exact k _ (hE.put hN v)
theorem opsS_recover {i : Nat} {o : Oper} (ho : ops[i]? = some o) (hg : o.guard = none) (hd : o.dst = some d) (hE : Env a N D L) (hN : Nat.blt d N = true) (hr : (execOp a.eval o).run P w = .ok .recover w)
    (k0 : recoverD cs = none → ∀ a', Env a' N D ((d, .nilIface) :: L) → wpOpsS P ops QS l a' cs w) (k1 : ∀ v cs', recoverD cs = some (v, cs') → ∀ a', Env a' N D ((d, v) :: L) → wpOpsS P ops QS l a' cs' w) : wpOpsS P ops QS (i :: l) a cs w := by
  unfold wpOpsS
  have hw : Region.wanted o (yielded ops a.tmps) = true := by simp [Region.wanted, hg]
  simp only [ho, hw, if_true, hr]
  cases hc : recoverD cs with
  | none => simp only; rw [hd]; exact k0 hc _ (hE.put hN _)
  | some x => obtain ⟨v, cs'⟩ := x; simp only; rw [hd]; exact k1 v cs' hc _ (hE.put hN v)
theorem run_recover {ats : Array TypeId} {g : Option (Nat × Bool)} {dst : Option Nat} : (execOp a.eval ⟨dst, .call ⟨.builtin .recover, #[], ats⟩, ty, pos, af, g⟩).run P w = .ok .recover w := by
  simp [execOp, resolve, invoke, builtin]
theorem run_isNil {t t' : TypeId} {x : Operand} {g : Option (Nat × Bool)} {dst : Option Nat} (hE : Env a N D L) (hx : ev L x = some .nilIface) (ht : P.underlying t = some (.interface (P.methodsAt t))) : (execOp a.eval ⟨dst, .binOp .neq t x (.const .nilIface) t', ty, pos, af, g⟩).run P w = .ok (.value (.bool false)) w := by
  have e2 : a.eval (.const .nilIface) = .nilIface := rfl
  have h1 : (eqGuard .neq t x (.const .nilIface) .nilIface .nilIface).run P w = .ok () w := by simp [eqGuard]
  have h2 : (binOp .neq t .nilIface .nilIface).run P w = .ok (.bool false) w := by simp [binOp, run_equal_nil_nil, ht]
  simp [execOp, hE.eval hx, e2, h1, h2]
theorem run_isThere {t t' u : TypeId} {v : Value} {x : Operand} {g : Option (Nat × Bool)} {dst : Option Nat} (hE : Env a N D L) (hx : ev L x = some (.iface u v)) (ht : P.underlying t = some (.interface (P.methodsAt t))) : (execOp a.eval ⟨dst, .binOp .neq t x (.const .nilIface) t', ty, pos, af, g⟩).run P w = .ok (.value (.bool true)) w := by
  have e2 : a.eval (.const .nilIface) = .nilIface := rfl
  have h1 : (eqGuard .neq t x (.const .nilIface) (.iface u v) .nilIface).run P w = .ok () w := by simp [eqGuard]
  have h2 : (binOp .neq t (.iface u v) .nilIface).run P w = .ok (.bool true) w := by simp [binOp, run_equal_held_nil, ht]
  simp [execOp, hE.eval hx, e2, h1, h2]
theorem o_assert {t u : TypeId} {v : Value} {x : Operand} (hE : Env a N D L) (hN : Nat.blt d N = true) (hx : ev L x = some (.iface u v)) (ht : notIf P u = true) (k : ∀ a', Env a' N D ((d, v) :: L) → wpList P ops Q rest a' w) : wpList P ops Q (⟨some d, .typeAssert x t u false, ty, pos, af, none⟩ :: rest) a w :=
  op_val rfl rfl hE hN (by
    have h : (Instr.typeAssert (.iface u v) t u false).run P w = .ok v w := by
      unfold notIf at ht
      cases hu : P.underlying u with
      | none => simp [hu] at ht
      | some td => cases td <;> simp [hu] at ht <;> simp [Instr.typeAssert, run_underlying hu]
    simp [execOp, hE.eval hx, h]) k
theorem wrap_u64 {n : Int} (h : 0 ≤ n ∧ n ≤ 18446744073709551615) : IntKind.u64.wrap n = n := by
  show (n % (18446744073709551616 : Int)) = n
  omega
theorem wrap_u8 {n : Int} (h : 0 ≤ n ∧ n ≤ 255) : IntKind.u8.wrap n = n := by
  show (n % (256 : Int)) = n
  omega
theorem wrap_i64 {n : Int} (h : -9223372036854775808 ≤ n ∧ n ≤ 9223372036854775807) : IntKind.i64.wrap n = n := IntWalk.i64_in _ h
section
variable {t t' : TypeId} {x y : Operand} {q : IntKind} {i j : Int} (hE : Env a N D L) (hN : Nat.blt d N = true) (hx : ev L x = some (.int q i)) (hy : ev L y = some (.int q j))
include hE hN hx hy
theorem o_addF (h : q.wrap (i + j) = i + j) (k : ∀ a', Env a' N D ((d, .int q (i + j)) :: L) → wpList P ops Q rest a' w) : wpList P ops Q (⟨some d, .binOp .add t x y t', ty, pos, af, none⟩ :: rest) a w :=
  o_addW hE hN hx hy (by rw [h]; exact k)
theorem o_subF (h : q.wrap (i - j) = i - j) (k : ∀ a', Env a' N D ((d, .int q (i - j)) :: L) → wpList P ops Q rest a' w) : wpList P ops Q (⟨some d, .binOp .sub t x y t', ty, pos, af, none⟩ :: rest) a w :=
  o_subW hE hN hx hy (by rw [h]; exact k)
theorem o_mulF (h : q.wrap (i * j) = i * j) (k : ∀ a', Env a' N D ((d, .int q (i * j)) :: L) → wpList P ops Q rest a' w) : wpList P ops Q (⟨some d, .binOp .mul t x y t', ty, pos, af, none⟩ :: rest) a w :=
  o_mulW hE hN hx hy (by rw [h]; exact k)
theorem o_quoT (h0 : j ≠ 0) (h : q.wrap (i.tdiv j) = i.tdiv j) (k : ∀ a', Env a' N D ((d, .int q (i.tdiv j)) :: L) → wpList P ops Q rest a' w) : wpList P ops Q (⟨some d, .binOp .quo t x y t', ty, pos, af, none⟩ :: rest) a w :=
  o_quoW hE hN hx hy h0 (by rw [h]; exact k)
theorem o_quoF (h0 : j ≠ 0) (h : q.wrap (i.tdiv j) = i / j) (k : ∀ a', Env a' N D ((d, .int q (i / j)) :: L) → wpList P ops Q rest a' w) : wpList P ops Q (⟨some d, .binOp .quo t x y t', ty, pos, af, none⟩ :: rest) a w :=
  o_quoW hE hN hx hy h0 (by rw [h]; exact k)
end
theorem o_negF {t : TypeId} {x : Operand} {q : IntKind} {i : Int} (hE : Env a N D L) (hN : Nat.blt d N = true) (hx : ev L x = some (.int q i)) (h : q.wrap (-i) = -i) (k : ∀ a', Env a' N D ((d, .int q (-i)) :: L) → wpList P ops Q rest a' w) : wpList P ops Q (⟨some d, .unOp .neg t x, ty, pos, af, none⟩ :: rest) a w :=
  o_neg hE hN hx (fun a' hE' => k a' (by
    have e : 0 - i = -i := by omega
    first | (rw [e, h] at hE'; exact hE') | (rw [h] at hE'; exact hE')))
def convOk (P : Program) (src dst : TypeId) (q : IntKind) : Bool := (P.underlying src).isSome && match P.underlying dst with
  | some (.int k) => k == q
  | _ => false
theorem o_conv {src dst : TypeId} {x : Operand} {q q' : IntKind} {i : Int} (hE : Env a N D L) (hN : Nat.blt d N = true) (hx : ev L x = some (.int q i)) (ht : convOk P src dst q' = true) (h : q'.wrap i = i) (k : ∀ a', Env a' N D ((d, .int q' i) :: L) → wpList P ops Q rest a' w) :
    wpList P ops Q (⟨some d, .convert src dst x, ty, pos, af, none⟩ :: rest) a w :=
  op_val rfl rfl hE hN (by
    unfold convOk at ht
    simp only [Bool.and_eq_true] at ht
    obtain ⟨h1, h2⟩ := ht
    cases hs : P.underlying src with
    | none => simp [hs] at h1
    | some ts =>
      cases hd : P.underlying dst with
      | none => simp [hd] at h2
      | some td =>
        cases td <;> simp [hd] at h2
        rename_i k0
        obtain rfl : k0 = q' := by simpa using h2
        have h3 : (convert src dst (.int q i)).run P w = .ok (.int k0 i) w := by
          simp [convert, run_underlying hs, run_underlying hd, Conv.intToInt, h]
        simp [execOp, hE.eval hx, h3]) k
def okv : Except Int Int → Int
  | .ok n => n
  | .error _ => 0
def erv : Except Int Int → Int
  | .ok _ => 0
  | .error e => e
/-- A call of a function that the model carries out itself. -/
theorem o_ext {f : Nat} {fn : Func} {e : Array Value → Sem Value} {x : Operand} {xs : Array Operand} {ats : Array TypeId} {vs : List Value} {v : Value} (hE : Env a N D L) (hN : Nat.blt d N = true) (hx : ev L x = some (.func (.func f) #[] #[])) (hv : evs L xs.toList = some vs)
    (hf : P.funcs[f]? = some fn) (h1 : (fn.name == "runtime.NumGoroutine") = false) (h2 : fn.body.isNone = true) (h3 : Extern.findNext fn = none) (h4 : Extern.find fn = some e) (hr : (e vs.toArray).run P w = .ok v w) (k : ∀ a', Env a' N D ((d, v) :: L) → wpList P ops Q rest a' w) :
    wpList P ops Q (⟨some d, .call ⟨.value x, xs, ats⟩, ty, pos, af, none⟩ :: rest) a w :=
  op_val rfl rfl hE hN (by
    have e1 : xs.map a.eval = vs.toArray := hE.evalA hv
    have hc : (callFunc f vs.toArray).run P w = .ok (.value v) w := by rw [run_callFunc_extern hf h1 h2 h3 h4, hr]; rfl
    simp [execOp, resolve, hE.eval hx, Deferred.ofValue, e1, invoke, hc]) k
end
end Go.Proofs.YtiinipcmghhacaaDoor.X
