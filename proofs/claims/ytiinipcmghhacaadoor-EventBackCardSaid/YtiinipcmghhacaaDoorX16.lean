/- The library's contracts, in the calculus' words. -/
import Derived.Test.YtiinipcmghhacaaDoorX15
import Derived.Test.YtiinipcmghhacaaDoorX14
import Derived.Lib.LaidTab
import Derived.Sort.Grow
import Derived.Deep.Draws
import Derived.Laws.BytesString
set_option linter.unusedVariables false
set_option linter.unusedSimpArgs false
namespace Go.Proofs.YtiinipcmghhacaaDoor.X
open Go
/-! ## The library's contracts, in the calculus' words -/
theorem Aft.grow {w : World} {G : Heap} (hG : Sub G w) (k : Nat) (os : Array Obj) : Aft w G [] (Go.Sort.grow (w.drewN k) os) G [] where
  os := rfl
  tape := rfl
  output := rfl
  size := by simp [Go.Sort.grow, World.drewN]
  kept := fun b hb _ => by
    show (w.heap ++ os)[b]? = _
    rw [Array.getElem?_append_left hb]
  le := Heap.le.refl _
  new := fun b o h => .inl h
  sub := fun b o h => by
    show (w.heap ++ os)[b]? = _
    rw [Array.getElem?_append_left (hG.lt h)]
    exact hG b o h
  mem := by simp
  sep := by simp
  own := by simp
  nodup := by simp
theorem Aft.same {w : World} {G : Heap} (hG : Sub G w) : Aft w G [] w G [] where
  os := rfl
  tape := rfl
  output := rfl
  size := Nat.le_refl _
  kept := fun _ _ _ => rfl
  le := Heap.le.refl _
  new := fun b o h => .inl h
  sub := hG
  mem := by simp
  sep := by simp
  own := by simp
  nodup := by simp
theorem calls_grow {P : Program} {f : FuncId} {args : Array Value} {w : World} {G : Heap} {x : Value} (hG : Sub G w) (h : Calls P f args w fun e w' => e = .returned x ∧ ∃ k os, w' = Go.Sort.grow (w.drewN k) os) : Calls P f args w (Ret w G (fun v _ => v = x)) :=
  h.mono fun e w' ⟨he, k, os, hw⟩ => by
    subst he; subst hw
    exact ⟨G, [], Aft.grow hG k os, rfl, rfl⟩
theorem calls_same {P : Program} {f : FuncId} {args : Array Value} {w : World} {G : Heap} {x : Value} (hG : Sub G w) (h : Calls P f args w fun e w' => e = .returned x ∧ w' = w) : Calls P f args w (Ret w G (fun v _ => v = x)) :=
  h.mono fun e w' ⟨he, hw⟩ => by
    subst he; subst hw
    exact ⟨G, [], Aft.same hG, rfl, rfl⟩
/-- A listed table. -/
def TabG (G : Heap) (g : Nat) (k : IntKind) (zs : List Int) : Prop := ∃ t fr, G g = some (.cells (zs.map fun z => Value.int k z).toArray t fr)
theorem TabG.le {G G' : Heap} (h : Heap.le G G') {g : Nat} {k : IntKind} {zs : List Int} (ht : TabG G g k zs) : TabG G' g k zs := by
  obtain ⟨t, fr, h1⟩ := ht
  exact ⟨t, fr, h _ _ h1⟩
theorem TabG.is {P : Program} {G : Heap} {w : World} (hG : Sub G w) {nm : String} {g : Nat} {k : IntKind} {zs : List Int} (hn : P.globalNamed nm = some g) (ht : TabG G g k zs) : Lib.TabIs P w nm k zs := by
  obtain ⟨t, fr, h1⟩ := ht
  have h2 := hG _ _ h1
  unfold Lib.TabIs World.var?
  simp [hn, h2]
theorem tab_of {P : Program} {w : World} {nm : String} {g : Nat} {cs : Array Value} {k : IntKind} {zs : List Int} (hn : P.globalNamed nm = some g) (hv : w.var? P nm = some cs) (e : cs.toList = zs.map fun z => Value.int k z) : TabG (hp w) g k zs := by
  unfold World.var? at hv
  simp only [hn, Option.bind_some] at hv
  unfold TabG hp
  split at hv
  · rename_i c t fr hb
    have e2 : cs = (zs.map fun z => Value.int k z).toArray := by rw [← e]
    refine ⟨t, fr, ?_⟩
    rw [hb]
    simp only [Option.some.injEq] at hv
    rw [hv, e2]
  · cases hv
def b2s (P : Program) (src dst : TypeId) : Bool := match P.underlying src with
  | some (.slice e) => (match P.underlying e with | some (.int .u8) => true | _ => false) && (match P.underlying dst with | some .string => true | _ => false)
  | _ => false
section
variable {P : Program} {w0 : World} {G0 : Heap} {K0 : List Nat} {G : Heap} {w : World} {M : List Chunk}
variable {Q : Exit → Act → World → Prop} {a : Act} {N : Nat} {D : List Deferred} {L : List (Nat × Value)} {ops : Array Oper} {rest : List Oper}
variable {d : Nat} {ty : TypeId} {pos : String} {af : Array Edge}
theorem foldl_push : ∀ (ns : List Int) (s : ByteArray), ns.foldl (fun r n => r.push (UInt8.ofNat n.toNat)) s = ⟨s.data ++ (ns.map fun n => UInt8.ofNat n.toNat).toArray⟩
  | [], s => by simp
  | n :: ns, s => by
    rw [List.foldl_cons, foldl_push ns]
    simp [ByteArray.push]
theorem o_b2s {src dst T : TypeId} {x : Operand} {b c : Nat} {ns : List Int} {Lb : List (Nat × Value)} (hE : Env a N D L) (hN : Nat.blt d N = true) (hS : St w0 G0 K0 G w M) (hx : ev L x = some (.slice (some ⟨b, 0, none⟩) ns.length c)) (ht : b2s P src dst = true)
    (hI : InM M b (Cells T Lb)) (hl : lks Lb 0 ns.length = some (ns.map (Value.int .u8))) (k : ∀ a', Env a' N D ((d, str (ns.map fun n => UInt8.ofNat n.toNat)) :: L) → wpList P ops Q rest a' w) :
    wpList P ops Q (⟨some d, .convert src dst x, ty, pos, af, none⟩ :: rest) a w :=
  op_val rfl rfl hE hN (by
    unfold b2s at ht
    split at ht
    · rename_i e hu
      simp only [Bool.and_eq_true] at ht
      have he : P.underlying e = some (.int .u8) := by
        have := ht.1
        split at this
        · assumption
        · cases this
      have hd : P.underlying dst = some .string := by
        have := ht.2
        split at this
        · assumption
        · cases this
      obtain ⟨_, h2⟩ := lks_get _ _ _ hl
      have hcs : ∀ j u, (ns.map (Value.int .u8))[j]? = some u → w.cell? ((⟨b, 0, none⟩ : Addr).add j) = some u := fun j u hj => by
        rw [addAt]
        exact hS.cell hI (h2 j u hj)
      have h3 : (loadCells ⟨b, 0, none⟩ ns.length).run P w = .ok (ns.map (Value.int .u8)).toArray w := by
        have := run_firstCells_some (P := P) w 1 ns.length ⟨b, 0, none⟩ ns.length c (ns.map (Value.int .u8)) (by simp) hcs
        simpa [Builtin.firstCells] using this
      have h4 := run_bytesToString (P := P) w ⟨b, 0, none⟩ ns.length c ns h3
      rw [foldl_push] at h4
      have h5 : (convert src dst (.slice (some ⟨b, 0, none⟩) ns.length c)).run P w = .ok (str (ns.map fun n => UInt8.ofNat n.toNat)) w := by
        rw [run_convert_bytes_string w src dst e _ _ _ hu he hd, h4]
        have e0 : (ByteArray.empty.data ++ (ns.map fun n => UInt8.ofNat n.toNat).toArray) = (ns.map fun n => UInt8.ofNat n.toNat).toArray := by
          show ((#[] : Array UInt8) ++ _) = _
          simp
        rw [e0]
      simp [execOp, hE.eval hx, h5]
    · cases ht) k
end
end Go.Proofs.YtiinipcmghhacaaDoor.X
