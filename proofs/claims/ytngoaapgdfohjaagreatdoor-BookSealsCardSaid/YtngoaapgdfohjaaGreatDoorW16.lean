/- Own text. -/
import Derived.Test.YtngoaapgdfohjaaGreatDoorW15
set_option linter.unusedVariables false
set_option linter.unusedSimpArgs false
set_option maxRecDepth 100000
set_option maxHeartbeats 4000000
namespace Go.Proofs.YtngoaapgdfohjaaGreatDoor.T27
open Go Go.Proofs.YtngoaapgdfohjaaGreatDoor.X Go.Proofs Go.Proofs.YtngoaapgdfohjaaGreatDoor.T28 Go.Proofs.YtngoaapgdfohjaaGreatDoor.TS Go.Proofs.YtngoaapgdfohjaaGreatDoor.TK
/-! ## Digests compared -/
theorem bv_of {a : Int} (h : 0 ≤ a ∧ a ≤ 255) : (BitVec.ofInt 8 a).toNat = a.toNat := by
  rw [BitVec.toNat_ofInt]
  have : a % ((2 ^ 8 : Nat) : Int) = a := Int.emod_eq_of_lt h.1 (by show a < 256; omega)
  rw [this]
theorem wrap_bv (x : BitVec 8) : IntKind.u8.wrap (x.toNat : Int) = (x.toNat : Int) := wrap_u8 ⟨by omega, by have := x.isLt; omega⟩
theorem xor_zero {a b : Int} (ha : 0 ≤ a ∧ a ≤ 255) (hb : 0 ≤ b ∧ b ≤ 255) : bXor .u8 a b = 0 ↔ a = b := by
  show IntKind.u8.wrap ((BitVec.ofInt 8 a ^^^ BitVec.ofInt 8 b).toNat : Int) = 0 ↔ _
  rw [wrap_bv]
  constructor
  · intro h
    have h2 : BitVec.ofInt 8 a ^^^ BitVec.ofInt 8 b = 0#8 := BitVec.eq_of_toNat_eq (by simpa using h)
    have h3 : BitVec.ofInt 8 a = BitVec.ofInt 8 b := by simpa using h2
    have := congrArg BitVec.toNat h3
    rw [bv_of ha, bv_of hb] at this
    omega
  · rintro rfl
    simp
theorem xor_rng (a b : Int) : 0 ≤ bXor .u8 a b ∧ bXor .u8 a b ≤ 255 := by
  show 0 ≤ IntKind.u8.wrap ((BitVec.ofInt 8 a ^^^ BitVec.ofInt 8 b).toNat : Int) ∧ IntKind.u8.wrap ((BitVec.ofInt 8 a ^^^ BitVec.ofInt 8 b).toNat : Int) ≤ 255
  rw [wrap_bv]
  have := (BitVec.ofInt 8 a ^^^ BitVec.ofInt 8 b).isLt
  omega
theorem or_rng (a b : Int) : 0 ≤ bOr .u8 a b ∧ bOr .u8 a b ≤ 255 := by
  show 0 ≤ IntKind.u8.wrap ((BitVec.ofInt 8 a ||| BitVec.ofInt 8 b).toNat : Int) ∧ IntKind.u8.wrap ((BitVec.ofInt 8 a ||| BitVec.ofInt 8 b).toNat : Int) ≤ 255
  rw [wrap_bv]
  have := (BitVec.ofInt 8 a ||| BitVec.ofInt 8 b).isLt
  omega
theorem or_zero {a b : Int} (ha : 0 ≤ a ∧ a ≤ 255) (hb : 0 ≤ b ∧ b ≤ 255) : bOr .u8 a b = 0 ↔ a = 0 ∧ b = 0 := by
  show IntKind.u8.wrap ((BitVec.ofInt 8 a ||| BitVec.ofInt 8 b).toNat : Int) = 0 ↔ _
  rw [wrap_bv]
  constructor
  · intro h
    have h2 : BitVec.ofInt 8 a ||| BitVec.ofInt 8 b = 0#8 := BitVec.eq_of_toNat_eq (by simpa using h)
    rw [BitVec.or_eq_zero_iff] at h2
    have e1 := congrArg BitVec.toNat h2.1
    have e2 := congrArg BitVec.toNat h2.2
    rw [bv_of ha] at e1
    rw [bv_of hb] at e2
    simp at e1 e2
    omega
  · rintro ⟨rfl, rfl⟩
    rfl
section
variable {P : Program} {N : Nat} {D : List Deferred} {w0 : World} {G0 : Heap} {K0 : List Nat} {ops : Array Oper} {G : Heap} {L : List (Nat × Value)} {M : List Chunk} {d : Nat} {ty : TypeId} {pos : String} {af : Array Edge} {x y : Operand}
theorem p_eqA1 {a c : Int} {t t' : Nat} {k : IntKind} [q : EqG P t [.int k]] (hN : Nat.blt d N = true) (hx : ev L x = some (.agg #[.int k a])) (hy : ev L y = some (.agg #[.int k c])) : Stp P N D w0 G0 K0 ops G L M ⟨some d, .binOp .eql t x y t', ty, pos, af, none⟩ d (.bool (decide (a = c))) :=
  Stp.pure fun Q rest a' w G2 hl2 E S kk => o_eqG E hN hx hy q.h (by simp [fitL]) (by simp [eqVs, eqV]) kk
end
def byteL (xs : List Int) : Prop := ∀ i, 0 ≤ xs.getD i 0 ∧ xs.getD i 0 ≤ 255
theorem c_MacSame (xs ys : List Int) (A B : Option Addr) (c c' : Nat) (hx : byteL xs) (hy : byteL ys) (hl : xs.length ≤ 1000000) (G : Heap) (hR : Rd (Knd.int .u8) G A xs) (hR2 : Rd (Knd.int .u8) G B ys) : FnP Tryz.prog 62 [.slice A xs.length c, .slice B ys.length c'] G (.bool (decide (xs = ys))) := by
  refine fnP_in Tryz.func62 rfl Tryz.ntmps62 rfl fun w0 Q0 hQ => ?_
  refine go ?_
  refine w_cd rfl (fun h => ?_) (fun h => ?_)
  · refine go ?_
    refine w_ret hQ ?_
    rw [decide_eq_false (fun e => h (by rw [e]))]; rfl
  have hll : xs.length = ys.length := by omega
  refine go ?_; intro B5
  refine go ?_; intro B6
  refine go ?_
  refine w_loop (fun x : Nat × Int => [(15, .int .i64 (x.1 : Int))]) (fun x => [[(B6, Arr 154 [.int .u8 0])], [(B5, Arr 154 [.int .u8 x.2])]]) (fun x _ => x.1 ≤ xs.length ∧ (0 ≤ x.2 ∧ x.2 ≤ 255) ∧ (x.2 = 0 ↔ ∀ j, j < x.1 → xs.getD j 0 = ys.getD j 0)) (fun x => xs.length - x.1) (0, 0) ⟨by omega, ⟨by decide, by decide⟩, ⟨fun _ j hj => absurd hj (Nat.not_lt_zero _), fun _ => rfl⟩⟩ ?_
  rintro ⟨i, r⟩ G1 _ ⟨hi, hr, hall⟩
  dsimp only at hi hr hall ⊢
  refine go ?_
  refine w_cd rfl (fun h3 => ?_) (fun h3 => ?_)
  · have hi' : i < xs.length := by omega
    have hi2 : i < ys.length := by omega
    refine go ?_
    refine w_dt 12 (by kernel_rfl) ?_
    refine dg ?_
    refine go ?_
    have hxr := xor_rng (xs.getD i 0) (ys.getD i 0)
    refine w_again (i + 1, bOr .u8 r (bXor .u8 (xs.getD i 0) (ys.getD i 0))) ⟨by dsimp only; omega, or_rng _ _, ?_⟩ (by dsimp only; omega)
    dsimp only
    rw [or_zero hr hxr, xor_zero (hx i) (hy i), hall]
    constructor
    · rintro ⟨h1, h2⟩ j hj
      rcases Nat.lt_or_ge j i with h4 | h4
      · exact h1 j h4
      · obtain rfl : j = i := by omega
        exact h2
    · intro h1
      exact ⟨fun j hj => h1 j (by omega), h1 i (by omega)⟩
  · obtain rfl : i = xs.length := by omega
    refine go ?_
    refine w_stp (p_eqA1 (a := r) (c := 0) rfl rfl rfl) ?_
    refine go ?_
    refine w_ret hQ ?_
    have e : (r = 0) ↔ xs = ys := by
      rw [hall]
      constructor
      · intro h1
        refine List.ext_getElem hll fun j h2 h3 => ?_
        have := h1 j h2
        rwa [List.getD_eq_getElem?_getD, List.getD_eq_getElem?_getD, List.getElem?_eq_getElem h2, List.getElem?_eq_getElem h3] at this
      · rintro rfl j _
        rfl
    rw [decide_eq_decide.2 e]; rfl
end Go.Proofs.YtngoaapgdfohjaaGreatDoor.T27
