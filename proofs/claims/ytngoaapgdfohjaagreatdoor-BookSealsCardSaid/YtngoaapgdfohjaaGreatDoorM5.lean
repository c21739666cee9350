/- Own text. -/
import Derived.Test.YtngoaapgdfohjaaGreatDoorK18
import Derived.Test.YtngoaapgdfohjaaGreatDoorY12
set_option linter.unusedVariables false
set_option linter.unusedSimpArgs false
set_option maxRecDepth 100000
namespace Go.Proofs.YtngoaapgdfohjaaGreatDoor.TK
open Go Go.Proofs.YtngoaapgdfohjaaGreatDoor.X
/-! ## Words of 32 bits in words of 64 -/
theorem wr32 (n : Int) : IntKind.u32.wrap n = n % 4294967296 := by simp [IntKind.wrap, IntKind.signed, IntKind.bits]
theorem wr64 (n : Int) : IntKind.u64.wrap n = n % 18446744073709551616 := by simp [IntKind.wrap, IntKind.signed, IntKind.bits]
theorem wr8 (n : Int) : IntKind.u8.wrap n = n % 256 := by simp [IntKind.wrap, IntKind.signed, IntKind.bits]
theorem or32 (a b : Nat) (ha : a < 4294967296) (hb : b < 4294967296) : bOr .u32 a b = ((a ||| b : Nat) : Int) := by
  have h : a ||| b < 2 ^ 32 := Nat.or_lt_two_pow ha hb
  have e : (BitVec.ofInt 32 (a : Int) ||| BitVec.ofInt 32 (b : Int)).toNat = a ||| b := by
    rw [BitVec.toNat_or, BitVec.ofInt_natCast, BitVec.ofInt_natCast, BitVec.toNat_ofNat, BitVec.toNat_ofNat, Nat.mod_eq_of_lt ha, Nat.mod_eq_of_lt hb]
  show IntKind.u32.wrap ((BitVec.ofInt 32 (a : Int) ||| BitVec.ofInt 32 (b : Int)).toNat : Int) = _
  rw [e, wr32]; omega
theorem or64 (a b : Nat) (ha : a < 18446744073709551616) (hb : b < 18446744073709551616) : bOr .u64 a b = ((a ||| b : Nat) : Int) := by
  have h : a ||| b < 2 ^ 64 := Nat.or_lt_two_pow ha hb
  have e : (BitVec.ofInt 64 (a : Int) ||| BitVec.ofInt 64 (b : Int)).toNat = a ||| b := by
    rw [BitVec.toNat_or, BitVec.ofInt_natCast, BitVec.ofInt_natCast, BitVec.toNat_ofNat, BitVec.toNat_ofNat, Nat.mod_eq_of_lt ha, Nat.mod_eq_of_lt hb]
  show IntKind.u64.wrap ((BitVec.ofInt 64 (a : Int) ||| BitVec.ofInt 64 (b : Int)).toNat : Int) = _
  rw [e, wr64]; omega
theorem and32 (a b : Nat) (ha : a < 4294967296) (hb : b < 4294967296) : bAnd .u32 a b = ((a &&& b : Nat) : Int) := by
  have h : a &&& b < 2 ^ 32 := Nat.and_lt_two_pow _ hb
  have e : (BitVec.ofInt 32 (a : Int) &&& BitVec.ofInt 32 (b : Int)).toNat = a &&& b := by
    rw [BitVec.toNat_and, BitVec.ofInt_natCast, BitVec.ofInt_natCast, BitVec.toNat_ofNat, BitVec.toNat_ofNat, Nat.mod_eq_of_lt ha, Nat.mod_eq_of_lt hb]
  show IntKind.u32.wrap ((BitVec.ofInt 32 (a : Int) &&& BitVec.ofInt 32 (b : Int)).toNat : Int) = _
  rw [e, wr32]; omega
theorem and64 (a b : Nat) (ha : a < 18446744073709551616) (hb : b < 18446744073709551616) : bAnd .u64 a b = ((a &&& b : Nat) : Int) := by
  have h : a &&& b < 2 ^ 64 := Nat.and_lt_two_pow _ hb
  have e : (BitVec.ofInt 64 (a : Int) &&& BitVec.ofInt 64 (b : Int)).toNat = a &&& b := by
    rw [BitVec.toNat_and, BitVec.ofInt_natCast, BitVec.ofInt_natCast, BitVec.toNat_ofNat, BitVec.toNat_ofNat, Nat.mod_eq_of_lt ha, Nat.mod_eq_of_lt hb]
  show IntKind.u64.wrap ((BitVec.ofInt 64 (a : Int) &&& BitVec.ofInt 64 (b : Int)).toNat : Int) = _
  rw [e, wr64]; omega
theorem xor32 (a b : Nat) (ha : a < 4294967296) (hb : b < 4294967296) : bXor .u32 a b = ((a ^^^ b : Nat) : Int) := by
  have h : a ^^^ b < 2 ^ 32 := Nat.xor_lt_two_pow ha hb
  have e : (BitVec.ofInt 32 (a : Int) ^^^ BitVec.ofInt 32 (b : Int)).toNat = a ^^^ b := by
    rw [BitVec.toNat_xor, BitVec.ofInt_natCast, BitVec.ofInt_natCast, BitVec.toNat_ofNat, BitVec.toNat_ofNat, Nat.mod_eq_of_lt ha, Nat.mod_eq_of_lt hb]
  show IntKind.u32.wrap ((BitVec.ofInt 32 (a : Int) ^^^ BitVec.ofInt 32 (b : Int)).toNat : Int) = _
  rw [e, wr32]; omega
theorem xor64 (a b : Nat) (ha : a < 18446744073709551616) (hb : b < 18446744073709551616) : bXor .u64 a b = ((a ^^^ b : Nat) : Int) := by
  have h : a ^^^ b < 2 ^ 64 := Nat.xor_lt_two_pow ha hb
  have e : (BitVec.ofInt 64 (a : Int) ^^^ BitVec.ofInt 64 (b : Int)).toNat = a ^^^ b := by
    rw [BitVec.toNat_xor, BitVec.ofInt_natCast, BitVec.ofInt_natCast, BitVec.toNat_ofNat, BitVec.toNat_ofNat, Nat.mod_eq_of_lt ha, Nat.mod_eq_of_lt hb]
  show IntKind.u64.wrap ((BitVec.ofInt 64 (a : Int) ^^^ BitVec.ofInt 64 (b : Int)).toNat : Int) = _
  rw [e, wr64]; omega
/-- A word of 32 bits. -/
def W32 (x : Int) : Prop := 0 ≤ x ∧ x < 4294967296
theorem W32.nat {x : Int} (h : W32 x) : ∃ n : Nat, n < 4294967296 ∧ x = n := ⟨x.toNat, by have := h.1; have := h.2; omega, by have := h.1; omega⟩
theorem or_eq {a b : Int} (ha : W32 a) (hb : W32 b) : bOr .u64 a b = bOr .u32 a b ∧ W32 (bOr .u32 a b) := by
  obtain ⟨a, h1, rfl⟩ := ha.nat
  obtain ⟨b, h2, rfl⟩ := hb.nat
  rw [or32 a b h1 h2, or64 a b (by omega) (by omega)]
  have h : a ||| b < 2 ^ 32 := Nat.or_lt_two_pow h1 h2
  exact ⟨rfl, by unfold W32; omega⟩
theorem and_eq {a b : Int} (ha : W32 a) (hb : W32 b) : bAnd .u64 a b = bAnd .u32 a b ∧ W32 (bAnd .u32 a b) := by
  obtain ⟨a, h1, rfl⟩ := ha.nat
  obtain ⟨b, h2, rfl⟩ := hb.nat
  rw [and32 a b h1 h2, and64 a b (by omega) (by omega)]
  have h : a &&& b < 2 ^ 32 := Nat.and_lt_two_pow _ h2
  exact ⟨rfl, by unfold W32; omega⟩
theorem xor_eq {a b : Int} (ha : W32 a) (hb : W32 b) : bXor .u64 a b = bXor .u32 a b ∧ W32 (bXor .u32 a b) := by
  obtain ⟨a, h1, rfl⟩ := ha.nat
  obtain ⟨b, h2, rfl⟩ := hb.nat
  rw [xor32 a b h1 h2, xor64 a b (by omega) (by omega)]
  have h : a ^^^ b < 2 ^ 32 := Nat.xor_lt_two_pow h1 h2
  exact ⟨rfl, by unfold W32; omega⟩
theorem or_comm32 {a b : Int} (ha : W32 a) (hb : W32 b) : bOr .u32 a b = bOr .u32 b a := by
  obtain ⟨a, h1, rfl⟩ := ha.nat
  obtain ⟨b, h2, rfl⟩ := hb.nat
  rw [or32 a b h1 h2, or32 b a h2 h1, Nat.or_comm]
theorem w32_rng (a b : Int) : W32 (w32 a b) := by unfold w32 W32; rw [wr32]; omega
theorem shr_rng {x : Int} (h : W32 x) (n : Nat) (hn : n ≤ 32) : shrI .u32 x n = shrI .u64 x n ∧ W32 (shrI .u64 x n) := by
  have e1 : min ((n : Int)).toNat IntKind.u32.bits = n := by simp [IntKind.bits]; omega
  have e2 : min ((n : Int)).toNat IntKind.u64.bits = n := by simp [IntKind.bits]; omega
  unfold shrI
  rw [e1, e2]
  refine ⟨rfl, ?_⟩
  obtain ⟨x, h1, rfl⟩ := h.nat
  have e3 : ((x : Int) / 2 ^ n) = ((x / 2 ^ n : Nat) : Int) := by simp
  rw [e3]
  have h3 := Nat.div_le_self x (2 ^ n)
  generalize x / 2 ^ n = y at h3
  exact ⟨by omega, by omega⟩
def turnR (x n : Int) : Int := bOr .u64 (shrI .u64 x n) (shlI .u64 x (32 - n) % 4294967296)
theorem rot_k (n : Fin 32) (h : 1 ≤ n.val) : bAnd .u64 (IntKind.u64.wrap (IntKind.i64.wrap (0 - (n.val : Int)))) 31 = 32 - n.val ∧ IntKind.u64.wrap (32 - (32 - (n.val : Int))) = n.val := by
  revert n; decide +kernel
theorem turn_eq {x : Int} (h : W32 x) (n : Nat) (h1 : 1 ≤ n) (h2 : n < 32) : turnR x n = turnS x n ∧ W32 (turnS x n) := by
  obtain ⟨k1, k2⟩ := rot_k ⟨n, h2⟩ h1
  unfold turnS rotS turnR
  simp only at k1 k2
  rw [k1, k2]
  have hs := shr_rng h n (by omega)
  have e32 : (32 - (n : Int)) = ((32 - n : Nat) : Int) := by omega
  rw [e32]
  have hl : shlI .u64 x ((32 - n : Nat) : Int) % 4294967296 = shlI .u32 x ((32 - n : Nat) : Int) := by
    unfold shlI
    have e1 : min (((32 - n : Nat) : Int)).toNat IntKind.u32.bits = 32 - n := by
      simp only [IntKind.bits]; omega
    have e2 : min (((32 - n : Nat) : Int)).toNat IntKind.u64.bits = 32 - n := by
      simp only [IntKind.bits]; omega
    rw [e1, e2, wr32, wr64]
    generalize x * 2 ^ (32 - n) = y
    omega
  have hl2 : W32 (shlI .u32 x ((32 - n : Nat) : Int)) := by unfold shlI W32; rw [wr32]; omega
  rw [hl, (or_eq hs.2 hl2).1, or_comm32 hs.2 hl2, ← hs.1]
  have hs' : W32 (shrI .u32 x n) := hs.1 ▸ hs.2
  exact ⟨rfl, (or_eq hl2 hs').2⟩
theorem cpl_eq {x : Int} (h : W32 x) : cplI .u32 x = 4294967295 - x ∧ W32 (cplI .u32 x) := by
  obtain ⟨n, h1, rfl⟩ := h.nat
  have e : cplI .u32 (n : Int) = bXor .u32 ((4294967295 : Nat) : Int) n := rfl
  rw [e, xor32 _ _ (by omega) h1]
  have h2 : 4294967295 ^^^ n = 4294967295 - n := by
    have h3 := BitVec.toNat_not (x := BitVec.ofNat 32 n)
    have h4 : BitVec.allOnes 32 ^^^ BitVec.ofNat 32 n = ~~~ (BitVec.ofNat 32 n) := by rw [BitVec.xor_comm, BitVec.xor_allOnes]
    rw [← h4, BitVec.toNat_xor, BitVec.toNat_allOnes, BitVec.toNat_ofNat, Nat.mod_eq_of_lt h1] at h3
    simpa using h3
  rw [h2]
  unfold W32; omega
end Go.Proofs.YtngoaapgdfohjaaGreatDoor.TK

set_option linter.unusedVariables false
set_option linter.unusedSimpArgs false
set_option maxRecDepth 100000
namespace Go.Proofs.YtngoaapgdfohjaaGreatDoor.TK
open Go Go.Proofs.YtngoaapgdfohjaaGreatDoor.X
/-! ## The document's round, in words of 64 bits -/
def rightR (x a b : Int) : Int := bXor .u64 (turnR x a) (turnR x b)
def lowR (x : Int) : Int := bXor .u64 (rightR x 7 18) (shrI .u64 x 3)
def highR (x : Int) : Int := bXor .u64 (rightR x 17 19) (shrI .u64 x 10)
theorem right_eq {x : Int} (h : W32 x) (a b : Nat) (ha : 1 ≤ a ∧ a < 32) (hb : 1 ≤ b ∧ b < 32) : rightR x a b = bXor .u32 (turnS x a) (turnS x b) ∧ W32 (bXor .u32 (turnS x a) (turnS x b)) := by
  obtain ⟨e1, r1⟩ := turn_eq h a ha.1 ha.2
  obtain ⟨e2, r2⟩ := turn_eq h b hb.1 hb.2
  unfold rightR
  rw [e1, e2]
  exact xor_eq r1 r2
theorem low_eq {x : Int} (h : W32 x) : lowR x = lowW x ∧ W32 (lowW x) := by
  obtain ⟨e1, r1⟩ := right_eq h 7 18 (by decide) (by decide)
  obtain ⟨e2, r2⟩ := shr_rng h 3 (by decide)
  unfold lowR lowW xor3
  have e1' : rightR x 7 18 = bXor .u32 (turnS x 7) (turnS x 18) := e1
  have e2' : shrI .u32 x 3 = shrI .u64 x 3 := e2
  rw [e1', e2']
  exact xor_eq r1 r2
theorem high_eq {x : Int} (h : W32 x) : highR x = highW x ∧ W32 (highW x) := by
  obtain ⟨e1, r1⟩ := right_eq h 17 19 (by decide) (by decide)
  obtain ⟨e2, r2⟩ := shr_rng h 10 (by decide)
  unfold highR highW xor3
  have e1' : rightR x 17 19 = bXor .u32 (turnS x 17) (turnS x 19) := e1
  have e2' : shrI .u32 x 10 = shrI .u64 x 10 := e2
  rw [e1', e2']
  exact xor_eq r1 r2
def AllW (l : List Int) : Prop := ∀ v ∈ l, W32 v
theorem W32.nought : W32 0 := ⟨by decide, by decide⟩
theorem AllW.at {l : List Int} (h : AllW l) (i : Nat) : W32 (l.getD i 0) := by
  rw [List.getD_eq_getElem?_getD]
  cases e : l[i]? with
  | none => exact W32.nought
  | some v => exact h v (List.mem_of_getElem? e)
theorem AllW.set {l : List Int} (h : AllW l) (i : Nat) {v : Int} (hv : W32 v) : AllW (l.set i v) := fun u hu => by
  rcases List.mem_or_eq_of_mem_set hu with h1 | rfl
  · exact h u h1
  · exact hv
theorem AllW.zeros (n : Nat) : AllW (List.replicate n 0) := fun u hu => by rw [List.eq_of_mem_replicate hu]; exact W32.nought
/-- Bytes. -/
def Oc (l : List Int) : Prop := ∀ v ∈ l, 0 ≤ v ∧ v < 256
theorem Oc.at {l : List Int} (h : Oc l) (i : Nat) : 0 ≤ l.getD i 0 ∧ l.getD i 0 < 256 := by
  rw [List.getD_eq_getElem?_getD]
  cases e : l[i]? with
  | none => simp
  | some v => exact h v (List.mem_of_getElem? e)
def wkR (bl : List Int) (i : Nat) : Nat → Int
  | 0 => 0
  | k + 1 => wkR bl i k * 256 + bl.getD (4 * i + k) 0
theorem or4 (a b c d : Nat) (ha : a < 256) (hb : b < 256) (hc : c < 256) (hd : d < 256) : ((a * 16777216 ||| b * 65536) ||| c * 256) ||| d = ((a * 256 + b) * 256 + c) * 256 + d := by
  have h1 : 2 ^ 24 * a + b * 65536 = 2 ^ 24 * a ||| b * 65536 := Nat.two_pow_add_eq_or_of_lt (by omega) a
  have h2 : 2 ^ 16 * (a * 256 + b) + c * 256 = 2 ^ 16 * (a * 256 + b) ||| c * 256 := Nat.two_pow_add_eq_or_of_lt (by omega) _
  have h3 : 2 ^ 8 * ((a * 256 + b) * 256 + c) + d = 2 ^ 8 * ((a * 256 + b) * 256 + c) ||| d := Nat.two_pow_add_eq_or_of_lt (by omega) _
  rw [show a * 16777216 = 2 ^ 24 * a by omega, ← h1, show 2 ^ 24 * a + b * 65536 = 2 ^ 16 * (a * 256 + b) by omega, ← h2, show 2 ^ 16 * (a * 256 + b) + c * 256 = 2 ^ 8 * ((a * 256 + b) * 256 + c) by omega, ← h3]
  omega
theorem word_eq {bl : List Int} (h : Oc bl) (i : Nat) : wkR bl i 4 = wordS bl i ∧ W32 (wordS bl i) := by
  obtain ⟨a0, a1⟩ := h.at (4 * i + 0)
  obtain ⟨b0, b1⟩ := h.at (4 * i + 1)
  obtain ⟨c0, c1⟩ := h.at (4 * i + 2)
  obtain ⟨d0, d1⟩ := h.at (4 * i + 3)
  simp only [wkR, wordS, byW, wr32]
  generalize bl.getD (4 * i + 0) 0 = a at *
  generalize bl.getD (4 * i + 1) 0 = b at *
  generalize bl.getD (4 * i + 2) 0 = c at *
  generalize bl.getD (4 * i + 3) 0 = d at *
  obtain ⟨a, rfl⟩ := Int.eq_ofNat_of_zero_le a0
  obtain ⟨b, rfl⟩ := Int.eq_ofNat_of_zero_le b0
  obtain ⟨c, rfl⟩ := Int.eq_ofNat_of_zero_le c0
  obtain ⟨d, rfl⟩ := Int.eq_ofNat_of_zero_le d0
  have ea : shlI .u32 ((a : Int) % 4294967296) 24 = ((a * 16777216 : Nat) : Int) := by
    show IntKind.u32.wrap (((a : Int) % 4294967296) * 16777216) = _
    rw [wr32]; omega
  have eb : shlI .u32 ((b : Int) % 4294967296) 16 = ((b * 65536 : Nat) : Int) := by
    show IntKind.u32.wrap (((b : Int) % 4294967296) * 65536) = _
    rw [wr32]; omega
  have ec : shlI .u32 ((c : Int) % 4294967296) 8 = ((c * 256 : Nat) : Int) := by
    show IntKind.u32.wrap (((c : Int) % 4294967296) * 256) = _
    rw [wr32]; omega
  have ed : (d : Int) % 4294967296 = ((d : Nat) : Int) := by omega
  have h4 := or4 a b c d (by omega) (by omega) (by omega) (by omega)
  have l1 : a * 16777216 ||| b * 65536 < 2 ^ 32 := Nat.or_lt_two_pow (by omega) (by omega)
  have l2 : (a * 16777216 ||| b * 65536) ||| c * 256 < 2 ^ 32 := Nat.or_lt_two_pow l1 (by omega)
  rw [ea, eb, ec, ed, or32 _ _ (by omega) (by omega), or32 _ _ (by omega) (by omega), or32 _ _ (by omega) (by omega), h4]
  unfold W32
  refine ⟨by omega, by omega, by omega⟩
def wAR (bl : List Int) : Nat → List Int
  | 0 => List.replicate 64 0
  | i + 1 => (wAR bl i).set i (wkR bl i 4)
def nextR (l : List Int) (i : Int) : Int := (l.getD (i - 16).toNat 0 + lowR (l.getD (i - 15).toNat 0) + l.getD (i - 7).toNat 0 + highR (l.getD (i - 2).toNat 0)) % 4294967296
def wBR (bl : List Int) : Nat → List Int
  | 0 => wAR bl 16
  | i + 1 => (wBR bl i).set (i + 16) (nextR (wBR bl i) ((i + 16 : Nat) : Int))
theorem wA_eq {bl : List Int} (h : Oc bl) : ∀ i, wAR bl i = wA bl i ∧ AllW (wA bl i)
  | 0 => ⟨rfl, AllW.zeros 64⟩
  | i + 1 => by
    obtain ⟨e, r⟩ := wA_eq h i
    obtain ⟨e2, r2⟩ := word_eq h i
    simp only [wAR, wA, e, e2]
    exact ⟨trivial, r.set i r2⟩
theorem next_eq {l : List Int} (h : AllW l) (i : Int) : nextR l i = nextW l i ∧ W32 (nextW l i) := by
  obtain ⟨e1, r1⟩ := low_eq (h.at (i - 15).toNat)
  obtain ⟨e2, r2⟩ := high_eq (h.at (i - 2).toNat)
  refine ⟨?_, w32_rng _ _⟩
  unfold nextR nextW w32
  rw [e1, e2, wr32, wr32, wr32]
  omega
theorem wB_eq {bl : List Int} (h : Oc bl) : ∀ i, wBR bl i = wB bl i ∧ AllW (wB bl i)
  | 0 => wA_eq h 16
  | i + 1 => by
    obtain ⟨e, r⟩ := wB_eq h i
    obtain ⟨e2, r2⟩ := next_eq r ((i + 16 : Nat) : Int)
    simp only [wBR, wB, e, e2]
    exact ⟨trivial, r.set _ r2⟩
def chR (e f g : Int) : Int := bXor .u64 (bAnd .u64 e f) (bAnd .u64 (4294967295 - e) g)
def maR (a b c : Int) : Int := bXor .u64 (bXor .u64 (bAnd .u64 a b) (bAnd .u64 a c)) (bAnd .u64 b c)
def s1R (e : Int) : Int := bXor .u64 (rightR e 6 11) (turnR e 25)
def s0R (a : Int) : Int := bXor .u64 (rightR a 2 13) (turnR a 22)
def xR (s w : List Int) (i : Nat) : Int := (s.getD 7 0 + s1R (s.getD 4 0) + chR (s.getD 4 0) (s.getD 5 0) (s.getD 6 0) + ks.getD i 0 + w.getD i 0) % 4294967296
def yR (s : List Int) : Int := (s0R (s.getD 0 0) + maR (s.getD 0 0) (s.getD 1 0) (s.getD 2 0)) % 4294967296
def roundR (s w : List Int) (i : Nat) : List Int := [(xR s w i + yR s) % 4294967296, s.getD 0 0, s.getD 1 0, s.getD 2 0, (s.getD 3 0 + xR s w i) % 4294967296, s.getD 4 0, s.getD 5 0, s.getD 6 0]
def stR (st w : List Int) : Nat → List Int
  | 0 => st
  | i + 1 => roundR (stR st w i) w i
def TurnR (st bl : List Int) : List Int := (List.range 8).map fun j => (st.getD j 0 + (stR st (wBR bl 48) 64).getD j 0) % 4294967296
theorem s1_eq {e : Int} (h : W32 e) : s1R e = xor3 (turnS e 6) (turnS e 11) (turnS e 25) ∧ W32 (xor3 (turnS e 6) (turnS e 11) (turnS e 25)) := by
  obtain ⟨e1, r1⟩ := right_eq h 6 11 (by decide) (by decide)
  obtain ⟨e2, r2⟩ := turn_eq h 25 (by decide) (by decide)
  unfold s1R xor3
  have e1' : rightR e 6 11 = bXor .u32 (turnS e 6) (turnS e 11) := e1
  have e2' : turnR e 25 = turnS e 25 := e2
  rw [e1', e2']
  exact xor_eq r1 r2
theorem s0_eq {e : Int} (h : W32 e) : s0R e = xor3 (turnS e 2) (turnS e 13) (turnS e 22) ∧ W32 (xor3 (turnS e 2) (turnS e 13) (turnS e 22)) := by
  obtain ⟨e1, r1⟩ := right_eq h 2 13 (by decide) (by decide)
  obtain ⟨e2, r2⟩ := turn_eq h 22 (by decide) (by decide)
  unfold s0R xor3
  have e1' : rightR e 2 13 = bXor .u32 (turnS e 2) (turnS e 13) := e1
  have e2' : turnR e 22 = turnS e 22 := e2
  rw [e1', e2']
  exact xor_eq r1 r2
theorem ch_eq {e f g : Int} (he : W32 e) (hf : W32 f) (hg : W32 g) : chR e f g = bXor .u32 (bAnd .u32 e f) (bAnd .u32 (cplI .u32 e) g) ∧ W32 (bXor .u32 (bAnd .u32 e f) (bAnd .u32 (cplI .u32 e) g)) := by
  obtain ⟨e1, r1⟩ := cpl_eq he
  unfold chR
  rw [← e1, (and_eq he hf).1, (and_eq r1 hg).1]
  exact xor_eq (and_eq he hf).2 (and_eq r1 hg).2
theorem ma_eq {a b c : Int} (ha : W32 a) (hb : W32 b) (hc : W32 c) : maR a b c = xor3 (bAnd .u32 a b) (bAnd .u32 a c) (bAnd .u32 b c) ∧ W32 (xor3 (bAnd .u32 a b) (bAnd .u32 a c) (bAnd .u32 b c)) := by
  unfold maR xor3
  rw [(and_eq ha hb).1, (and_eq ha hc).1, (and_eq hb hc).1, (xor_eq (and_eq ha hb).2 (and_eq ha hc).2).1]
  exact xor_eq (xor_eq (and_eq ha hb).2 (and_eq ha hc).2).2 (and_eq hb hc).2
theorem ks_rng : AllW ks := by unfold AllW W32; decide
theorem x_eq {s w : List Int} (hs : AllW s) (hw : AllW w) (i : Nat) : xR s w i = xW s w i ∧ W32 (xW s w i) := by
  obtain ⟨e1, r1⟩ := s1_eq (hs.at 4)
  obtain ⟨e2, r2⟩ := ch_eq (hs.at 4) (hs.at 5) (hs.at 6)
  refine ⟨?_, w32_rng _ _⟩
  unfold xR xW w32
  rw [e1, e2]
  simp only [wr32]
  omega
theorem y_eq {s : List Int} (hs : AllW s) : yR s = yW s ∧ W32 (yW s) := by
  obtain ⟨e1, r1⟩ := s0_eq (hs.at 0)
  obtain ⟨e2, r2⟩ := ma_eq (hs.at 0) (hs.at 1) (hs.at 2)
  refine ⟨?_, w32_rng _ _⟩
  unfold yR yW w32
  rw [e1, e2, wr32]
theorem st_eq {st w : List Int} (hs : AllW st) (hw : AllW w) : ∀ i, stR st w i = stN st w i ∧ AllW (stN st w i)
  | 0 => ⟨rfl, hs⟩
  | i + 1 => by
    obtain ⟨e, r⟩ := st_eq hs hw i
    obtain ⟨e1, r1⟩ := x_eq r hw i
    obtain ⟨e2, r2⟩ := y_eq r
    simp only [stR, stN, roundR, roundS, e, e1, e2, w32, wr32]
    refine ⟨trivial, fun v hv => ?_⟩
    have hm : ∀ n : Int, W32 (n % 4294967296) := fun n => ⟨by omega, by omega⟩
    simp only [List.mem_cons, List.not_mem_nil, or_false] at hv
    rcases hv with rfl | rfl | rfl | rfl | rfl | rfl | rfl | rfl
    · exact hm _
    · exact r.at 0
    · exact r.at 1
    · exact r.at 2
    · exact hm _
    · exact r.at 4
    · exact r.at 5
    · exact r.at 6
theorem end_eq (st : List Int) : ∀ s : List Int, s.length = 8 → endN st s 8 = (List.range 8).map fun j => w32 (s.getD j 0) (st.getD j 0)
  | [a0, a1, a2, a3, a4, a5, a6, a7], _ => rfl
theorem stN_len' {st w : List Int} (h : st.length = 8) : ∀ i, (stN st w i).length = 8
  | 0 => h
  | i + 1 => rfl
theorem Turn_eq {st bl : List Int} (h8 : st.length = 8) (hs : AllW st) (hb : Oc bl) : TurnR st bl = TurnS st bl ∧ AllW (TurnS st bl) := by
  obtain ⟨e1, r1⟩ := wB_eq hb 48
  obtain ⟨e2, r2⟩ := st_eq hs r1 64
  unfold TurnR TurnS spreadS
  rw [e1, e2, end_eq st _ (stN_len' h8 64)]
  constructor
  · refine List.map_congr_left fun j _ => ?_
    simp only [w32, wr32]
    rw [Int.add_comm]
  · intro v hv
    obtain ⟨j, _, rfl⟩ := List.mem_map.1 hv
    exact w32_rng _ _
end Go.Proofs.YtngoaapgdfohjaaGreatDoor.TK

set_option linter.unusedVariables false
set_option linter.unusedSimpArgs false
set_option maxRecDepth 100000
namespace Go.Proofs.YtngoaapgdfohjaaGreatDoor.TK
open Go Go.Proofs.YtngoaapgdfohjaaGreatDoor.X
/-! ## Blocks of 64 bytes, one after the other -/
def stAll (st all : List Int) : Nat → List Int
  | 0 => st
  | k + 1 => TurnR (stAll st all k) ((all.drop (64 * k)).take 64)
theorem HS.put_app (h : HS) (a b : List Int) : h.put (a ++ b) = (h.put a).put b := by simp [HS.put]
theorem put_part {h : HS} (hb : h.b.length = 64) (hn : h.n % 64 = 0) {l : List Int} : ∀ i, i ≤ l.length → i < 64 → h.put (l.take i) = ⟨h.s, l.take i ++ h.b.drop i, h.n + i⟩
  | 0, _, _ => by simp [HS.put]
  | i + 1, h1, h2 => by
    have ih := put_part hb hn (l := l) i (by omega) (by omega)
    rw [List.take_add_one, List.getElem?_eq_getElem (by omega), Option.toList_some, HS.put_app, ih]
    have hl : (l.take i).length = i := by rw [List.length_take]; omega
    have hm : (h.n + i) % 64 = i := by omega
    simp only [HS.put, List.foldl_cons, List.foldl_nil, HS.step]
    rw [if_neg (by omega), hm]
    congr 1
    rw [List.set_append_right _ _ (by omega), hl, Nat.sub_self, List.append_assoc]
    congr 1
    rw [List.drop_eq_getElem_cons (by omega : i < h.b.length)]
    rfl
theorem put_64 {h : HS} (hb : h.b.length = 64) (hn : h.n % 64 = 0) {l : List Int} (hl : l.length = 64) : h.put l = ⟨TurnS h.s l, l, h.n + 64⟩ := by
  have h1 := put_part hb hn (l := l) 63 (by omega) (by omega)
  have e : l = l.take 63 ++ [l[63]'(by omega)] := by
    have e0 := List.take_append_getElem (i := 63) (l := l) (by omega)
    rw [List.take_of_length_le (i := 63 + 1) (by omega)] at e0
    exact e0.symm
  conv => lhs; rw [e, HS.put_app, h1]
  have hl63 : (l.take 63).length = 63 := by rw [List.length_take]; omega
  have hm : (h.n + 63) % 64 = 63 := by omega
  simp only [HS.put, List.foldl_cons, List.foldl_nil, HS.step]
  rw [if_pos (by omega), hm]
  have e2 : (l.take 63 ++ h.b.drop 63).set 63 (l[63]'(by omega)) = l := by
    rw [List.set_append_right _ _ (by omega), hl63, Nat.sub_self]
    rw [List.drop_eq_getElem_cons (by omega : 63 < h.b.length), List.set_cons_zero, List.drop_of_length_le (by omega)]
    exact e.symm
  rw [e2]
theorem stAll_len {st all : List Int} (h8 : st.length = 8) : ∀ k, (stAll st all k).length = 8
  | 0 => h8
  | k + 1 => by simp [stAll, TurnR]
theorem oc_sub {l m : List Int} (h : Oc l) (hs : ∀ v ∈ m, v ∈ l) : Oc m := fun v hv => h v (hs v hv)
theorem stAll_w {st all : List Int} (h8 : st.length = 8) (hw : AllW st) (ho : Oc all) : ∀ k, AllW (stAll st all k)
  | 0 => hw
  | k + 1 => by
    have hc : Oc ((all.drop (64 * k)).take 64) := oc_sub ho fun v hv => List.mem_of_mem_drop (List.mem_of_mem_take hv)
    obtain ⟨e, r⟩ := Turn_eq (stAll_len (all := all) h8 k) (stAll_w h8 hw ho k) hc
    simp only [stAll]
    rw [e]; exact r
theorem put_all {h : HS} (h8 : h.s.length = 8) (hb : h.b.length = 64) (hn : h.n % 64 = 0) (hw : AllW h.s) {all : List Int} (ho : Oc all) : ∀ k, 64 * k ≤ all.length → (h.put (all.take (64 * k))).s = stAll h.s all k ∧ (h.put (all.take (64 * k))).b.length = 64 ∧ (h.put (all.take (64 * k))).n = h.n + 64 * k
  | 0, _ => by simp [HS.put, stAll, hb]
  | k + 1, hk => by
    obtain ⟨e1, e2, e3⟩ := put_all h8 hb hn hw ho k (by omega)
    have e : all.take (64 * (k + 1)) = all.take (64 * k) ++ (all.drop (64 * k)).take 64 := by
      rw [Nat.mul_add, Nat.mul_one, List.take_add]
    rw [e, HS.put_app]
    have hl : ((all.drop (64 * k)).take 64).length = 64 := by rw [List.length_take, List.length_drop]; omega
    rw [put_64 e2 (by rw [e3]; omega) hl]
    have hc : Oc ((all.drop (64 * k)).take 64) := oc_sub ho fun v hv => List.mem_of_mem_drop (List.mem_of_mem_take hv)
    obtain ⟨e4, _⟩ := Turn_eq (stAll_len (all := all) h8 k) (stAll_w h8 hw ho k) hc
    refine ⟨?_, hl, by show (h.put (all.take (64 * k))).n + 64 = _; rw [e3]; omega⟩
    show TurnS (h.put (all.take (64 * k))).s _ = stAll h.s all (k + 1)
    rw [e1]
    simp only [stAll]
    exact e4.symm
/-! ## The ending -/
theorem shr8 (v : Int) (n : Nat) (h : n + 8 ≤ 64) : shrI .u64 (shrI .u64 v n) 8 = shrI .u64 v ((n + 8 : Nat) : Int) := by
  unfold shrI
  have e1 : min ((n : Int)).toNat IntKind.u64.bits = n := by simp only [IntKind.bits]; omega
  have e2 : min ((8 : Int)).toNat IntKind.u64.bits = 8 := rfl
  have e3 : min (((n + 8 : Nat) : Int)).toNat IntKind.u64.bits = n + 8 := by simp only [IntKind.bits]; omega
  rw [e1, e2, e3, Int.ediv_ediv_of_nonneg (Int.le_of_lt (Int.pow_pos (by decide))), ← Int.pow_add]
theorem bigN_eq (v : Int) : ∀ k, 8 * k ≤ 64 → bigN v k = shrI .u64 v ((8 * k : Nat) : Int)
  | 0, _ => by
    unfold bigN shrI
    simp
  | k + 1, h => by
    unfold bigN
    rw [bigN_eq v k (by omega), shr8 v (8 * k) (by omega)]
    rfl
def byR (v n : Int) : Int := IntKind.u8.wrap (shrI .u64 v n)
theorem big8_eq (v : Int) : bigS v 8 = [byR v 56, byR v 48, byR v 40, byR v 32, byR v 24, byR v 16, byR v 8, byR v 0] := by
  have e : bigS v 8 = [IntKind.u8.wrap (bigN v 7), IntKind.u8.wrap (bigN v 6), IntKind.u8.wrap (bigN v 5), IntKind.u8.wrap (bigN v 4), IntKind.u8.wrap (bigN v 3), IntKind.u8.wrap (bigN v 2), IntKind.u8.wrap (bigN v 1), IntKind.u8.wrap (bigN v 0)] := rfl
  rw [e, bigN_eq v 7 (by decide), bigN_eq v 6 (by decide), bigN_eq v 5 (by decide), bigN_eq v 4 (by decide), bigN_eq v 3 (by decide), bigN_eq v 2 (by decide), bigN_eq v 1 (by decide), bigN_eq v 0 (by decide)]
  rfl
theorem big4_eq (v : Int) : bigS v 4 = [byR v 24, byR v 16, byR v 8, byR v 0] := by
  have e : bigS v 4 = [IntKind.u8.wrap (bigN v 3), IntKind.u8.wrap (bigN v 2), IntKind.u8.wrap (bigN v 1), IntKind.u8.wrap (bigN v 0)] := rfl
  rw [e, bigN_eq v 3 (by decide), bigN_eq v 2 (by decide), bigN_eq v 1 (by decide), bigN_eq v 0 (by decide)]
  rfl
/-- '8 n' in eight bytes, behind a one and noughts. -/
def padR (n : Nat) : List Int := [128] ++ List.replicate (padN n - 1) 0 ++ [byR (8 * n) 56, byR (8 * n) 48, byR (8 * n) 40, byR (8 * n) 32, byR (8 * n) 24, byR (8 * n) 16, byR (8 * n) 8, byR (8 * n) 0]
theorem pad_eq (n : Nat) : padR n = padS n := by
  unfold padR padS
  rw [big8_eq]
  congr 1
  have h : padN n = (padN n - 1) + 1 := by unfold padN; omega
  conv => rhs; rw [h, List.replicate_succ, List.set_cons_zero]
  rfl
def outR (s : List Int) : List Int := (List.range 32).map fun i => byR (s.getD (i / 4) 0) (24 - 8 * ((i % 4 : Nat) : Int))
section
attribute [local irreducible] byR
theorem out_eq : ∀ s : List Int, s.length = 8 → AllW s → outN s 8 = outR s
  | [a0, a1, a2, a3, a4, a5, a6, a7], _, hw => by
    have hm : ∀ v : Int, W32 v → IntKind.u64.wrap v = v := fun v hv => by have := hv.1; have := hv.2; rw [wr64]; omega
    have h0 := hm a0 (hw _ (by simp)); have h1 := hm a1 (hw _ (by simp)); have h2 := hm a2 (hw _ (by simp)); have h3 := hm a3 (hw _ (by simp))
    have h4 := hm a4 (hw _ (by simp)); have h5 := hm a5 (hw _ (by simp)); have h6 := hm a6 (hw _ (by simp)); have h7 := hm a7 (hw _ (by simp))
    simp only [outN, big4_eq, List.getD_cons_zero, List.getD_cons_succ, h0, h1, h2, h3, h4, h5, h6, h7]
    rfl
end
def startR : List Int := [1779033703, 3144134277, 1013904242, 2773480762, 1359893119, 2600822924, 528734635, 1541459225]
def sumR (b : List Int) : List Int := outR (stAll startR (b ++ padR b.length) ((b ++ padR b.length).length / 64))
theorem wrap8_rng (n : Int) : 0 ≤ IntKind.u8.wrap n ∧ IntKind.u8.wrap n < 256 := by rw [wr8]; omega
theorem pad_oc (n : Nat) : Oc (padR n) := by
  intro v hv
  unfold padR at hv
  simp only [List.mem_append, List.mem_cons, List.not_mem_nil, or_false] at hv
  rcases hv with (rfl | h) | rfl | rfl | rfl | rfl | rfl | rfl | rfl | rfl
  · decide
  · rw [List.eq_of_mem_replicate h]; decide
  all_goals exact wrap8_rng _
theorem padR_len (n : Nat) : (padR n).length = padN n + 8 := by
  unfold padR
  have : 1 ≤ padN n := by unfold padN; omega
  simp only [List.length_append, List.length_cons, List.length_nil, List.length_replicate]
  omega
theorem out_oc (s : List Int) : Oc (outR s) := fun v hv => by
  obtain ⟨i, _, rfl⟩ := List.mem_map.1 hv
  exact wrap8_rng _
theorem sumR_len (b : List Int) : (sumR b).length = 32 := by simp [sumR, outR]
/-- The digest of bytes, told by the document. -/
theorem dig_eq {h : HS} (hs : h.s = startR) (hb : h.b.length = 64) (hn : h.n = 0) {l : List Int} (ho : Oc l) : (h.put l).dig = sumR l := by
  have hN : (h.put l).n = l.length := by
    have : ∀ (l : List Int) (h : HS), (h.put l).n = h.n + l.length := by
      intro l
      induction l with
      | nil => intro h; rfl
      | cons c l ih => intro h; show ((h.step c).put l).n = _; rw [ih]; have : (h.step c).n = h.n + 1 := by { unfold HS.step; split <;> rfl }; simp only [List.length_cons]; omega
    rw [this, hn]; omega
  unfold HS.dig HS.fin
  rw [hN, ← HS.put_app, ← pad_eq]
  have hoa : Oc (l ++ padR l.length) := fun v hv => by
    rcases List.mem_append.1 hv with h1 | h1
    · exact ho v h1
    · exact pad_oc _ v h1
  have hlen : (l ++ padR l.length).length % 64 = 0 := by
    rw [List.length_append, padR_len]
    unfold padN
    omega
  have hst : AllW startR := by unfold AllW W32 startR; decide
  have hk := put_all (h := h) (by rw [hs]; rfl) hb (by rw [hn]) (by rw [hs]; exact hst) hoa ((l ++ padR l.length).length / 64) (by omega)
  have htk : (l ++ padR l.length).take (64 * ((l ++ padR l.length).length / 64)) = l ++ padR l.length := List.take_of_length_le (by omega)
  rw [htk] at hk
  rw [hk.1, hs]
  unfold sumR
  exact out_eq _ (stAll_len (st := startR) rfl _) (stAll_w (st := startR) rfl hst hoa _)
end Go.Proofs.YtngoaapgdfohjaaGreatDoor.TK

set_option linter.unusedVariables false
set_option linter.unusedSimpArgs false
set_option maxRecDepth 100000
set_option maxHeartbeats 1000000
namespace Go.Proofs.YtngoaapgdfohjaaGreatDoor.TK
open Go Go.Proofs.YtngoaapgdfohjaaGreatDoor.X Go.Proofs
/-! ## The document's digits and bytes -/
def signR (n : Int) : Int := if n < 10 then 48 + n else 87 + n
theorem c_signR (n : Int) (h : 0 ≤ n ∧ n < 16) (G : Heap) : FnP Tryz.prog 116 [.int .u8 n] G (.int .u8 (signR n)) := by
  refine fnP_in Tryz.func116 rfl Tryz.ntmps116 rfl fun w0 Q0 hQ => ?_
  refine go ?_
  refine w_cd rfl (fun h1 => ?_) (fun h1 => ?_)
  · refine go ?_
    refine w_ret hQ ?_
    show Value.int .u8 _ = _
    unfold signR
    rw [if_pos h1, wrap_u8 (by omega)]
  · refine go ?_
    refine w_ret hQ ?_
    show Value.int .u8 _ = _
    unfold signR
    rw [if_neg (by omega), wrap_u8 (n := 97 + n) (by omega), wrap_u8 (by omega)]
    congr 1
    omega
def pairR (v : Int) : List Int := [signR (v / 16), signR (v % 16)]
def encR (l : List Int) : Bs := l.flatMap fun v => txt (pairR v)
theorem encR_take {l : List Int} {i : Nat} (hi : i < l.length) : encR (l.take (i + 1)) = encR (l.take i) ++ txt (pairR (l.getD i 0)) := by
  rw [List.take_add_one, List.getElem?_eq_getElem hi]
  simp only [encR, List.flatMap_append, Option.toList_some, List.flatMap_cons, List.flatMap_nil, List.append_nil, List.getD_eq_getElem?_getD, List.getElem?_eq_getElem hi, Option.getD_some]
theorem encR_len (l : List Int) : (encR l).length = 2 * l.length := by
  unfold encR
  induction l with
  | nil => rfl
  | cons v l ih => rw [List.flatMap_cons, List.length_append, ih]; simp [txt, pairR]; omega
theorem pair_eq (v : Int) (h : 0 ≤ v ∧ v < 256) : pairR v = [bt hexB (shrI .u8 v 4), bt hexB (bAnd .u8 v 15)] := by
  have key : ∀ n : Fin 256, pairR (n.val : Int) = [bt hexB (shrI .u8 (n.val : Int) 4), bt hexB (bAnd .u8 (n.val : Int) 15)] := by decide +kernel
  have := key ⟨v.toNat, by omega⟩
  rwa [show ((v.toNat : Nat) : Int) = v from by omega] at this
theorem enc_eq {l : List Int} (h : Oct l) : encR l = txt (encS l) := by
  have key : ∀ (l : List Int) (o : List Int), Oct l → txt (l.foldl (fun o v => o ++ [bt hexB (shrI .u8 v 4), bt hexB (bAnd .u8 v 15)]) o) = txt o ++ encR l := by
    intro l
    induction l with
    | nil => intro o _; simp [encR]
    | cons v l ih =>
      intro o h
      rw [List.foldl_cons, ih _ (fun u hu => h u (List.mem_cons_of_mem _ hu))]
      unfold encR
      rw [List.flatMap_cons, pair_eq v (h v List.mem_cons_self)]
      simp [txt]
  have := key l [] h
  unfold encS
  rw [this]
  rfl
theorem c_EncR (l : List Int) (h8 : Oct l) (A : Option Addr) (c : Nat) (G : Heap) (hR : Rd (Knd.int .u8) G A l) (hl : l.length ≤ 1000000) :
    FnP Tryz.prog 70 [.slice A l.length c] G (str (encR l)) := by
  refine fnP_in Tryz.func70 rfl Tryz.ntmps70 rfl fun w0 Q0 hQ => ?_
  refine go ?_
  refine w_loop (fun i : Nat => [(3, str (encR (l.take i))), (4, .int .i64 (i : Int))]) (fun _ => []) (fun i _ => i ≤ l.length) (fun i => l.length - i) 0 (by omega) ?_
  intro i G1 _ hi
  have hlen := encR_len (l.take i)
  have hil : (l.take i).length = i := by rw [List.length_take]; omega
  refine go ?_
  refine w_cd rfl (fun h3 => ?_) (fun h3 => ?_)
  · have hi' : i < l.length := by omega
    have hv : 0 ≤ l.getD i 0 ∧ l.getD i 0 < 256 := by
      rw [List.getD_eq_getElem?_getD, List.getElem?_eq_getElem hi', Option.getD_some]
      exact h8 _ (List.getElem_mem hi')
    refine go ?_
    refine w_dc 16 (by kernel_rfl) ?_
    refine dcg ?_
    refine .cons (p_call rfl rfl rfl (c_signR (l.getD i 0 / 16) (by omega) G1)) (dcg ?_)
    refine .cons (p_call rfl rfl rfl (c_signR (l.getD i 0 % 16) (by omega) G1)) (dcg ?_)
    refine .call (r_lit (K := Knd.int .u8) (pairR (l.getD i 0)) rfl rfl rfl (cs := #[.int .u8 (signR (l.getD i 0 / 16)), .int .u8 (signR (l.getD i 0 % 16))]) (by kernel_rfl) ⟨rfl, rfl, rfl⟩) ?_
    refine .dep 24 _ (.head _) rfl (fun _ _ _ _ h => h) rfl (fun v G5 hl hv => by obtain ⟨b, rfl, hR5⟩ := hv; exact (p_b2s (ns := pairR (l.getD i 0)) rfl rfl hR5 (.refl _)).toR) ?_
    refine .dep 25 _ (.head _) rfl (fun _ _ _ _ h => h) rfl (fun v G5 hl hv => by cases hv; exact (p_cat (r' := txt (pairR (l.getD i 0))) rfl rfl rfl (by rw [hlen, hil]; simp [txt, pairR]; omega)).toR) (.nil ?_)
    intro G2 _; simp only [KC]
    rintro _ rfl _ rfl _ _
    rw [← encR_take hi']
    refine go ?_
    exact w_again (i + 1) (by omega) (by omega)
  · have : i = l.length := by omega
    subst this
    rw [List.take_length]
    refine go ?_
    exact w_ret hQ rfl
end Go.Proofs.YtngoaapgdfohjaaGreatDoor.TK

set_option linter.unusedVariables false
set_option linter.unusedSimpArgs false
set_option maxRecDepth 100000
set_option maxHeartbeats 4000000
namespace Go.Proofs.YtngoaapgdfohjaaGreatDoor.TK
open Go Go.Proofs.YtngoaapgdfohjaaGreatDoor.X Go.Proofs
/-! ## The document's round, walked -/
theorem c_turnedR (x n : Int) (hn : 1 ≤ n ∧ n ≤ 31) (G : Heap) : FnP Tryz.prog 189 [.int .u64 x, .int .u64 n] G (.int .u64 (turnR x n)) := by
  refine fnP_in Tryz.func189 rfl Tryz.ntmps189 rfl fun w0 Q0 hQ => ?_
  refine go ?_
  exact w_ret hQ rfl
theorem c_rightR (x a b : Int) (ha : 1 ≤ a ∧ a ≤ 31) (hb : 1 ≤ b ∧ b ≤ 31) (G : Heap) : FnP Tryz.prog 187 [.int .u64 x, .int .u64 a, .int .u64 b] G (.int .u64 (rightR x a b)) := by
  refine fnP_in Tryz.func187 rfl Tryz.ntmps187 rfl fun w0 Q0 hQ => ?_
  refine go ?_
  refine w_stp (p_call rfl rfl rfl (c_turnedR x a ha G)) ?_
  refine go ?_
  refine w_stp (p_call rfl rfl rfl (c_turnedR x b hb G)) ?_
  refine go ?_
  exact w_ret hQ rfl
theorem c_ksR (G : Heap) : FnP Tryz.prog 188 [] G (.agg (ks.map (Value.int .u64)).toArray) := by
  refine fnP_in Tryz.func188 rfl Tryz.ntmps188 rfl fun w0 Q0 hQ => ?_
  refine go ?_; intro B0
  refine go ?_
  have hkl := ks_len
  refine w_stp (p_build (cs := (ks.map (Value.int .u64)).toArray) rfl rfl (by kernel_rfl)) ?_
  refine go ?_
  exact w_ret hQ rfl
theorem c_StartR (G : Heap) : FnP Tryz.prog 151 [] G (.agg (startR.map (Value.int .u64)).toArray) := by
  refine fnP_in Tryz.func151 rfl Tryz.ntmps151 rfl fun w0 Q0 hQ => ?_
  refine go ?_; intro B0
  refine go ?_
  have hkl : startR.length = 8 := rfl
  refine w_stp (p_build (cs := (startR.map (Value.int .u64)).toArray) rfl rfl (by kernel_rfl)) ?_
  refine go ?_
  exact w_ret hQ rfl
theorem wkR_rng {bl : List Int} (h : Oc bl) (i : Nat) : ∀ k, k ≤ 4 → 0 ≤ wkR bl i k ∧ wkR bl i k < 256 ^ k
  | 0, _ => ⟨by simp [wkR], by simp [wkR]⟩
  | k + 1, hk => by
    have h1 := wkR_rng h i k (by omega)
    have h2 := h.at (4 * i + k)
    simp only [wkR]
    rw [Int.pow_succ]
    omega
theorem wAR_len (bl : List Int) : ∀ i, (wAR bl i).length = 64
  | 0 => by simp [wAR]
  | i + 1 => by simp [wAR, wAR_len bl i]
theorem wBR_len (bl : List Int) : ∀ i, (wBR bl i).length = 64
  | 0 => wAR_len bl 16
  | i + 1 => by simp [wBR, wBR_len bl i]
theorem wAR_hi (bl : List Int) : ∀ i j, i ≤ j → j < 64 → (wAR bl i)[j]? = some 0
  | 0, j, _, h => by simp only [wAR]; rw [List.getElem?_replicate, if_pos h]
  | i + 1, j, h, h2 => by
    simp only [wAR]
    rw [List.getElem?_set_ne (by omega)]
    exact wAR_hi bl i j (by omega) h2
theorem wAR_nought (bl : List Int) (i : Nat) (h : i < 64) : (wAR bl i).set i (wkR bl i 0) = wAR bl i := by
  have h1 := wAR_hi bl i i (Nat.le_refl _) h
  have hl := wAR_len bl i
  refine List.ext_getElem? fun j => ?_
  by_cases e : i = j
  · subst e
    rw [List.getElem?_set_self (by omega), h1]; rfl
  · rw [List.getElem?_set_ne e]
theorem pow256 {k : Nat} (h : k ≤ 3) : (256 : Int) ^ k ≤ 16777216 := by
  rcases (by omega : k = 0 ∨ k = 1 ∨ k = 2 ∨ k = 3) with rfl | rfl | rfl | rfl <;> decide
def Mt (st bl : List Int) (B2 B4 B5 : Nat) (w : List Int) : List Chunk := [[(B5, Arr 241 (w.map (Value.int .u64)))], [(B4, Arr 213 ((List.replicate 8 (0 : Int)).map (Value.int .u64)))], [(B2, Arr 213 (st.map (Value.int .u64)))]]
theorem c_TurnR (st bl : List Int) (hs : st.length = 8) (hw : AllW st) (hb : bl.length = 64) (ho : Oc bl) (A : Option Addr) (c : Nat) (G : Heap) (hR : Rd (Knd.int .u8) G A bl) :
    FnP Tryz.prog 152 [.agg (st.map (Value.int .u64)).toArray, .slice A bl.length c] G (.agg ((TurnR st bl).map (Value.int .u64)).toArray) := by
  refine fnP_in Tryz.func152 rfl Tryz.ntmps152 rfl fun w0 Q0 hQ => ?_
  refine go ?_; intro B2
  refine go ?_; intro B4
  refine go ?_; intro B5
  refine go ?_
  rw [← map_rep 64 .u64, ← map_rep 8 .u64]
  refine w_loop (fun i : Nat => [(6, .int .i64 (i : Int))]) (fun i => Mt st bl B2 B4 B5 (wAR bl i)) (fun i _ => i ≤ 16) (fun i => 16 - i) 0 (by omega) ?_
  intro i G1 _ hi
  have hA := wAR_len bl i
  unfold Mt
  refine go ?_
  refine w_cd rfl (fun h3 => ?_) (fun h3 => ?_)
  · refine go ?_
    refine w_blkAs (q := Arr 241 (((wAR bl i).set i (wkR bl i 0)).map (Value.int .u64))) (.here .here) (by rw [wAR_nought bl i (by omega)]) ?_
    refine w_loop (fun k : Nat => [(7, .int .i64 (k : Int))]) (fun k => Mt st bl B2 B4 B5 ((wAR bl i).set i (wkR bl i k))) (fun k _ => k ≤ 4) (fun k => 4 - k) 0 (by omega) ?_
    intro k G2 _ hk
    unfold Mt
    have hAl : ((wAR bl i).set i (wkR bl i k)).length = 64 := by rw [List.length_set]; exact hA
    refine go ?_
    refine w_cd rfl (fun h4 => ?_) (fun h4 => ?_)
    · have e : (4 * (i : Int) + (k : Int)).toNat = 4 * i + k := by omega
      have hv : ((wAR bl i).set i (wkR bl i k)).getD i 0 = wkR bl i k := by rw [List.getD_eq_getElem?_getD, List.getElem?_set_self (by omega)]; rfl
      have hr := wkR_rng ho i k hk
      have hr2 := pow256 (k := k) (by omega)
      have hby := ho.at (4 * (i : Int) + (k : Int)).toNat
      have hlt : wkR bl i k < 16777216 := Int.lt_of_lt_of_le hr.2 hr2
      refine go ?_
      refine w_dt 15 (by kernel_rfl) ?_
      refine dg ?_
      refine go ?_
      refine w_blkAs (q := Arr 241 (((wAR bl i).set i (wkR bl i (k + 1))).map (Value.int .u64))) (.here .here) (by rw [List.set_set, hv, e]; rfl) ?_
      exact w_again (k + 1) (by omega) (by omega)
    · have : k = 4 := by omega
      subst this
      refine go ?_
      exact w_again (i + 1) (by omega) (by omega)
  · have : i = 16 := by omega
    subst this
    refine go ?_
    refine w_loop (fun i : Nat => [(8, .int .i64 ((i + 16 : Nat) : Int))]) (fun i => Mt st bl B2 B4 B5 (wBR bl i)) (fun i _ => i ≤ 48) (fun i => 48 - i) 0 (by omega) ?_
    intro i G2 _ hi
    have hB := wBR_len bl i
    unfold Mt
    have hBw : AllW (wBR bl i) := by rw [(wB_eq ho i).1]; exact (wB_eq ho i).2
    refine go ?_
    refine w_cd rfl (fun h3 => ?_) (fun h3 => ?_)
    · have l15 := hBw.at (((i + 16 : Nat) : Int) - 15).toNat
      have l2 := hBw.at (((i + 16 : Nat) : Int) - 2).toNat
      have l16 := hBw.at (((i + 16 : Nat) : Int) - 16).toNat
      have l7 := hBw.at (((i + 16 : Nat) : Int) - 7).toNat
      have hlo := (low_eq l15).1 ▸ (low_eq l15).2
      have hhi := (high_eq l2).1 ▸ (high_eq l2).2
      refine go ?_
      refine w_dt 11 (by kernel_rfl) ?_
      refine dg ?_
      refine .cons (p_call rfl rfl rfl (c_rightR _ 7 18 (by decide) (by decide) G2)) (dg ?_)
      refine go ?_
      refine w_as 9 (.int .u64 (lowR ((wBR bl i).getD (((i + 16 : Nat) : Int) - 15).toNat 0))) rfl rfl ?_
      refine w_dt 11 (by kernel_rfl) ?_
      refine dg ?_
      refine .cons (p_call rfl rfl rfl (c_rightR _ 17 19 (by decide) (by decide) G2)) (dg ?_)
      refine go ?_
      refine w_as 10 (.int .u64 (highR ((wBR bl i).getD (((i + 16 : Nat) : Int) - 2).toNat 0))) rfl rfl ?_
      unfold W32 at *
      refine w_dt 16 (by kernel_rfl) ?_
      refine dg ?_
      refine go ?_
      exact w_again (i + 1) (by omega) (by omega)
    · have : i = 48 := by omega
      subst this
      have hB48 := hB
      generalize hW : wBR bl 48 = Wd at *
      have hl8 : ∀ j, (stR st Wd j).length = 8 := fun j => by cases j with
        | zero => exact hs
        | succ j => rfl
      refine go ?_
      refine w_stp (p_call rfl rfl rfl (c_ksR G2)) ?_
      refine go ?_; intro B11
      have hkl := ks_len
      refine go ?_
      refine w_d (by kernel_rfl) ?_
      refine dg ?_
      refine go ?_
      refine w_d (by kernel_rfl) ?_
      refine dg ?_
      refine go ?_
      refine w_loop (fun i : Nat => [(12, .int .u64 ((stR st Wd i).getD 0 0)), (13, .int .u64 ((stR st Wd i).getD 1 0)), (14, .int .u64 ((stR st Wd i).getD 2 0)), (15, .int .u64 ((stR st Wd i).getD 3 0)), (16, .int .u64 ((stR st Wd i).getD 4 0)), (17, .int .u64 ((stR st Wd i).getD 5 0)), (18, .int .u64 ((stR st Wd i).getD 6 0)), (19, .int .u64 ((stR st Wd i).getD 7 0)), (20, .int .i64 (i : Int))]) (fun i => [(B11, Arr 241 (ks.map (Value.int .u64)))] :: Mt st bl B2 B4 B5 Wd) (fun i _ => i ≤ 64) (fun i => 64 - i) 0 (by omega) ?_
      intro i G3 _ hi
      unfold Mt
      have hq : AllW (stR st Wd i) := by rw [(st_eq hw hBw i).1]; exact (st_eq hw hBw i).2
      have q0 := hq.at 0
      have q1 := hq.at 1
      have q2 := hq.at 2
      have q3 := hq.at 3
      have q4 := hq.at 4
      have q5 := hq.at 5
      have q6 := hq.at 6
      have q7 := hq.at 7
      have hk := ks_rng.at i
      have hwd := hBw.at i
      have hs1 := (s1_eq q4).1 ▸ (s1_eq q4).2
      have hs0 := (s0_eq q0).1 ▸ (s0_eq q0).2
      have hch := (ch_eq q4 q5 q6).1 ▸ (ch_eq q4 q5 q6).2
      have hma := (ma_eq q0 q1 q2).1 ▸ (ma_eq q0 q1 q2).2
      unfold W32 at *
      refine go ?_
      refine w_cd rfl (fun h3 => ?_) (fun h3 => ?_)
      · refine go ?_
        refine w_as 21 (.int .u64 (chR ((stR st Wd i).getD 4 0) ((stR st Wd i).getD 5 0) ((stR st Wd i).getD 6 0))) rfl rfl ?_
        refine w_d (by kernel_rfl) ?_
        refine dg ?_
        refine .cons (p_call rfl rfl rfl (c_rightR _ 6 11 (by decide) (by decide) G3)) (dg ?_)
        refine .cons (p_call rfl rfl rfl (c_turnedR _ 25 (by decide) G3)) ?_
        refine .cons (p_pop (v := .int .u64 (s1R ((stR st Wd i).getD 4 0))) rfl rfl) (dg ?_)
        refine go ?_
        refine w_as 22 (.int .u64 (xR (stR st Wd i) Wd i)) rfl rfl ?_
        refine w_stp (p_call rfl rfl rfl (c_rightR _ 2 13 (by decide) (by decide) G3)) ?_
        refine go ?_
        refine w_stp (p_call rfl rfl rfl (c_turnedR _ 22 (by decide) G3)) ?_
        refine w_stp (p_pop (v := .int .u64 (s0R ((stR st Wd i).getD 0 0))) rfl rfl) ?_
        have hx := (x_eq hq hBw i).1 ▸ (x_eq hq hBw i).2
        unfold maR at hma
        unfold W32 at hx
        refine go ?_
        exact w_again (i + 1) (by omega) (by omega)
      · have : i = 64 := by omega
        subst this
        generalize hS : stR st Wd 64 = sd at *
        have hst0 := hw.at (0 : Int).toNat
        have hst1 := hw.at (1 : Int).toNat
        have hst2 := hw.at (2 : Int).toNat
        have hst3 := hw.at (3 : Int).toNat
        have hst4 := hw.at (4 : Int).toNat
        have hst5 := hw.at (5 : Int).toNat
        have hst6 := hw.at (6 : Int).toNat
        have hst7 := hw.at (7 : Int).toNat
        unfold W32 at *
        refine go ?_; intro B24
        refine go ?_
        rw [← map_rep 8 .u64]
        refine mem [[(B24, Arr 213 ((List.replicate 8 (0 : Int)).map (Value.int .u64)))], [(B2, Arr 213 (st.map (Value.int .u64)))], [(B4, Arr 213 ((List.replicate 8 (0 : Int)).map (Value.int .u64)))]] ?_
        refine w_de (fun f => [[(B24, Arr 213 (([bif f 21 then (st.getD 0 0 + sd.getD 0 0) % 4294967296 else 0, bif f 23 then (st.getD 1 0 + sd.getD 1 0) % 4294967296 else 0, bif f 25 then (st.getD 2 0 + sd.getD 2 0) % 4294967296 else 0, bif f 27 then (st.getD 3 0 + sd.getD 3 0) % 4294967296 else 0, 0, 0, 0, 0] : List Int).map (Value.int .u64)))], [(B2, Arr 213 (st.map (Value.int .u64)))], [(B4, Arr 213 ((List.replicate 8 (0 : Int)).map (Value.int .u64)))]]) (M := [[(B24, Arr 213 ((List.replicate 8 (0 : Int)).map (Value.int .u64)))], [(B2, Arr 213 (st.map (Value.int .u64)))], [(B4, Arr 213 ((List.replicate 8 (0 : Int)).map (Value.int .u64)))]]) (M' := [[(B24, Arr 213 (([(st.getD 0 0 + sd.getD 0 0) % 4294967296, (st.getD 1 0 + sd.getD 1 0) % 4294967296, (st.getD 2 0 + sd.getD 2 0) % 4294967296, (st.getD 3 0 + sd.getD 3 0) % 4294967296, 0, 0, 0, 0] : List Int).map (Value.int .u64)))], [(B2, Arr 213 (st.map (Value.int .u64)))], [(B4, Arr 213 ((List.replicate 8 (0 : Int)).map (Value.int .u64)))]]) rfl (fun f hf => by simp only [hf 21 (by decide), hf 23 (by decide), hf 25 (by decide), hf 27 (by decide), cond_true]) (by kernel_rfl) ?_
        refine deg ?_
        refine .eff rfl (fun f h1 h2 => (e_stRi rfl rfl rfl (.here .here) (by simp)).to rfl) (deg ?_)
        refine .eff rfl (fun f h1 h2 => (e_stRi rfl rfl rfl (.here .here) (by simp)).to rfl) (deg ?_)
        refine .eff rfl (fun f h1 h2 => (e_stRi rfl rfl rfl (.here .here) (by simp)).to rfl) (deg ?_)
        refine .eff rfl (fun f h1 h2 => (e_stRi rfl rfl rfl (.here .here) (by simp)).to rfl) (.nil ?_)
        intro G4 _
        refine go ?_
        refine w_de (fun f => [[(B24, Arr 213 (([(st.getD 0 0 + sd.getD 0 0) % 4294967296, (st.getD 1 0 + sd.getD 1 0) % 4294967296, (st.getD 2 0 + sd.getD 2 0) % 4294967296, (st.getD 3 0 + sd.getD 3 0) % 4294967296, bif f 21 then (st.getD 4 0 + sd.getD 4 0) % 4294967296 else 0, bif f 23 then (st.getD 5 0 + sd.getD 5 0) % 4294967296 else 0, bif f 25 then (st.getD 6 0 + sd.getD 6 0) % 4294967296 else 0, bif f 27 then (st.getD 7 0 + sd.getD 7 0) % 4294967296 else 0] : List Int).map (Value.int .u64)))], [(B2, Arr 213 (st.map (Value.int .u64)))], [(B4, Arr 213 ((List.replicate 8 (0 : Int)).map (Value.int .u64)))]]) (M := [[(B24, Arr 213 (([(st.getD 0 0 + sd.getD 0 0) % 4294967296, (st.getD 1 0 + sd.getD 1 0) % 4294967296, (st.getD 2 0 + sd.getD 2 0) % 4294967296, (st.getD 3 0 + sd.getD 3 0) % 4294967296, 0, 0, 0, 0] : List Int).map (Value.int .u64)))], [(B2, Arr 213 (st.map (Value.int .u64)))], [(B4, Arr 213 ((List.replicate 8 (0 : Int)).map (Value.int .u64)))]]) (M' := [[(B24, Arr 213 (([(st.getD 0 0 + sd.getD 0 0) % 4294967296, (st.getD 1 0 + sd.getD 1 0) % 4294967296, (st.getD 2 0 + sd.getD 2 0) % 4294967296, (st.getD 3 0 + sd.getD 3 0) % 4294967296, (st.getD 4 0 + sd.getD 4 0) % 4294967296, (st.getD 5 0 + sd.getD 5 0) % 4294967296, (st.getD 6 0 + sd.getD 6 0) % 4294967296, (st.getD 7 0 + sd.getD 7 0) % 4294967296] : List Int).map (Value.int .u64)))], [(B2, Arr 213 (st.map (Value.int .u64)))], [(B4, Arr 213 ((List.replicate 8 (0 : Int)).map (Value.int .u64)))]]) rfl (fun f hf => by simp only [hf 21 (by decide), hf 23 (by decide), hf 25 (by decide), hf 27 (by decide), cond_true]) (by kernel_rfl) ?_
        refine deg ?_
        refine .eff rfl (fun f h1 h2 => (e_stRi rfl rfl rfl (.here .here) (by simp)).to rfl) (deg ?_)
        refine .eff rfl (fun f h1 h2 => (e_stRi rfl rfl rfl (.here .here) (by simp)).to rfl) (deg ?_)
        refine .eff rfl (fun f h1 h2 => (e_stRi rfl rfl rfl (.here .here) (by simp)).to rfl) (deg ?_)
        refine .eff rfl (fun f h1 h2 => (e_stRi rfl rfl rfl (.here .here) (by simp)).to rfl) (.nil ?_)
        intro G5 _
        refine w_blkAs (q := Arr 213 ((TurnR st bl).map (Value.int .u64))) (.here .here) (by unfold TurnR; rw [hW, hS]; rfl) ?_
        have hlen : (TurnR st bl).length = 8 := by simp [TurnR]
        refine go ?_
        exact w_ret hQ rfl
end Go.Proofs.YtngoaapgdfohjaaGreatDoor.TK

set_option linter.unusedVariables false
set_option linter.unusedSimpArgs false
set_option maxRecDepth 100000
set_option maxHeartbeats 4000000
namespace Go.Proofs.YtngoaapgdfohjaaGreatDoor.TK
open Go Go.Proofs.YtngoaapgdfohjaaGreatDoor.X Go.Proofs
/-! ## The document's digest, walked -/
def zed (n : Nat) : Nat := padN n - 1
def onesR (z : Nat) : List Int := [128] ++ List.replicate z 0
theorem ones_len (z : Nat) : (onesR z).length = 1 + z := by simp [onesR]; omega
theorem ones_step (z : Nat) : onesR z ++ [0] = onesR (z + 1) := by
  unfold onesR
  rw [List.append_assoc]
  congr 1
  rw [← List.replicate_succ']
def tailR (n : Nat) (j : Nat) : List Int := (List.range j).map fun (k : Nat) => byR (8 * (n : Int)) (56 - 8 * (k : Int))
theorem tail_step (n j : Nat) : tailR n j ++ [byR (8 * (n : Int)) (56 - 8 * (j : Int))] = tailR n (j + 1) := by
  unfold tailR
  rw [List.range_succ, List.map_append]
  rfl
theorem tail_len (n j : Nat) : (tailR n j).length = j := by simp [tailR]
theorem pad_parts (n : Nat) : onesR (zed n) ++ tailR n 8 = padR n := rfl
theorem c_PadR (n : Nat) (hn : n ≤ 1152921504606846975) (G : Heap) : FnR Tryz.prog 150 [.int .u64 (n : Int)] G (fun r G' => ∃ A c, r = .slice A (padR n).length c ∧ (padR n).length ≤ c ∧ Rd (Knd.int .u8) G' A (padR n)) := by
  refine fn_in Tryz.func150 rfl Tryz.ntmps150 rfl fun w0 Q0 hQ => ?_
  have hz : zed n = (119 - n % 64) % 64 := by unfold zed padN; omega
  refine go ?_
  refine w_litO (K := Knd.int .u8) (onesR 0) rfl rfl rfl (cs := #[.int .u8 128]) (by kernel_rfl) ⟨rfl, rfl⟩ rfl rfl rfl (by decide) fun A1 c1 C1 hO1 => ?_
  refine go ?_
  refine w_loop (α := Nat × Option Addr × Nat × Chunk) (fun x => [(3, .slice x.2.1 (onesR x.1).length x.2.2.1)]) (fun x => [x.2.2.2]) (fun x G => x.1 ≤ zed n ∧ X.Own (Knd.int .u8) 5 G x.2.1 x.2.2.1 (onesR x.1) x.2.2.2) (fun x => zed n - x.1) (0, A1, c1, C1) ⟨by omega, hO1⟩ ?_
  rintro ⟨z, A3, c3, C3⟩ G1 _ ⟨hi, hO3⟩
  dsimp only at hi hO3 ⊢
  have hol := ones_len z
  refine go ?_
  refine w_cd rfl (fun h3 => ?_) (fun h3 => ?_)
  · refine go ?_
    refine w_push (K := Knd.int .u8) 0 rfl rfl rfl rfl (cs := #[.int .u8 0]) (by kernel_rfl) rfl rfl (by simp) hO3 inferInstance .here rfl (kone_int _) (by omega) fun b A5 c5 C5 G5 _ hO5 => ?_
    rw [ones_step] at hO5
    rw [ones_step]
    refine go ?_
    exact w_again (z + 1, A5, c5, C5) ⟨by omega, hO5⟩ (by show zed n - (z + 1) < zed n - z; omega)
  · have hze : z = zed n := by omega
    subst hze
    refine go ?_
    rw [show onesR (zed n) = onesR (zed n) ++ tailR n 0 by simp [tailR]] at hO3 ⊢
    refine w_loop (α := Nat × Option Addr × Nat × Chunk) (fun x => [(3, .slice x.2.1 (onesR (zed n) ++ tailR n x.1).length x.2.2.1), (5, .int .i64 (56 - 8 * (x.1 : Int)))]) (fun x => [x.2.2.2]) (fun x G => x.1 ≤ 8 ∧ X.Own (Knd.int .u8) 5 G x.2.1 x.2.2.1 (onesR (zed n) ++ tailR n x.1) x.2.2.2) (fun x => 8 - x.1) (0, A3, c3, C3) ⟨by omega, hO3⟩ ?_
    rintro ⟨j, A4, c4, C4⟩ G2 _ ⟨hj, hO4⟩
    dsimp only at hj hO4 ⊢
    have htl : (onesR (zed n) ++ tailR n j).length = 1 + zed n + j := by rw [List.length_append, ones_len, tail_len]
    refine go ?_
    refine w_cd rfl (fun h4 => ?_) (fun h4 => ?_)
    · refine go ?_
      refine w_push (K := Knd.int .u8) (byR (8 * (n : Int)) (56 - 8 * (j : Int))) rfl rfl rfl rfl (cs := #[.int .u8 (byR (8 * (n : Int)) (56 - 8 * (j : Int)))]) (by kernel_rfl) rfl rfl (by simp) hO4 inferInstance .here rfl (kone_int _) (by omega) fun b A5 c5 C5 G5 _ hO5 => ?_
      rw [List.append_assoc, tail_step] at hO5
      rw [List.append_assoc, tail_step]
      refine go ?_
      refine w_as 5 (.int .i64 (56 - 8 * ((j + 1 : Nat) : Int))) rfl (by congr 1; omega) ?_
      exact w_again (j + 1, A5, c5, C5) ⟨by omega, hO5⟩ (by show 8 - (j + 1) < 8 - j; omega)
    · have : j = 8 := by omega
      subst this
      rw [pad_parts] at hO4 ⊢
      refine go ?_
      refine w_stillO hO4 inferInstance .here fun G3 _ hR3 hc => ?_
      refine w_ret hQ ?_
      exact ⟨_, _, rfl, hc, hR3⟩
def outT (s : List Int) (i : Nat) : List Int := ((List.range i).map fun i => byR (s.getD (i / 4) 0) (24 - 8 * ((i % 4 : Nat) : Int))) ++ List.replicate (32 - i) 0
theorem outT_len (s : List Int) (i : Nat) (h : i ≤ 32) : (outT s i).length = 32 := by simp [outT]; omega
theorem outT_step (s : List Int) (i : Nat) (h : i < 32) : (outT s i).set i (byR (s.getD (i / 4) 0) (24 - 8 * ((i % 4 : Nat) : Int))) = outT s (i + 1) := by
  unfold outT
  rw [List.set_append_right _ _ (by simp), List.range_succ, List.map_append, List.append_assoc]
  congr 1
  simp only [List.length_map, List.length_range, Nat.sub_self]
  rw [show 32 - i = (32 - (i + 1)) + 1 by omega, List.replicate_succ, List.set_cons_zero]
  rfl
theorem allN_len (l : List Int) : (l ++ padR l.length).length = 64 * ((l ++ padR l.length).length / 64) := by
  rw [List.length_append, padR_len]
  unfold padN
  omega
theorem startR_w : AllW startR := by unfold AllW W32 startR; decide
theorem c_SumR (l : List Int) (ho : Oc l) (hl : l.length ≤ 1000000000) (A : Option Addr) (c : Nat) (G : Heap) (hR : Rd (Knd.int .u8) G A l) :
    FnP Tryz.prog 115 [.slice A l.length c] G (.agg ((sumR l).map (Value.int .u8)).toArray) := by
  refine fnP_in Tryz.func115 rfl Tryz.ntmps115 rfl fun w0 Q0 hQ => ?_
  refine go ?_; intro B2
  refine go ?_
  rw [← map_rep 32 .u8]
  refine w_nilO (K := Knd.int .u8) 5 fun hO => ?_
  refine w_app (xs := ([] : List Int)) rfl rfl hO inferInstance .here rfl hR inferInstance rfl (kone_int _) (by simp; omega) fun A1 c1 C1 hO1 => ?_
  refine go ?_
  refine w_call rfl rfl rfl (c_PadR l.length (by omega) _) fun r G2 _ hr => ?_
  obtain ⟨A2, c2, rfl, hc2, hR2⟩ := hr
  have hpl := padR_len l.length
  have hpn : padN l.length ≤ 64 := by unfold padN; omega
  refine w_app (xs := ([] ++ l : List Int)) rfl rfl hO1 inferInstance .here rfl hR2 (.refl _) rfl (kone_int _) (by rw [hpl]; simp; omega) fun A3 c3 C3 hO3 => ?_
  rw [List.nil_append] at hO3 ⊢
  have hall := allN_len l
  have hoa : Oc (l ++ padR l.length) := fun v hv => by
    rcases List.mem_append.1 hv with h1 | h1
    · exact ho v h1
    · exact pad_oc _ v h1
  have hbig : (l ++ padR l.length).length ≤ 1000000072 := by rw [List.length_append, hpl]; omega
  unfold sumR at *
  generalize hal : l ++ padR l.length = all at *
  generalize hK : all.length / 64 = K at *
  refine go ?_
  refine w_stp (p_call rfl rfl rfl (c_StartR _)) ?_
  refine go ?_; intro B4
  have hsl : startR.length = 8 := rfl
  refine go ?_
  refine w_stillO hO3 (.refl _) (.there .here) fun G4 _ hR4 hc4 => ?_
  refine w_loop (fun i : Nat => [(5, .int .i64 (64 * (i : Int)))]) (fun i => [[(B4, Arr 213 ((stAll startR all i).map (Value.int .u64)))], [(B2, Arr 97 ((List.replicate 32 (0 : Int)).map (Value.int .u8)))]]) (fun i _ => i ≤ K) (fun i => K - i) 0 (by omega) ?_
  intro i G5 _ hi
  have h8 := stAll_len (all := all) hsl i
  have hw8 := stAll_w (all := all) hsl startR_w hoa i
  refine go ?_
  refine w_cd rfl (fun h3 => ?_) (fun h3 => ?_)
  · refine go ?_
    refine w_dc 6 (by kernel_rfl) ?_
    refine dcg ?_
    refine .call (r_slLH (K := Knd.int .u8) (lo := 64 * i) (hi := 64 * i + 64) rfl rfl (by show some (Value.int .i64 (64 * (i : Int))) = some (Value.int .i64 ((64 * i : Nat) : Int)); congr 2) (by show some (Value.int .i64 (64 * (i : Int) + 64)) = some (Value.int .i64 ((64 * i + 64 : Nat) : Int)); congr 2) rfl rfl hR4 inferInstance rfl hc4 (by omega)) (.nil ?_)
    intro G6 _; simp only [KC]
    rintro _ ⟨A6, c6, rfl, hc6, hR6⟩
    have hcl : ((all.drop (64 * i)).take (64 * i + 64 - 64 * i)).length = 64 := by rw [List.length_take, List.length_drop]; omega
    refine w_as 30 (.slice A6 ((all.drop (64 * i)).take 64).length c6) rfl (by rw [show 64 * i + 64 - 64 * i = 64 by omega] at hcl ⊢; rw [hcl]) ?_
    rw [show 64 * i + 64 - 64 * i = 64 by omega] at hcl hR6
    have hoc : Oc ((all.drop (64 * i)).take 64) := oc_sub hoa fun v hv => List.mem_of_mem_drop (List.mem_of_mem_take hv)
    refine w_stp (p_call rfl rfl rfl (c_TurnR (stAll startR all i) _ h8 hw8 hcl hoc A6 c6 _ hR6)) ?_
    have h9 := stAll_len (all := all) hsl (i + 1)
    have hTl : (TurnR (stAll startR all i) ((all.drop (64 * i)).take 64)).length = 8 := h9
    refine go ?_
    refine w_as 5 (.int .i64 (64 * ((i + 1 : Nat) : Int))) rfl (by congr 1) ?_
    exact w_again (i + 1) (by omega) (by omega)
  · have : i = K := by omega
    subst this
    refine go ?_; intro B6
    refine go ?_
    rw [← map_rep 32 .u8]
    generalize hS : stAll startR all i = sd at *
    refine w_loop (fun j : Nat => [(7, .int .i64 (j : Int))]) (fun j => [[(B6, Arr 97 ((outT sd j).map (Value.int .u8)))], [(B4, Arr 213 (sd.map (Value.int .u64)))], [(B2, Arr 97 ((List.replicate 32 (0 : Int)).map (Value.int .u8)))]]) (fun j _ => j ≤ 32) (fun j => 32 - j) 0 (by omega) ?_
    intro j G6 _ hj
    have hol := outT_len sd j hj
    refine go ?_
    refine w_cd rfl (fun h4 => ?_) (fun h4 => ?_)
    · refine go ?_
      refine w_blkAs (q := Arr 97 ((outT sd (j + 1)).map (Value.int .u8))) (.here .here) (by rw [← outT_step sd j (by omega), show ((j : Int) / 4).toNat = j / 4 by omega, show (j : Int) % 4 = ((j % 4 : Nat) : Int) by omega]; rfl) ?_
      exact w_again (j + 1) (by omega) (by omega)
    · have : j = 32 := by omega
      subst this
      have e : outT sd 32 = outR sd := by simp [outT, outR]
      have hol2 : (outR sd).length = 32 := by rw [← e]; exact hol
      refine w_blkAs (q := Arr 97 ((outR sd).map (Value.int .u8))) (.here .here) (by rw [e]) ?_
      refine go ?_
      exact w_ret hQ rfl
end Go.Proofs.YtngoaapgdfohjaaGreatDoor.TK

set_option linter.unusedVariables false
set_option linter.unusedSimpArgs false
set_option maxRecDepth 100000
set_option maxHeartbeats 4000000
namespace Go.Proofs.YtngoaapgdfohjaaGreatDoor.TK
open Go Go.Proofs.YtngoaapgdfohjaaGreatDoor.X Go.Proofs
/-! ## The document's seal and tag, walked -/
def cpT (l : List Int) (i : Nat) : List Int := l.take i ++ List.replicate (64 - i) 0
theorem cpT_len (l : List Int) (i : Nat) (h : i ≤ l.length) (h2 : i ≤ 64) : (cpT l i).length = 64 := by simp [cpT]; omega
theorem cpT_step (l : List Int) (i : Nat) (h : i < l.length) (h2 : i < 64) : (cpT l i).set i (l.getD i 0) = cpT l (i + 1) := by
  unfold cpT
  have hl : (l.take i).length = i := by rw [List.length_take]; omega
  rw [List.set_append_right _ _ (by omega), hl, Nat.sub_self, List.take_add_one, List.getElem?_eq_getElem h, Option.toList_some, List.append_assoc]
  congr 1
  rw [show 64 - i = (64 - (i + 1)) + 1 by omega, List.replicate_succ, List.set_cons_zero, List.getD_eq_getElem?_getD, List.getElem?_eq_getElem h]
  rfl
def blockR (key : List Int) : List Int := if key.length ≤ 64 then cpT key key.length else cpT (sumR key) 32
theorem blockR_len (key : List Int) : (blockR key).length = 64 := by
  unfold blockR
  split
  · exact cpT_len _ _ (Nat.le_refl _) (by omega)
  · exact cpT_len _ _ (by rw [sumR_len]; decide) (by decide)
theorem c_BlockR (l : List Int) (ho : Oc l) (hl : l.length ≤ 1000000000) (A : Option Addr) (c : Nat) (G : Heap) (hR : Rd (Knd.int .u8) G A l) :
    FnP Tryz.prog 114 [.slice A l.length c] G (.agg ((blockR l).map (Value.int .u8)).toArray) := by
  refine fnP_in Tryz.func114 rfl Tryz.ntmps114 rfl fun w0 Q0 hQ => ?_
  refine go ?_; intro B2
  refine go ?_; intro B3
  refine go ?_
  have hbl := blockR_len l
  rw [← map_rep 64 .u8]
  refine w_cd rfl (fun h => ?_) (fun h => ?_)
  · have h' : l.length ≤ 64 := by omega
    refine go ?_
    refine w_loop (fun i : Nat => [(4, .int .i64 (i : Int))]) (fun i => [[(B3, Arr 150 ((cpT l i).map (Value.int .u8)))], [(B2, Arr 150 ((List.replicate 64 (0 : Int)).map (Value.int .u8)))]]) (fun i _ => i ≤ l.length) (fun i => l.length - i) 0 (by omega) ?_
    intro i G1 _ hi
    have hcl := cpT_len l i hi (by omega)
    refine go ?_
    refine w_cd rfl (fun h3 => ?_) (fun h3 => ?_)
    · refine go ?_
      refine w_blkAs (q := Arr 150 ((cpT l (i + 1)).map (Value.int .u8))) (.here .here) (by rw [← cpT_step l i (by omega) (by omega)]) ?_
      exact w_again (i + 1) (by omega) (by omega)
    · have : i = l.length := by omega
      subst this
      refine w_blkAs (q := Arr 150 ((blockR l).map (Value.int .u8))) (.here .here) (by unfold blockR; rw [if_pos h']) ?_
      refine go ?_
      exact w_ret hQ rfl
  · have h' : ¬ l.length ≤ 64 := by omega
    refine go ?_
    refine w_stp (p_call rfl rfl rfl (c_SumR l ho hl A c _ hR.up)) ?_
    have hs := sumR_len l
    refine go ?_; intro B5
    refine go ?_
    refine w_loop (fun i : Nat => [(6, .int .i64 (i : Int))]) (fun i => [[(B3, Arr 150 ((cpT (sumR l) i).map (Value.int .u8)))], [(B5, Arr 97 ((sumR l).map (Value.int .u8)))], [(B2, Arr 150 ((List.replicate 64 (0 : Int)).map (Value.int .u8)))]]) (fun i _ => i ≤ 32) (fun i => 32 - i) 0 (by omega) ?_
    intro i G1 _ hi
    have hcl := cpT_len (sumR l) i (by omega) (by omega)
    refine go ?_
    refine w_cd rfl (fun h3 => ?_) (fun h3 => ?_)
    · refine go ?_
      refine w_blkAs (q := Arr 150 ((cpT (sumR l) (i + 1)).map (Value.int .u8))) (.here .here) (by rw [← cpT_step (sumR l) i (by omega) (by omega)]) ?_
      exact w_again (i + 1) (by omega) (by omega)
    · have : i = 32 := by omega
      subst this
      refine w_blkAs (q := Arr 150 ((blockR l).map (Value.int .u8))) (.here .here) (by unfold blockR; rw [if_neg h']) ?_
      refine go ?_
      exact w_ret hQ rfl
def xorR (bl : List Int) (c : Int) : List Int := bl.map fun v => bXor .u8 v c
theorem xorR_step {bl : List Int} {c : Int} {i : Nat} (h : i < bl.length) : xorR (bl.take i) c ++ [bXor .u8 (bl.getD i 0) c] = xorR (bl.take (i + 1)) c := by
  unfold xorR
  rw [List.take_add_one, List.getElem?_eq_getElem h, Option.toList_some, List.map_append, List.getD_eq_getElem?_getD, List.getElem?_eq_getElem h]
  rfl
theorem bXor8 (a c : Int) : 0 ≤ bXor .u8 a c ∧ bXor .u8 a c < 256 := by
  unfold bXor
  exact wrap8_rng _
theorem xorR_oc (bl : List Int) (c : Int) : Oc (xorR bl c) := fun v hv => by
  obtain ⟨u, _, rfl⟩ := List.mem_map.1 hv
  exact bXor8 _ _
theorem oc_app {a b : List Int} (ha : Oc a) (hb : Oc b) : Oc (a ++ b) := fun v hv => by
  rcases List.mem_append.1 hv with h1 | h1
  · exact ha v h1
  · exact hb v h1
theorem sumR_oc (l : List Int) : Oc (sumR l) := out_oc _
def macR (key b : List Int) : List Int := sumR (xorR (blockR key) 92 ++ sumR (xorR (blockR key) 54 ++ b))
theorem c_MacR (l : List Int) (ho : Oc l) (hl : l.length ≤ 1000000) (A : Option Addr) (c : Nat) (G : Heap) (hR : Rd (Knd.int .u8) G A l) (m : List Int) (hom : Oc m) (hml : m.length ≤ 100000000) (A2 : Option Addr) (c2 : Nat) (hR2 : Rd (Knd.int .u8) G A2 m) :
    FnP Tryz.prog 69 [.slice A l.length c, .slice A2 m.length c2] G (.agg ((macR l m).map (Value.int .u8)).toArray) := by
  refine fnP_in Tryz.func69 rfl Tryz.ntmps69 rfl fun w0 Q0 hQ => ?_
  refine go ?_; intro B4
  refine go ?_
  refine w_stp (p_call rfl rfl rfl (c_BlockR l ho (by omega) A c _ hR.up)) ?_
  have hbl := blockR_len l
  refine go ?_; intro B5
  refine go ?_
  unfold macR at hQ
  generalize hB : blockR l = bl at *
  rw [← map_rep 32 .u8]
  refine w_nilO (K := Knd.int .u8) 5 fun hO => ?_
  refine w_nilO (K := Knd.int .u8) 5 fun hO2 => ?_
  refine w_loop (α := Nat × (Option Addr × Nat × Chunk) × (Option Addr × Nat × Chunk)) (fun x => [(6, .slice x.2.1.1 (xorR (bl.take x.1) 54).length x.2.1.2.1), (7, .slice x.2.2.1 (xorR (bl.take x.1) 92).length x.2.2.2.1), (8, .int .i64 (x.1 : Int))]) (fun x => [x.2.1.2.2, x.2.2.2.2, [(B5, Arr 150 (bl.map (Value.int .u8)))], [(B4, Arr 97 ((List.replicate 32 (0 : Int)).map (Value.int .u8)))]]) (fun x G => x.1 ≤ 64 ∧ X.Own (Knd.int .u8) 5 G x.2.1.1 x.2.1.2.1 (xorR (bl.take x.1) 54) x.2.1.2.2 ∧ X.Own (Knd.int .u8) 5 G x.2.2.1 x.2.2.2.1 (xorR (bl.take x.1) 92) x.2.2.2.2) (fun x => 64 - x.1) (0, (none, 0, []), (none, 0, [])) ⟨by omega, hO, hO2⟩ ?_
  rintro ⟨i, ⟨A6, c6, C6⟩, ⟨A7, c7, C7⟩⟩ G1 _ ⟨hi, hO6, hO7⟩
  dsimp only at hi hO6 hO7 ⊢
  have hx1 : (xorR (bl.take i) 54).length = i := by simp [xorR]; omega
  have hx2 : (xorR (bl.take i) 92).length = i := by simp [xorR]; omega
  refine go ?_
  refine w_cd rfl (fun h3 => ?_) (fun h3 => ?_)
  · have hr1 := bXor8 (bl.getD i 0) 54
    have hr2 := bXor8 (bl.getD i 0) 92
    refine go ?_
    refine w_push (K := Knd.int .u8) (bXor .u8 (bl.getD i 0) 54) rfl rfl rfl rfl (cs := #[.int .u8 (bXor .u8 (bl.getD i 0) 54)]) (by kernel_rfl) rfl rfl (by simp) hO6 inferInstance .here rfl (kone_int _) (by omega) fun b A8 c8 C8 G8 _ hO8 => ?_
    rw [xorR_step (by omega)] at hO8
    rw [xorR_step (by omega)]
    refine go ?_
    refine w_push (K := Knd.int .u8) (bXor .u8 (bl.getD i 0) 92) rfl rfl rfl rfl (cs := #[.int .u8 (bXor .u8 (bl.getD i 0) 92)]) (by kernel_rfl) rfl rfl (by simp) hO7 inferInstance (.there .here) rfl (kone_int _) (by omega) fun b A9 c9 C9 G9 _ hO9 => ?_
    rw [xorR_step (by omega)] at hO9
    rw [xorR_step (by omega)]
    refine go ?_
    exact w_again (i + 1, (A8, c8, C8), (A9, c9, C9)) ⟨by omega, hO8.le (Le1.le), hO9⟩ (by show 64 - (i + 1) < 64 - i; omega)
  · have : i = 64 := by omega
    subst this
    rw [List.take_of_length_le (by omega)] at hO6 hO7 hx1 hx2 ⊢
    refine go ?_
    refine w_app rfl rfl hO6 inferInstance .here rfl hR2 inferInstance rfl (kone_int _) (by omega) fun A8 c8 C8 hO8 => ?_
    refine w_stillO hO8 (.refl _) .here fun G8 _ hR8 hc8 => ?_
    have ho8 : Oc (xorR bl 54 ++ m) := oc_app (xorR_oc _ _) hom
    refine w_stp (p_call rfl rfl rfl (c_SumR (xorR bl 54 ++ m) ho8 (by rw [List.length_append]; omega) A8 c8 _ hR8)) ?_
    have hs := sumR_len (xorR bl 54 ++ m)
    refine go ?_; intro B9
    refine go ?_
    refine w_still B9 (.here) fun G9 _ hC9 => ?_
    refine w_as 35 (.slice (some ⟨B9, 0, none⟩) (sumR (xorR bl 54 ++ m)).length 32) rfl (by rw [hs]) ?_
    refine w_app rfl rfl hO7 inferInstance .here rfl (Rd.nums hC9) (.refl _) rfl (kone_int _) (by omega) fun A10 c10 C10 hO10 => ?_
    refine w_stillO hO10 (.refl _) .here fun G10 _ hR10 hc10 => ?_
    have ho10 : Oc (xorR bl 92 ++ sumR (xorR bl 54 ++ m)) := oc_app (xorR_oc _ _) (sumR_oc _)
    refine w_stp (p_call rfl rfl rfl (c_SumR _ ho10 (by rw [List.length_append]; omega) A10 c10 _ hR10)) ?_
    have hs2 := sumR_len (xorR bl 92 ++ sumR (xorR bl 54 ++ m))
    refine go ?_
    exact w_ret hQ rfl
end Go.Proofs.YtngoaapgdfohjaaGreatDoor.TK

set_option linter.unusedVariables false
set_option linter.unusedSimpArgs false
set_option maxRecDepth 100000
set_option maxHeartbeats 4000000
namespace Go.Proofs.YtngoaapgdfohjaaGreatDoor.TK
open Go Go.Proofs.YtngoaapgdfohjaaGreatDoor.X Go.Proofs
attribute [local irreducible] macR bigS frameS encR
theorem byts_oc (r : Bs) : Oc (byts r) := fun v hv => by
  obtain ⟨u, _, rfl⟩ := List.mem_map.1 hv
  have := u.toNat_lt
  omega
theorem macR_len (k m : List Int) : (macR k m).length = 32 := by unfold macR; exact sumR_len _
theorem macR_oc (k m : List Int) : Oc (macR k m) := by unfold macR; exact sumR_oc _
/-! ## The document's tag is the program's -/
theorem startN_eq : startN 8 = startR := by kernel_rfl
theorem newH_s : newH.s = startR := startN_eq
theorem putAll_eq (h : HS) : ∀ pl : List (List Int), putAll h pl = h.put pl.flatten
  | [] => rfl
  | p :: pl => by
    show putAll (h.put p) pl = _
    rw [putAll_eq (h.put p) pl, List.flatten_cons, HS.put_app]
theorem sum_eq (pl : List (List Int)) (h : Oc pl.flatten) : sumS pl = sumR pl.flatten := by
  unfold sumS
  rw [putAll_eq]
  exact dig_eq newH_s newH_ok.b rfl h
theorem fill_cp (l : List Int) (h : l.length ≤ 64) : fillS l = cpT l l.length := by
  unfold fillS cpT
  rw [Nat.min_eq_left h, Nat.zero_add, List.take_zero, List.nil_append, List.drop_replicate]
theorem block_eq (key : List Int) (h : Oc key) : blockS key = blockR key := by
  unfold blockS blockR
  split
  · rename_i hk; exact fill_cp key hk
  · have e := sum_eq [key] (by simpa using h)
    rw [e]
    have hs := sumR_len key
    have e2 : [key].flatten = key := by simp
    rw [e2, fill_cp _ (by omega), hs]
theorem with_eq (bl : List Int) (c : Int) (h : bl.length = 64) : withS bl c = xorR bl c := by
  have key : ∀ i, i ≤ bl.length → withN bl c i = xorR (bl.take i) c ++ bl.drop i := by
    intro i
    induction i with
    | zero => intro _; simp [withN, xorR]
    | succ i ih =>
      intro hi
      have hl : (xorR (bl.take i) c).length = i := by simp [xorR]; omega
      have hlt : i < bl.length := by omega
      simp only [withN]
      rw [ih (by omega), List.set_append_right _ _ (by omega), hl, Nat.sub_self, ← xorR_step hlt, List.append_assoc]
      congr 1
      rw [List.drop_eq_getElem_cons hlt, List.set_cons_zero, List.getD_eq_getElem?_getD, List.getElem?_append_right (by omega), hl, Nat.sub_self, List.getD_eq_getElem?_getD, List.getElem?_eq_getElem hlt]
      rfl
  unfold withS
  rw [key 64 (by omega), List.take_of_length_le (by omega), List.drop_of_length_le (by omega), List.append_nil]
theorem mac_eq (key : List Int) (pl : List (List Int)) (h : Oc key) (hp : Oc pl.flatten) : macS key pl = macR key pl.flatten := by
  unfold macS macSealS macH
  rw [block_eq key h, with_eq _ _ (blockR_len key), with_eq _ _ (blockR_len key), putAll_eq, ← HS.put_app]
  have e1 := dig_eq newH_s newH_ok.b rfl (oc_app (xorR_oc (blockR key) 54) hp)
  rw [e1]
  have e2 := sum_eq [xorR (blockR key) 92, sumR (xorR (blockR key) 54 ++ pl.flatten)] (by
    simp only [List.flatten_cons, List.flatten_nil, List.append_nil]
    exact oc_app (xorR_oc _ _) (sumR_oc _))
  rw [e2]
  unfold macR
  simp
end Go.Proofs.YtngoaapgdfohjaaGreatDoor.TK
