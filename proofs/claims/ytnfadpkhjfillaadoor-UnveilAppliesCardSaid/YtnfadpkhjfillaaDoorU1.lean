/- Own text. -/
import Derived.Test.YtnfadpkhjfillaaDoorP1
import Derived.Test.YtnfadpkhjfillaaDoorShelf
import Derived.Test.YtnfadpkhjfillaaDoorProg
set_option linter.unusedVariables false
set_option linter.unusedSimpArgs false
set_option maxRecDepth 100000
set_option maxHeartbeats 4000000
namespace Go.Proofs.YtnfadpkhjfillaaDoor.T28
open Go Go.Proofs.YtnfadpkhjfillaaDoor.X
instance : UN Tryd.prog 125 (.slice 117) := ⟨Tryd.underlying125⟩
instance : UN Tryd.prog 22 (.slice 52) := ⟨Tryd.underlying22⟩
instance : UN Tryd.prog 50 (.slice 49) := ⟨Tryd.underlying50⟩
instance : UN Tryd.prog 59 (.slice 3) := ⟨Tryd.underlying59⟩
instance : UN Tryd.prog 9 .string := ⟨Tryd.underlying9⟩
instance : LZ Tryd.prog 117 [(0, .int .i64 0), (1, .int .i64 0), (2, str []), (3, .int .i64 0), (4, .bool false)] := ⟨⟨.agg #[.int .i64 0, .int .i64 0, str [], .int .i64 0, .bool false], by kernel_rfl, ⟨rfl, rfl, rfl, rfl, rfl, trivial⟩⟩⟩
instance : LZ Tryd.prog 24 [(0, .int .i64 0), (1, .int .i64 0)] := ⟨⟨.agg #[.int .i64 0, .int .i64 0], by kernel_rfl, ⟨rfl, rfl, trivial⟩⟩⟩
instance : LZ Tryd.prog 49 [(0, .int .i64 0), (1, .int .i64 0), (2, str [])] := ⟨⟨.agg #[.int .i64 0, .int .i64 0, str []], by kernel_rfl, ⟨rfl, rfl, rfl, trivial⟩⟩⟩
instance : LZ Tryd.prog 99 [(0, .slice none 0 0), (1, .int .i64 0), (2, .bool false), (3, .bool false)] := ⟨⟨.agg #[.slice none 0 0, .int .i64 0, .bool false, .bool false], by kernel_rfl, ⟨rfl, rfl, rfl, rfl, trivial⟩⟩⟩
theorem T.a117 : aggSz Tryd.prog 117 = some 5 := by kernel_rfl
instance : AG Tryd.prog 117 5 := ⟨T.a117⟩
theorem T.a24 : aggSz Tryd.prog 24 = some 2 := by kernel_rfl
instance : AG Tryd.prog 24 2 := ⟨T.a24⟩
theorem T.a25 : aggSz Tryd.prog 25 = some 10 := by kernel_rfl
instance : AG Tryd.prog 25 10 := ⟨T.a25⟩
theorem T.a49 : aggSz Tryd.prog 49 = some 3 := by kernel_rfl
instance : AG Tryd.prog 49 3 := ⟨T.a49⟩
theorem T.a52 : aggSz Tryd.prog 52 = some 14 := by kernel_rfl
instance : AG Tryd.prog 52 14 := ⟨T.a52⟩
theorem T.a99 : aggSz Tryd.prog 99 = some 4 := by kernel_rfl
instance : AG Tryd.prog 99 4 := ⟨T.a99⟩
theorem T.f117_0 : fieldOff Tryd.prog 117 0 = some 0 := by kernel_rfl
instance : FO Tryd.prog 117 0 0 := ⟨T.f117_0⟩
theorem T.f117_1 : fieldOff Tryd.prog 117 1 = some 1 := by kernel_rfl
instance : FO Tryd.prog 117 1 1 := ⟨T.f117_1⟩
theorem T.f117_2 : fieldOff Tryd.prog 117 2 = some 2 := by kernel_rfl
instance : FO Tryd.prog 117 2 2 := ⟨T.f117_2⟩
theorem T.f24_0 : fieldOff Tryd.prog 24 0 = some 0 := by kernel_rfl
instance : FO Tryd.prog 24 0 0 := ⟨T.f24_0⟩
theorem T.f24_1 : fieldOff Tryd.prog 24 1 = some 1 := by kernel_rfl
instance : FO Tryd.prog 24 1 1 := ⟨T.f24_1⟩
theorem T.f27_0 : fieldOff Tryd.prog 27 0 = some 0 := by kernel_rfl
instance : FO Tryd.prog 27 0 0 := ⟨T.f27_0⟩
theorem T.f27_1 : fieldOff Tryd.prog 27 1 = some 10 := by kernel_rfl
instance : FO Tryd.prog 27 1 10 := ⟨T.f27_1⟩
theorem T.f27_2 : fieldOff Tryd.prog 27 2 = some 11 := by kernel_rfl
instance : FO Tryd.prog 27 2 11 := ⟨T.f27_2⟩
theorem T.f49_0 : fieldOff Tryd.prog 49 0 = some 0 := by kernel_rfl
instance : FO Tryd.prog 49 0 0 := ⟨T.f49_0⟩
theorem T.f49_1 : fieldOff Tryd.prog 49 1 = some 1 := by kernel_rfl
instance : FO Tryd.prog 49 1 1 := ⟨T.f49_1⟩
theorem T.f49_2 : fieldOff Tryd.prog 49 2 = some 2 := by kernel_rfl
instance : FO Tryd.prog 49 2 2 := ⟨T.f49_2⟩
theorem T.f52_0 : fieldOff Tryd.prog 52 0 = some 0 := by kernel_rfl
instance : FO Tryd.prog 52 0 0 := ⟨T.f52_0⟩
theorem T.f52_1 : fieldOff Tryd.prog 52 1 = some 1 := by kernel_rfl
instance : FO Tryd.prog 52 1 1 := ⟨T.f52_1⟩
theorem T.f52_2 : fieldOff Tryd.prog 52 2 = some 4 := by kernel_rfl
instance : FO Tryd.prog 52 2 4 := ⟨T.f52_2⟩
theorem T.f52_3 : fieldOff Tryd.prog 52 3 = some 5 := by kernel_rfl
instance : FO Tryd.prog 52 3 5 := ⟨T.f52_3⟩
theorem T.f52_4 : fieldOff Tryd.prog 52 4 = some 6 := by kernel_rfl
instance : FO Tryd.prog 52 4 6 := ⟨T.f52_4⟩
theorem T.f52_5 : fieldOff Tryd.prog 52 5 = some 9 := by kernel_rfl
instance : FO Tryd.prog 52 5 9 := ⟨T.f52_5⟩
theorem T.f52_6 : fieldOff Tryd.prog 52 6 = some 10 := by kernel_rfl
instance : FO Tryd.prog 52 6 10 := ⟨T.f52_6⟩
theorem T.f52_7 : fieldOff Tryd.prog 52 7 = some 11 := by kernel_rfl
instance : FO Tryd.prog 52 7 11 := ⟨T.f52_7⟩
theorem T.f52_8 : fieldOff Tryd.prog 52 8 = some 12 := by kernel_rfl
instance : FO Tryd.prog 52 8 12 := ⟨T.f52_8⟩
theorem T.f52_9 : fieldOff Tryd.prog 52 9 = some 13 := by kernel_rfl
instance : FO Tryd.prog 52 9 13 := ⟨T.f52_9⟩
theorem T.f99_0 : fieldOff Tryd.prog 99 0 = some 0 := by kernel_rfl
instance : FO Tryd.prog 99 0 0 := ⟨T.f99_0⟩
theorem T.f99_3 : fieldOff Tryd.prog 99 3 = some 3 := by kernel_rfl
instance : FO Tryd.prog 99 3 3 := ⟨T.f99_3⟩
theorem T.g21 : goFn Tryd.prog 21 = true := by kernel_rfl
theorem T.g24 : goFn Tryd.prog 24 = true := by kernel_rfl
theorem T.g34 : goFn Tryd.prog 34 = true := by kernel_rfl
theorem T.g39 : goFn Tryd.prog 39 = true := by kernel_rfl
theorem T.g43 : goFn Tryd.prog 43 = true := by kernel_rfl
theorem T.g44 : goFn Tryd.prog 44 = true := by kernel_rfl
theorem T.g45 : goFn Tryd.prog 45 = true := by kernel_rfl
theorem T.g48 : goFn Tryd.prog 48 = true := by kernel_rfl
theorem T.g50 : goFn Tryd.prog 50 = true := by kernel_rfl
theorem T.g53 : goFn Tryd.prog 53 = true := by kernel_rfl
theorem T.g54 : goFn Tryd.prog 54 = true := by kernel_rfl
theorem T.g55 : goFn Tryd.prog 55 = true := by kernel_rfl
theorem T.g56 : goFn Tryd.prog 56 = true := by kernel_rfl
theorem T.g57 : goFn Tryd.prog 57 = true := by kernel_rfl
theorem T.g59 : goFn Tryd.prog 59 = true := by kernel_rfl
theorem T.g60 : goFn Tryd.prog 60 = true := by kernel_rfl
theorem T.g62 : goFn Tryd.prog 62 = true := by kernel_rfl
theorem T.g63 : goFn Tryd.prog 63 = true := by kernel_rfl
theorem T.g65 : goFn Tryd.prog 65 = true := by kernel_rfl
theorem T.g68 : goFn Tryd.prog 68 = true := by kernel_rfl
theorem T.g69 : goFn Tryd.prog 69 = true := by kernel_rfl
theorem T.g70 : goFn Tryd.prog 70 = true := by kernel_rfl
theorem T.g78 : goFn Tryd.prog 78 = true := by kernel_rfl
theorem T.g79 : goFn Tryd.prog 79 = true := by kernel_rfl
theorem T.l125 : slOf Tryd.prog 125 = some (117, 5) := by kernel_rfl
theorem T.l22 : slOf Tryd.prog 22 = some (52, 14) := by kernel_rfl
theorem T.l50 : slOf Tryd.prog 50 = some (49, 3) := by kernel_rfl
theorem T.l59 : slOf Tryd.prog 59 = some (3, 1) := by kernel_rfl
theorem T.mix : Tryd.prog.follows .mixedOrders = true := by kernel_rfl
theorem T.p59 : apOf Tryd.prog 59 = some (3, 1, 8) := by kernel_rfl
theorem T.q49 : flatT Tryd.prog 49 = some [.int .i64, .int .i64, .str] := by kernel_rfl
theorem T.r25 : arrOf Tryd.prog 25 = some (5, 2) := by kernel_rfl
theorem T.s2 : scal Tryd.prog 2 = true := by kernel_rfl
instance : SC Tryd.prog 2 := ⟨T.s2⟩
theorem T.s3 : scal Tryd.prog 3 = true := by kernel_rfl
instance : SC Tryd.prog 3 := ⟨T.s3⟩
theorem T.s4 : scal Tryd.prog 4 = true := by kernel_rfl
instance : SC Tryd.prog 4 := ⟨T.s4⟩
theorem T.s50 : scal Tryd.prog 50 = true := by kernel_rfl
instance : SC Tryd.prog 50 := ⟨T.s50⟩
theorem T.s59 : scal Tryd.prog 59 = true := by kernel_rfl
instance : SC Tryd.prog 59 := ⟨T.s59⟩
theorem T.s9 : scal Tryd.prog 9 = true := by kernel_rfl
instance : SC Tryd.prog 9 := ⟨T.s9⟩
/-! `incognito/value.IsWord` -/
theorem c_isWord (s : Bs) (w0 : World) (G : Heap) (hG : Sub G w0) (hl : s.length ≤ 9223372036854775807):
  Calls Tryd.prog 70 #[str s] w0 (Ret w0 G (fun v _ => v = .bool (isWordB s))) := by
 refine enter Tryd.func70 rfl Tryd.ntmps70 rfl ?_
 intro Q hQ a E
 have S := St.start0 hG
 refine sr fun K hK => ?_
 refine rn 1 E S ?_; clear E S; intro a w E S
 apply hK; clear hK K
 refine wp_seq_k (fun K3 hK2 => ?_)
 refine sr fun K hK => ?_
 refine rn 3 E S ?_; clear E S; intro a w E S
 refine cutG 4 11 (.bool ((s == []) || (decide (40 < (s.length : Int))))) E S ?_ ?_
 ·refine bsp E (t := 7) rfl (fun hb4 => ?_) (fun hb4 => ?_)
  ·refine rn 4 E S ?_; clear E S; intro a w E S
   exact ⟨S, E.cutT (by rw [hb4] <;> rfl)⟩
  ·have hk5 := nm hb4
   refine rn 4 E S ?_; clear E S; intro a w E S
   exact ⟨S, E.cutT (by rw [hb4] <;> rfl)⟩
 clear E S; intro a w E S
 refine rn 1 E S ?_; clear E S; intro a w E S
 refine cutG 4 16 (.bool (((s == []) || (decide (40 < (s.length : Int)))) || (decide ((bt s 0) < 97)))) E S ?_ ?_
 ·refine bsp E (t := 12) rfl (fun hb6 => ?_) (fun hb6 => ?_)
  ·refine rn 4 E S ?_; clear E S; intro a w E S
   exact ⟨S, E.cutT (by rw [hb6] <;> rfl)⟩
  ·have hk7 := nm hb6
   refine rn 1 E S ?_; clear E S; intro a w E S
   refine op_on E rfl rfl hb6 ?_
   refine o_index E rfl rfl rfl Tryd.underlying9 (by (have := List.length_pos_iff.2 (show s ≠ [] by simp_all); omega)) ?_; clear E; intro a E
   refine rn 2 E S ?_; clear E S; intro a w E S
   exact ⟨S, E.cutT (by rw [hb6] <;> rfl)⟩
 clear E S; intro a w E S
 refine rn 1 E S ?_; clear E S; intro a w E S
 refine cutG 4 21 (.bool ((((s == []) || (decide (40 < (s.length : Int)))) || (decide ((bt s 0) < 97))) || (decide (122 < (bt s 0))))) E S ?_ ?_
 ·refine bsp E (t := 17) rfl (fun hb8 => ?_) (fun hb8 => ?_)
  ·refine rn 4 E S ?_; clear E S; intro a w E S
   exact ⟨S, E.cutT (by rw [hb8] <;> rfl)⟩
  ·have hk9 := nm hb8
   refine rn 1 E S ?_; clear E S; intro a w E S
   refine op_on E rfl rfl hb8 ?_
   refine o_index E rfl rfl rfl Tryd.underlying9 (by (have := List.length_pos_iff.2 (show s ≠ [] by simp_all); omega)) ?_; clear E; intro a E
   refine rn 2 E S ?_; clear E S; intro a w E S
   exact ⟨S, E.cutT (by rw [hb8] <;> rfl)⟩
 clear E S; intro a w E S
 apply hK; clear hK K
 refine cond E rfl (fun h11r => ?_) (fun h11r => ?_)
 ·have h11 := nm h11r
  refine sr fun K hK => ?_
  refine rn 1 E S ?_; clear E S; intro a w E S
  apply hK; clear hK K
  refine rt hQ E S ?_
  show _ = _
  simp only [packed, Value.bool.injEq]
  rcases h11 with ((h | h) | h) | h
  exact (word_len (.inl h)).symm
  exact (word_len (.inr h)).symm
  exact (word_first (.inl h)).symm
  exact (word_first (.inr h)).symm
 ·have h11 := nm h11r
  refine wp_skip ?_
  refine hK2 _ _ ?_; clear hK2
  refine wp_seq_k (fun K14 hK13 => ?_)
  refine sr fun K hK => ?_
  refine rn 3 E S ?_; clear E S; intro a w E S
  apply hK; clear hK K
  refine wp_block ?_
  refine loop (fun (i : Nat) a' w' => St w0 G [] G w' [] ∧ Env a' 50 [] [(0, str s), (23, .int .i64 (s.length : Int)), (24, .int .i64 (i : Int))] ∧ (i ≤ s.length ∧ (s.take i).all wordC = true)) (fun (i : Nat) => s.length - i) 0 ⟨S, E.cut ⟨rfl, rfl, rfl, trivial⟩, ⟨Nat.zero_le _, rfl⟩⟩ ?_
  clear E S; intro i a w ⟨S, E, ⟨hi, ha⟩⟩
  refine sr fun K hK => ?_
  refine rn 1 E S ?_; clear E S; intro a w E S
  apply hK; clear hK K
  refine wp_seq_k (fun K19 hK18 => ?_)
  refine cond E rfl (fun h20r => ?_) (fun h20r => ?_)
  ·have h20 := nm h20r
   refine wp_skip ?_
   refine hK18 _ _ ?_; clear hK18
   refine wp_seq_k (fun K22 hK21 => ?_)
   refine wp_block ?_
   refine sr fun K hK => ?_
   refine rn 2 E S ?_; clear E S; intro a w E S
   apply hK; clear hK K
   refine sr fun K hK => ?_
   refine rn 2 E S ?_; clear E S; intro a w E S
   refine o_index E rfl rfl rfl Tryd.underlying9 (by omega) ?_; clear E; intro a E
   refine rn 1 E S ?_; clear E S; intro a w E S
   apply hK; clear hK K
   refine sr fun K hK => ?_
   refine rn 3 E S ?_; clear E S; intro a w E S
   refine cutG 3 35 (.bool ((decide (97 ≤ (bt s (i : Int)))) && (decide ((bt s (i : Int)) ≤ 122)))) E S ?_ ?_
   ·refine bsp E (t := 32) rfl (fun hb25 => ?_) (fun hb25 => ?_)
    ·have hk26 := nm hb25
     refine rn 3 E S ?_; clear E S; intro a w E S
     exact ⟨S, E.cutT (by rw [hb25] <;> rfl)⟩
    ·refine rn 3 E S ?_; clear E S; intro a w E S
     exact ⟨S, E.cutT (by rw [hb25] <;> rfl)⟩
   clear E S; intro a w E S
   refine rn 1 E S ?_; clear E S; intro a w E S
   refine cutG 7 43 (.bool (((decide (97 ≤ (bt s (i : Int)))) && (decide ((bt s (i : Int)) ≤ 122))) || ((decide (48 ≤ (bt s (i : Int)))) && (decide ((bt s (i : Int)) ≤ 57))))) E S ?_ ?_
   ·refine bsp E (t := 36) rfl (fun hb27 => ?_) (fun hb27 => ?_)
    ·refine rn 7 E S ?_; clear E S; intro a w E S
     exact ⟨S, E.cutT (by rw [hb27] <;> rfl)⟩
    ·have hk28 := nm hb27
     refine rn 3 E S ?_; clear E S; intro a w E S
     refine cutG 3 42 (.bool ((decide (48 ≤ (bt s (i : Int)))) && (decide ((bt s (i : Int)) ≤ 57)))) E S ?_ ?_
     ·refine bsp E (t := 39) rfl (fun hb29 => ?_) (fun hb29 => ?_)
      ·have hk30 := nm hb29
       refine rn 3 E S ?_; clear E S; intro a w E S
       exact ⟨S, E.cutT (by rw [hb29] <;> rfl)⟩
      ·refine rn 3 E S ?_; clear E S; intro a w E S
       exact ⟨S, E.cutT (by rw [hb29] <;> rfl)⟩
     clear E S; intro a w E S
     refine rn 1 E S ?_; clear E S; intro a w E S
     exact ⟨S, E.cutT (by rw [hb27] <;> rfl)⟩
   clear E S; intro a w E S
   refine rn 1 E S ?_; clear E S; intro a w E S
   refine cutG 3 47 (.bool ((((decide (97 ≤ (bt s (i : Int)))) && (decide ((bt s (i : Int)) ≤ 122))) || ((decide (48 ≤ (bt s (i : Int)))) && (decide ((bt s (i : Int)) ≤ 57)))) || (decide ((bt s (i : Int)) = 95)))) E S ?_ ?_
   ·refine bsp E (t := 44) rfl (fun hb31 => ?_) (fun hb31 => ?_)
    ·refine rn 3 E S ?_; clear E S; intro a w E S
     exact ⟨S, E.cutT (by rw [hb31] <;> rfl)⟩
    ·have hk32 := nm hb31
     refine rn 3 E S ?_; clear E S; intro a w E S
     exact ⟨S, E.cutT (by rw [hb31] <;> rfl)⟩
   clear E S; intro a w E S
   refine rn 1 E S ?_; clear E S; intro a w E S
   apply hK; clear hK K
   refine cond E rfl (fun h34r => ?_) (fun h34r => ?_)
   ·have h34 := nm h34r
    refine sr fun K hK => ?_
    refine rn 1 E S ?_; clear E S; intro a w E S
    apply hK; clear hK K
    refine rt hQ E S ?_
    show _ = _
    simp only [packed, Value.bool.injEq]
    have hz := h34r
    rw [letter_eq] at hz
    exact (word_at (i := i) (by omega) (by simpa using hz)).symm
   ·have h34 := nm h34r
    refine wp_skip ?_
    refine hK21 _ _ ?_; clear hK21
    refine wp_region_lit ?_
    refine rn 2 E S ?_; clear E S; intro a w E S
    have hlt : i < s.length := by omega
    have hz := h34r
    rw [letter_eq] at hz
    have ha2 : (s.take (i + 1)).all wordC = true := by rw [all_snoc hlt, ha, wordC_bt hlt, Bool.true_and]; simpa using hz
    exact ⟨i + 1, ⟨S, E.cut ⟨rfl, rfl, rfl, trivial⟩, ⟨by omega, ha2⟩⟩, by omega⟩
  ·have h20 := nm h20r
   refine wp_exit ?_
   refine hK13 _ _ ?_; clear hK13
   refine sr fun K hK => ?_
   refine rn 1 E S ?_; clear E S; intro a w E S
   apply hK; clear hK K
   refine rt hQ E S ?_
   show _ = _
   simp only [packed, Value.bool.injEq]
   exact (word_yes h11.1.1.1 h11.1.1.2 h11.1.2 h11.2 (by rwa [show i = s.length by omega, List.take_length] at ha)).symm

/-! `incognito/incognitoref07.letter` -/
theorem c_letter (c : Int) (f : Bool) (w0 : World) (G : Heap) (hG : Sub G w0) (hc : 0 ≤ c ∧ c ≤ 255):
  Calls Tryd.prog 65 #[.int .u8 c, .bool f] w0 (Ret w0 G (fun v _ => v = .bool (letterB c f))) := by
 refine enter Tryd.func65 rfl Tryd.ntmps65 rfl ?_
 intro Q hQ a E
 have S := St.start0 hG
 refine sr fun K hK => ?_
 refine rn 1 E S ?_; clear E S; intro a w E S
 apply hK; clear hK K
 refine wp_seq_k (fun K3 hK2 => ?_)
 refine sr fun K hK => ?_
 refine rn 1 E S ?_; clear E S; intro a w E S
 apply hK; clear hK K
 refine wp_block ?_
 refine loop (fun (x : Int) a' w' => St w0 G [] G w' [] ∧ Env a' 27 [] [(0, .int .u8 c), (1, .bool f), (5, .int .u8 x)] ∧ (97 ≤ x ∧ x ≤ 123 ∧ (97 ≤ c → x ≤ c))) (fun (x : Int) => (123 - x).toNat) 97 ⟨S, E.cut ⟨rfl, rfl, rfl, trivial⟩, ⟨by omega, by omega, fun h => h⟩⟩ ?_
 clear E S; intro x a w ⟨S, E, ⟨hx1, hx2, hx3⟩⟩
 refine wp_seq_k (fun K7 hK6 => ?_)
 refine sr fun K hK => ?_
 refine rn 2 E S ?_; clear E S; intro a w E S
 apply hK; clear hK K
 refine cond E rfl (fun h9r => ?_) (fun h9r => ?_)
 ·have h9 := nm h9r
  refine wp_skip ?_
  refine hK6 _ _ ?_; clear hK6
  refine wp_seq_k (fun K11 hK10 => ?_)
  refine wp_block ?_
  refine sr fun K hK => ?_
  refine rn 3 E S ?_; clear E S; intro a w E S
  apply hK; clear hK K
  refine cond E rfl (fun h13r => ?_) (fun h13r => ?_)
  ·have h13 := nm h13r
   refine sr fun K hK => ?_
   refine rn 1 E S ?_; clear E S; intro a w E S
   apply hK; clear hK K
   refine rt hQ E S ?_
   show _ = _
   simp only [packed, Value.bool.injEq]
   exact (by unfold letterB lowB; simp; omega : letterB c f = true).symm
  ·have h13 := nm h13r
   refine wp_skip ?_
   refine hK10 _ _ ?_; clear hK10
   refine wp_region_lit ?_
   refine rn 1 E S ?_; clear E S; intro a w E S
   refine o_addF E rfl rfl rfl (wrap_u8 (by omega)) ?_; clear E; intro a E
   refine rn 1 E S ?_; clear E S; intro a w E S
   have hne : ¬ c = x := h13
   exact ⟨x + 1, ⟨S, E.cut ⟨rfl, rfl, rfl, trivial⟩, ⟨by omega, by omega, by omega⟩⟩, by omega⟩
 ·have h9 := nm h9r
  refine wp_exit ?_
  refine hK2 _ _ ?_; clear hK2
  refine sr fun K hK => ?_
  refine rn 3 E S ?_; clear E S; intro a w E S
  refine cutG 11 26 (.bool ((!f) && ((decide (c = 95)) || ((decide (48 ≤ c)) && (decide (c ≤ 57)))))) E S ?_ ?_
  ·refine bsp E (t := 15) rfl (fun hb15 => ?_) (fun hb15 => ?_)
   ·have hk16 := nm hb15
    refine rn 3 E S ?_; clear E S; intro a w E S
    refine cutG 7 25 (.bool ((decide (c = 95)) || ((decide (48 ≤ c)) && (decide (c ≤ 57))))) E S ?_ ?_
    ·refine bsp E (t := 18) rfl (fun hb17 => ?_) (fun hb17 => ?_)
     ·refine rn 7 E S ?_; clear E S; intro a w E S
      exact ⟨S, E.cutT (by rw [hb17] <;> rfl)⟩
     ·have hk18 := nm hb17
      refine rn 3 E S ?_; clear E S; intro a w E S
      refine cutG 3 24 (.bool ((decide (48 ≤ c)) && (decide (c ≤ 57)))) E S ?_ ?_
      ·refine bsp E (t := 21) rfl (fun hb19 => ?_) (fun hb19 => ?_)
       ·have hk20 := nm hb19
        refine rn 3 E S ?_; clear E S; intro a w E S
        exact ⟨S, E.cutT (by rw [hb19] <;> rfl)⟩
       ·refine rn 3 E S ?_; clear E S; intro a w E S
        exact ⟨S, E.cutT (by rw [hb19] <;> rfl)⟩
      clear E S; intro a w E S
      refine rn 1 E S ?_; clear E S; intro a w E S
      exact ⟨S, E.cutT (by rw [hb17] <;> rfl)⟩
    clear E S; intro a w E S
    refine rn 1 E S ?_; clear E S; intro a w E S
    exact ⟨S, E.cutT (by rw [hb15] <;> rfl)⟩
   ·refine rn 11 E S ?_; clear E S; intro a w E S
    exact ⟨S, E.cutT (by rw [hb15] <;> rfl)⟩
  clear E S; intro a w E S
  refine rn 1 E S ?_; clear E S; intro a w E S
  apply hK; clear hK K
  refine rt hQ E S ?_
  show _ = _
  simp only [packed, Value.bool.injEq]
  have hz : lowB c = false := by simp only [lowB, Bool.and_eq_false_iff, decide_eq_false_iff_not]; omega
  unfold letterB
  rw [hz]
  first | done | rfl | simp

/-! `incognito/incognitoref07.IsWord` -/
theorem c_IsWord (s : Bs) (w0 : World) (G : Heap) (hG : Sub G w0) (hl : s.length ≤ 9223372036854775807):
  Calls Tryd.prog 55 #[str s] w0 (Ret w0 G (fun v _ => v = .bool (isWordB s))) := by
 refine enter Tryd.func55 rfl Tryd.ntmps55 rfl ?_
 intro Q hQ a E
 have S := St.start0 hG
 refine sr fun K hK => ?_
 refine rn 1 E S ?_; clear E S; intro a w E S
 apply hK; clear hK K
 refine wp_seq_k (fun K3 hK2 => ?_)
 refine sr fun K hK => ?_
 refine rn 1 E S ?_; clear E S; intro a w E S
 apply hK; clear hK K
 refine wp_block ?_
 refine loop (fun (i : Nat) a' w' => St w0 G [] G w' [] ∧ Env a' 25 [] [(0, str s), (2, .bool false), (3, .int .i64 (i : Int))] ∧ (i ≤ s.length ∧ ∀ j, j < i → letterB (bt s (j : Int)) (decide ((j : Int) = 0)) = true)) (fun (i : Nat) => s.length - i) 0 ⟨S, E.cut ⟨rfl, rfl, rfl, trivial⟩, ⟨Nat.zero_le _, fun j hj => absurd hj (Nat.not_lt_zero _)⟩⟩ ?_
 clear E S; intro i a w ⟨S, E, ⟨hi, ha⟩⟩
 refine wp_seq_k (fun K7 hK6 => ?_)
 refine sr fun K hK => ?_
 refine rn 4 E S ?_; clear E S; intro a w E S
 apply hK; clear hK K
 refine cond E rfl (fun h9r => ?_) (fun h9r => ?_)
 ·have h9 := nm h9r
  refine wp_skip ?_
  refine hK6 _ _ ?_; clear hK6
  refine wp_seq_k (fun K11 hK10 => ?_)
  refine wp_block ?_
  refine sr fun K hK => ?_
  refine rn 2 E S ?_; clear E S; intro a w E S
  refine o_index E rfl rfl rfl Tryd.underlying9 (by omega) ?_; clear E; intro a E
  refine rn 2 E S ?_; clear E S; intro a w E S
  refine o_callP E rfl S rfl rfl T.g65 (c_letter (bt s (i : Int)) (decide ((i : Int) = 0)) _ _ S.sub (by first | exact bt_range _ _ | omega)) ?_
  clear E S; rintro _ w a S rfl E
  refine rn 1 E S ?_; clear E S; intro a w E S
  apply hK; clear hK K
  refine cond E rfl (fun h13r => ?_) (fun h13r => ?_)
  ·have h13 := nm h13r
   refine sr fun K hK => ?_
   refine rn 1 E S ?_; clear E S; intro a w E S
   apply hK; clear hK K
   refine rt hQ E S ?_
   show _ = _
   simp only [packed, Value.bool.injEq]
   exact (word_ref_no (i := i) (by omega) (by simpa using h13r)).symm
  ·have h13 := nm h13r
   refine wp_skip ?_
   refine hK10 _ _ ?_; clear hK10
   refine wp_region_lit ?_
   refine rn 3 E S ?_; clear E S; intro a w E S
   have hlt : i < s.length := by omega
   have hz := h13r
   have ha2 : ∀ j, j < i + 1 → letterB (bt s (j : Int)) (decide ((j : Int) = 0)) = true := by
    intro j hj
    by_cases e : j = i
    ·subst e; simpa using hz
    ·exact ha j (by omega)
   exact ⟨i + 1, ⟨S, E.cut ⟨rfl, rfl, rfl, trivial⟩, ⟨by omega, ha2⟩⟩, by omega⟩
 ·have h9 := nm h9r
  refine wp_exit ?_
  refine hK2 _ _ ?_; clear hK2
  refine sr fun K hK => ?_
  refine rn 4 E S ?_; clear E S; intro a w E S
  refine cutG 4 24 (.bool ((decide (1 ≤ (s.length : Int))) && (decide ((s.length : Int) ≤ 40)))) E S ?_ ?_
  ·refine bsp E (t := 20) rfl (fun hb15 => ?_) (fun hb15 => ?_)
   ·have hk16 := nm hb15
    refine rn 4 E S ?_; clear E S; intro a w E S
    exact ⟨S, E.cutT (by rw [hb15] <;> rfl)⟩
   ·refine rn 4 E S ?_; clear E S; intro a w E S
    exact ⟨S, E.cutT (by rw [hb15] <;> rfl)⟩
  clear E S; intro a w E S
  refine rn 1 E S ?_; clear E S; intro a w E S
  apply hK; clear hK K
  refine rt hQ E S ?_
  show _ = _
  simp only [packed, Value.bool.injEq]
  exact word_ref (by rw [show s.length = i by omega]; exact ha)

/-! `incognito/value.Right` -/
theorem c_right7 (x : Val) (w0 : World) (G : Heap) (hG : Sub G w0) (hg0 : CellsAt G 0 0 [.int .i64 3, .int .i64 1, str []]) (hg1 : CellsAt G 1 0 [.int .i64 3, .int .i64 0, str []]) (hv : x.Wf):
  Calls Tryd.prog 63 #[.agg #[.int .i64 x.k, .int .i64 x.n, str x.s]] w0 (Ret w0 G (fun v _ => v = .bool (rightV x))) := by
 refine enter Tryd.func63 rfl Tryd.ntmps63 rfl ?_
 intro Q hQ a E
 have S := St.start0 hG
 refine sr fun K hK => ?_
 refine o_bx3 E rfl S rfl ?_; clear E S; intro B1 w a S E
 refine rn 1 E S ?_; clear E S; intro a w E S
 apply hK; clear hK K
 refine wp_seq_k (fun K3 hK2 => ?_)
 refine sr fun K hK => ?_
 refine rn 2 E S ?_; clear E S; intro a w E S
 apply hK; clear hK K
 refine wp_block ?_
 refine sr fun K hK => ?_
 refine rn 2 E S ?_; clear E S; intro a w E S
 apply hK; clear hK K
 refine cond E rfl (fun h6r => ?_) (fun h6r => ?_)
 ·have h6 := nm h6r
  refine sr fun K hK => ?_
  refine rn 1 E S ?_; clear E S; intro a w E S
  refine o_build (cs := #[.int .i64 0, .int .i64 0, str []]) E rfl rfl (by kernel_rfl) ?_; clear E; intro a E
  refine o_eqA (b := decide (x.k = 0) && (decide (x.n = 0) && (x.s == [] && true))) E rfl rfl rfl T.q49 rfl rfl ?_; clear E; intro a E
  refine rn 1 E S ?_; clear E S; intro a w E S
  apply hK; clear hK K
  refine rt hQ E S ?_
  show _ = _
  simp only [packed, Value.bool.injEq]
  symm
  unfold rightV
  rw [if_pos h6]
  first | rfl | (simp [h6]; done)
 ·have h6 := nm h6r
  refine sr fun K hK => ?_
  refine rn 2 E S ?_; clear E S; intro a w E S
  apply hK; clear hK K
  refine cond E rfl (fun h9r => ?_) (fun h9r => ?_)
  ·have h9 := nm h9r
   refine sr fun K hK => ?_
   refine rn 4 E S ?_; clear E S; intro a w E S
   apply hK; clear hK K
   refine rt hQ E S ?_
   show _ = _
   simp only [packed, Value.bool.injEq]
   symm
   unfold rightV
   rw [if_neg h6]
   rw [if_pos h9]
   first | done | rfl | simp
  ·have h9 := nm h9r
   refine sr fun K hK => ?_
   refine rn 2 E S ?_; clear E S; intro a w E S
   apply hK; clear hK K
   refine cond E rfl (fun h12r => ?_) (fun h12r => ?_)
   ·have h12 := nm h12r
    refine sr fun K hK => ?_
    refine rn 4 E S ?_; clear E S; intro a w E S
    refine cutG 4 24 (.bool ((decide (x.n = 0)) && (isWordB x.s))) E S ?_ ?_
    ·refine bsp E (t := 20) rfl (fun hb13 => ?_) (fun hb13 => ?_)
     ·have hk14 := nm hb13
      refine rn 2 E S ?_; clear E S; intro a w E S
      refine op_on E rfl rfl hb13 ?_
      refine o_callP E rfl S rfl rfl T.g70 (c_isWord x.s _ _ S.sub (by first | omega | exact hv.s | (simp; done) | (simp; omega))) ?_
      clear E S; rintro _ w a S rfl E
      refine rn 1 E S ?_; clear E S; intro a w E S
      exact ⟨S, E.cutT (by rw [hb13] <;> rfl)⟩
     ·refine rn 4 E S ?_; clear E S; intro a w E S
      exact ⟨S, E.cutT (by rw [hb13] <;> rfl)⟩
    clear E S; intro a w E S
    refine rn 1 E S ?_; clear E S; intro a w E S
    apply hK; clear hK K
    refine rt hQ E S ?_
    show _ = _
    simp only [packed, Value.bool.injEq]
    symm
    unfold rightV
    rw [if_neg h6]
    rw [if_neg h9]
    rw [if_pos h12]
    first | done | rfl | simp
   ·have h12 := nm h12r
    refine wp_skip ?_
    refine hK2 _ _ ?_; clear hK2
    refine sr fun K hK => ?_
    refine rn 1 E S ?_; clear E S; intro a w E S
    refine o_ldIA E rfl S rfl hg0 T.a49 ?_; clear E; intro a E
    refine o_eqA (b := decide (x.k = 3) && (decide (x.n = 1) && (x.s == [] && true))) E rfl rfl rfl T.q49 rfl rfl ?_; clear E; intro a E
    refine rn 1 E S ?_; clear E S; intro a w E S
    refine cutG 4 32 (.bool ((decide (x.k = 3) && (decide (x.n = 1) && (x.s == [] && true))) || (decide (x.k = 3) && (decide (x.n = 0) && (x.s == [] && true))))) E S ?_ ?_
    ·refine bsp E (t := 28) rfl (fun hb16 => ?_) (fun hb16 => ?_)
     ·refine rn 4 E S ?_; clear E S; intro a w E S
      exact ⟨S, E.cutT (by rw [hb16] <;> rfl)⟩
     ·have hk17 := nm hb16
      refine rn 1 E S ?_; clear E S; intro a w E S
      refine op_on E rfl rfl hb16 ?_
      refine o_ldIA E rfl S rfl hg1 T.a49 ?_; clear E; intro a E
      refine op_on E rfl rfl hb16 ?_
      refine o_eqA (b := decide (x.k = 3) && (decide (x.n = 0) && (x.s == [] && true))) E rfl rfl rfl T.q49 rfl rfl ?_; clear E; intro a E
      refine rn 1 E S ?_; clear E S; intro a w E S
      exact ⟨S, E.cutT (by rw [hb16] <;> rfl)⟩
    clear E S; intro a w E S
    refine rn 1 E S ?_; clear E S; intro a w E S
    apply hK; clear hK K
    refine rt hQ E S ?_
    show _ = _
    simp only [packed, Value.bool.injEq]
    symm
    unfold rightV
    rw [if_neg h6]
    rw [if_neg h9]
    rw [if_neg h12]
    by_cases h3 : x.k = 3
    ·rw [if_pos h3]; simp only [h3, decide_true, Bool.true_and, Bool.and_true]; cases decide (x.n = 0) <;> cases decide (x.n = 1) <;> cases (x.s == ([] : Bs)) <;> rfl
    ·rw [if_neg h3, decide_eq_false h3]; rfl

/-! `incognito/incognitoref07.Right` -/
theorem c_Right7 (x : Val) (w0 : World) (G : Heap) (hG : Sub G w0) (hv : x.Wf):
  Calls Tryd.prog 44 #[.agg #[.int .i64 x.k, .int .i64 x.n, str x.s]] w0 (Ret w0 G (fun v _ => v = .bool (rightV x))) := by
 refine enter Tryd.func44 rfl Tryd.ntmps44 rfl ?_
 intro Q hQ a E
 have S := St.start0 hG
 refine sr fun K hK => ?_
 refine o_bx3 E rfl S rfl ?_; clear E S; intro B1 w a S E
 refine rn 1 E S ?_; clear E S; intro a w E S
 apply hK; clear hK K
 refine wp_seq_k (fun K3 hK2 => ?_)
 refine sr fun K hK => ?_
 refine rn 2 E S ?_; clear E S; intro a w E S
 apply hK; clear hK K
 refine wp_block ?_
 refine sr fun K hK => ?_
 refine rn 2 E S ?_; clear E S; intro a w E S
 apply hK; clear hK K
 refine cond E rfl (fun h6r => ?_) (fun h6r => ?_)
 ·have h6 := nm h6r
  refine sr fun K hK => ?_
  refine rn 4 E S ?_; clear E S; intro a w E S
  refine cutG 4 14 (.bool ((decide (x.n = 0)) && (x.s == []))) E S ?_ ?_
  ·refine bsp E (t := 10) rfl (fun hb7 => ?_) (fun hb7 => ?_)
   ·have hk8 := nm hb7
    refine rn 4 E S ?_; clear E S; intro a w E S
    exact ⟨S, E.cutT (by rw [hb7] <;> rfl)⟩
   ·refine rn 4 E S ?_; clear E S; intro a w E S
    exact ⟨S, E.cutT (by rw [hb7] <;> rfl)⟩
  clear E S; intro a w E S
  refine rn 1 E S ?_; clear E S; intro a w E S
  apply hK; clear hK K
  refine rt hQ E S ?_
  show _ = _
  simp only [packed, Value.bool.injEq]
  symm
  unfold rightV
  rw [if_pos h6]
  first | done | rfl | simp
 ·have h6 := nm h6r
  refine sr fun K hK => ?_
  refine rn 2 E S ?_; clear E S; intro a w E S
  apply hK; clear hK K
  refine cond E rfl (fun h11r => ?_) (fun h11r => ?_)
  ·have h11 := nm h11r
   refine sr fun K hK => ?_
   refine rn 4 E S ?_; clear E S; intro a w E S
   apply hK; clear hK K
   refine rt hQ E S ?_
   show _ = _
   simp only [packed, Value.bool.injEq]
   symm
   unfold rightV
   rw [if_neg h6]
   rw [if_pos h11]
   first | done | rfl | simp
  ·have h11 := nm h11r
   refine sr fun K hK => ?_
   refine rn 2 E S ?_; clear E S; intro a w E S
   apply hK; clear hK K
   refine cond E rfl (fun h14r => ?_) (fun h14r => ?_)
   ·have h14 := nm h14r
    refine sr fun K hK => ?_
    refine rn 4 E S ?_; clear E S; intro a w E S
    refine cutG 4 29 (.bool ((decide (x.n = 0)) && (isWordB x.s))) E S ?_ ?_
    ·refine bsp E (t := 25) rfl (fun hb15 => ?_) (fun hb15 => ?_)
     ·have hk16 := nm hb15
      refine rn 2 E S ?_; clear E S; intro a w E S
      refine op_on E rfl rfl hb15 ?_
      refine o_callP E rfl S rfl rfl T.g55 (c_IsWord x.s _ _ S.sub (by first | omega | exact hv.s | (simp; done) | (simp; omega))) ?_
      clear E S; rintro _ w a S rfl E
      refine rn 1 E S ?_; clear E S; intro a w E S
      exact ⟨S, E.cutT (by rw [hb15] <;> rfl)⟩
     ·refine rn 4 E S ?_; clear E S; intro a w E S
      exact ⟨S, E.cutT (by rw [hb15] <;> rfl)⟩
    clear E S; intro a w E S
    refine rn 1 E S ?_; clear E S; intro a w E S
    apply hK; clear hK K
    refine rt hQ E S ?_
    show _ = _
    simp only [packed, Value.bool.injEq]
    symm
    unfold rightV
    rw [if_neg h6]
    rw [if_neg h11]
    rw [if_pos h14]
    first | done | rfl | simp
   ·have h14 := nm h14r
    refine sr fun K hK => ?_
    refine rn 2 E S ?_; clear E S; intro a w E S
    apply hK; clear hK K
    refine cond E rfl (fun h19r => ?_) (fun h19r => ?_)
    ·have h19 := nm h19r
     refine sr fun K hK => ?_
     refine rn 4 E S ?_; clear E S; intro a w E S
     refine cutG 4 39 (.bool ((decide (x.n = 0)) || (decide (x.n = 1)))) E S ?_ ?_
     ·refine bsp E (t := 35) rfl (fun hb20 => ?_) (fun hb20 => ?_)
      ·refine rn 4 E S ?_; clear E S; intro a w E S
       exact ⟨S, E.cutT (by rw [hb20] <;> rfl)⟩
      ·have hk21 := nm hb20
       refine rn 4 E S ?_; clear E S; intro a w E S
       exact ⟨S, E.cutT (by rw [hb20] <;> rfl)⟩
     clear E S; intro a w E S
     refine rn 1 E S ?_; clear E S; intro a w E S
     refine cutG 4 44 (.bool (((decide (x.n = 0)) || (decide (x.n = 1))) && (x.s == []))) E S ?_ ?_
     ·refine bsp E (t := 40) rfl (fun hb22 => ?_) (fun hb22 => ?_)
      ·have hk23 := nm hb22
       refine rn 4 E S ?_; clear E S; intro a w E S
       exact ⟨S, E.cutT (by rw [hb22] <;> rfl)⟩
      ·refine rn 4 E S ?_; clear E S; intro a w E S
       exact ⟨S, E.cutT (by rw [hb22] <;> rfl)⟩
     clear E S; intro a w E S
     refine rn 1 E S ?_; clear E S; intro a w E S
     apply hK; clear hK K
     refine rt hQ E S ?_
     show _ = _
     simp only [packed, Value.bool.injEq]
     symm
     unfold rightV
     rw [if_neg h6]
     rw [if_neg h11]
     rw [if_neg h14]
     rw [if_pos h19]
     first | done | rfl | simp
    ·have h19 := nm h19r
     refine wp_skip ?_
     refine hK2 _ _ ?_; clear hK2
     refine sr fun K hK => ?_
     refine rn 1 E S ?_; clear E S; intro a w E S
     apply hK; clear hK K
     refine rt hQ E S ?_
     show _ = _
     simp only [packed, Value.bool.injEq]
     symm
     unfold rightV
     rw [if_neg h6]
     rw [if_neg h11]
     rw [if_neg h14]
     rw [if_neg h19]
     first | done | rfl | simp

/-! `incognito/policy.ruled` -/
theorem c_ruled (d : Int) (r : Rul) (w0 : World) (G : Heap) (hG : Sub G w0) :
  Calls Tryd.prog 50 #[.int .i64 d, .agg #[.int .i64 r.way, .int .i64 r.size]] w0 (Ret w0 G (fun v _ => v = .bool (ruledB d r))) := by
 refine enter Tryd.func50 rfl Tryd.ntmps50 rfl ?_
 intro Q hQ a E
 have S := St.start0 hG
 refine sr fun K hK => ?_
 refine o_bx2 E rfl S rfl ?_; clear E S; intro B3 w a S E
 refine rn 1 E S ?_; clear E S; intro a w E S
 apply hK; clear hK K
 refine wp_seq_k (fun K3 hK2 => ?_)
 refine sr fun K hK => ?_
 refine rn 2 E S ?_; clear E S; intro a w E S
 apply hK; clear hK K
 refine wp_block ?_
 refine sr fun K hK => ?_
 refine rn 2 E S ?_; clear E S; intro a w E S
 apply hK; clear hK K
 refine cond E rfl (fun h6r => ?_) (fun h6r => ?_)
 ·have h6 := nm h6r
  refine sr fun K hK => ?_
  refine rn 4 E S ?_; clear E S; intro a w E S
  refine cutG 4 16 (.bool ((decide (1 ≤ r.size)) && (decide (r.size ≤ 16)))) E S ?_ ?_
  ·refine bsp E (t := 12) rfl (fun hb7 => ?_) (fun hb7 => ?_)
   ·have hk8 := nm hb7
    refine rn 4 E S ?_; clear E S; intro a w E S
    exact ⟨S, E.cutT (by rw [hb7] <;> rfl)⟩
   ·refine rn 4 E S ?_; clear E S; intro a w E S
    exact ⟨S, E.cutT (by rw [hb7] <;> rfl)⟩
  clear E S; intro a w E S
  refine rn 1 E S ?_; clear E S; intro a w E S
  apply hK; clear hK K
  refine rt hQ E S ?_
  show _ = _
  simp only [packed, Value.bool.injEq]
  simp only [ruledB]
  first | (simp_all; done) | (simp_all; omega) | (grind)
 ·have h6 := nm h6r
  refine cutJ [(17, .bool ((decide (r.way = 0)) || (decide (r.way = 1))))] E S ?_ ?_
  ·refine sr fun K hK => ?_
   refine rn 2 E S ?_; clear E S; intro a w E S
   apply hK; clear hK K
   refine cond E rfl (fun h11r => ?_) (fun h11r => ?_)
   ·have h11 := nm h11r
    refine wp_skip ?_
    exact ⟨S, E.cutX ⟨by first | rfl | (rw [h11r]; rfl) | (rw [h11r]; rfl) | (simp [h11r, lk]; done), trivial⟩⟩
   ·have h11 := nm h11r
    refine wp_region_lit ?_
    refine rn 2 E S ?_; clear E S; intro a w E S
    exact ⟨S, E.cutX ⟨by first | rfl | (rw [h11r]; rfl) | (rw [h11r]; rfl) | (simp [h11r, lk]; done), trivial⟩⟩
  clear E S; intro a w E S
  refine cond E rfl (fun h12r => ?_) (fun h12r => ?_)
  ·have h12 := nm h12r
   refine sr fun K hK => ?_
   refine rn 4 E S ?_; clear E S; intro a w E S
   apply hK; clear hK K
   refine rt hQ E S ?_
   show _ = _
   simp only [packed, Value.bool.injEq]
   simp only [ruledB]
   first | (simp_all; done) | (simp_all; omega) | (grind)
  ·have h12 := nm h12r
   refine wp_skip ?_
   refine hK2 _ _ ?_; clear hK2
   refine sr fun K hK => ?_
   refine rn 4 E S ?_; clear E S; intro a w E S
   refine cutG 3 29 (.bool ((decide (r.way = 3)) && (decide (d = 4)))) E S ?_ ?_
   ·refine bsp E (t := 26) rfl (fun hb14 => ?_) (fun hb14 => ?_)
    ·have hk15 := nm hb14
     refine rn 3 E S ?_; clear E S; intro a w E S
     exact ⟨S, E.cutT (by rw [hb14] <;> rfl)⟩
    ·refine rn 3 E S ?_; clear E S; intro a w E S
     exact ⟨S, E.cutT (by rw [hb14] <;> rfl)⟩
   clear E S; intro a w E S
   refine rn 1 E S ?_; clear E S; intro a w E S
   refine cutG 4 34 (.bool (((decide (r.way = 3)) && (decide (d = 4))) && (decide (r.size = 0)))) E S ?_ ?_
   ·refine bsp E (t := 30) rfl (fun hb16 => ?_) (fun hb16 => ?_)
    ·have hk17 := nm hb16
     refine rn 4 E S ?_; clear E S; intro a w E S
     exact ⟨S, E.cutT (by rw [hb16] <;> rfl)⟩
    ·refine rn 4 E S ?_; clear E S; intro a w E S
     exact ⟨S, E.cutT (by rw [hb16] <;> rfl)⟩
   clear E S; intro a w E S
   refine rn 1 E S ?_; clear E S; intro a w E S
   apply hK; clear hK K
   refine rt hQ E S ?_
   show _ = _
   simp only [packed, Value.bool.injEq]
   simp only [ruledB]
   first | (simp_all; done) | (simp_all; omega) | (grind)

/-! `incognito/incognitoref25.Ruled` -/
theorem c_Ruled (d : Int) (r : Rul) (w0 : World) (G : Heap) (hG : Sub G w0) :
  Calls Tryd.prog 43 #[.int .i64 d, .agg #[.int .i64 r.way, .int .i64 r.size]] w0 (Ret w0 G (fun v _ => v = .bool (ruledB d r))) := by
 refine enter Tryd.func43 rfl Tryd.ntmps43 rfl ?_
 intro Q hQ a E
 have S := St.start0 hG
 refine sr fun K hK => ?_
 refine o_bx2 E rfl S rfl ?_; clear E S; intro B3 w a S E
 refine rn 1 E S ?_; clear E S; intro a w E S
 apply hK; clear hK K
 refine wp_seq_k (fun K3 hK2 => ?_)
 refine sr fun K hK => ?_
 refine rn 3 E S ?_; clear E S; intro a w E S
 apply hK; clear hK K
 refine cond E rfl (fun h5r => ?_) (fun h5r => ?_)
 ·have h5 := nm h5r
  refine sr fun K hK => ?_
  refine rn 4 E S ?_; clear E S; intro a w E S
  refine cutG 4 15 (.bool ((decide (1 ≤ r.size)) && (decide (r.size ≤ 16)))) E S ?_ ?_
  ·refine bsp E (t := 11) rfl (fun hb6 => ?_) (fun hb6 => ?_)
   ·have hk7 := nm hb6
    refine rn 4 E S ?_; clear E S; intro a w E S
    exact ⟨S, E.cutT (by rw [hb6] <;> rfl)⟩
   ·refine rn 4 E S ?_; clear E S; intro a w E S
    exact ⟨S, E.cutT (by rw [hb6] <;> rfl)⟩
  clear E S; intro a w E S
  refine rn 1 E S ?_; clear E S; intro a w E S
  apply hK; clear hK K
  refine rt hQ E S ?_
  show _ = _
  simp only [packed, Value.bool.injEq]
  simp only [ruledB]
  first | (simp_all; done) | (simp_all; omega) | (grind)
 ·have h5 := nm h5r
  refine wp_skip ?_
  refine hK2 _ _ ?_; clear hK2
  refine sr fun K hK => ?_
  refine rn 4 E S ?_; clear E S; intro a w E S
  refine cutG 18 37 (.bool ((decide (r.size = 0)) && (((decide (r.way = 0)) || (decide (r.way = 1))) || ((decide (r.way = 3)) && (decide (d = 4)))))) E S ?_ ?_
  ·refine bsp E (t := 19) rfl (fun hb9 => ?_) (fun hb9 => ?_)
   ·have hk10 := nm hb9
    refine rn 4 E S ?_; clear E S; intro a w E S
    refine cutG 4 27 (.bool ((decide (r.way = 0)) || (decide (r.way = 1)))) E S ?_ ?_
    ·refine bsp E (t := 23) rfl (fun hb11 => ?_) (fun hb11 => ?_)
     ·refine rn 4 E S ?_; clear E S; intro a w E S
      exact ⟨S, E.cutT (by rw [hb11] <;> rfl)⟩
     ·have hk12 := nm hb11
      refine rn 4 E S ?_; clear E S; intro a w E S
      exact ⟨S, E.cutT (by rw [hb11] <;> rfl)⟩
    clear E S; intro a w E S
    refine rn 1 E S ?_; clear E S; intro a w E S
    refine cutG 8 36 (.bool (((decide (r.way = 0)) || (decide (r.way = 1))) || ((decide (r.way = 3)) && (decide (d = 4))))) E S ?_ ?_
    ·refine bsp E (t := 28) rfl (fun hb13 => ?_) (fun hb13 => ?_)
     ·refine rn 8 E S ?_; clear E S; intro a w E S
      exact ⟨S, E.cutT (by rw [hb13] <;> rfl)⟩
     ·have hk14 := nm hb13
      refine rn 4 E S ?_; clear E S; intro a w E S
      refine cutG 3 35 (.bool ((decide (r.way = 3)) && (decide (d = 4)))) E S ?_ ?_
      ·refine bsp E (t := 32) rfl (fun hb15 => ?_) (fun hb15 => ?_)
       ·have hk16 := nm hb15
        refine rn 3 E S ?_; clear E S; intro a w E S
        exact ⟨S, E.cutT (by rw [hb15] <;> rfl)⟩
       ·refine rn 3 E S ?_; clear E S; intro a w E S
        exact ⟨S, E.cutT (by rw [hb15] <;> rfl)⟩
      clear E S; intro a w E S
      refine rn 1 E S ?_; clear E S; intro a w E S
      exact ⟨S, E.cutT (by rw [hb13] <;> rfl)⟩
    clear E S; intro a w E S
    refine rn 1 E S ?_; clear E S; intro a w E S
    exact ⟨S, E.cutT (by rw [hb9] <;> rfl)⟩
   ·refine rn 18 E S ?_; clear E S; intro a w E S
    exact ⟨S, E.cutT (by rw [hb9] <;> rfl)⟩
  clear E S; intro a w E S
  refine rn 1 E S ?_; clear E S; intro a w E S
  apply hK; clear hK K
  refine rt hQ E S ?_
  show _ = _
  simp only [packed, Value.bool.injEq]
  simp only [ruledB]
  first | (simp_all; done) | (simp_all; omega) | (grind)

/-! `incognito/policy.Right` -/
theorem c_right (p : Pol) (w0 : World) (G : Heap) (hG : Sub G w0) :
  Calls Tryd.prog 32 #[.agg #[.int .i64 p.r0.way, .int .i64 p.r0.size, .int .i64 p.r1.way, .int .i64 p.r1.size, .int .i64 p.r2.way, .int .i64 p.r2.size, .int .i64 p.r3.way, .int .i64 p.r3.size, .int .i64 p.r4.way, .int .i64 p.r4.size, .int .i64 p.time, .int .i64 p.note, .bool p.loose, .bool p.force]] w0 (Ret w0 G (fun v _ => v = .bool (rightB p))) := by
 refine enter Tryd.func32 rfl Tryd.ntmps32 rfl ?_
 intro Q hQ a E
 have S := St.start0 hG
 refine sr fun K hK => ?_
 refine o_bx14 E rfl S rfl ?_; clear E S; intro B1 w a S E
 refine rn 1 E S ?_; clear E S; intro a w E S
 apply hK; clear hK K
 refine wp_seq_k (fun K3 hK2 => ?_)
 refine sr fun K hK => ?_
 refine rn 3 E S ?_; clear E S; intro a w E S
 apply hK; clear hK K
 refine wp_block ?_
 refine wp_loop_rounds 6 ?_
 rw [rounds_succ]
 refine sr fun K hK => ?_
 refine rn 1 E S ?_; clear E S; intro a w E S
 apply hK; clear hK K
 refine wp_seq_k (fun K7 hK6 => ?_)
 refine cond E rfl (fun h8r => ?_) (fun h8r => ?_)
 ·have h8 := nm h8r
  refine wp_skip ?_
  refine hK6 _ _ ?_; clear hK6
  refine wp_seq_k (fun K10 hK9 => ?_)
  refine wp_block ?_
  refine sr fun K hK => ?_
  refine rn 1 E S ?_; clear E S; intro a w E S
  refine o_ixV E rfl rfl rfl T.r25 Tryd.underlying25 (by decide) rfl (.inr ⟨T.a24, rfl⟩) ?_; clear E; intro a E
  refine o_allocZ E rfl S ?_; clear E S; intro B4 w a S E
  refine rn 2 E S ?_; clear E S; intro a w E S
  apply hK; clear hK K
  refine sr fun K hK => ?_
  refine rn 2 E S ?_; clear E S; intro a w E S
  refine o_callP E rfl S rfl rfl T.g50 (c_ruled 0 p.r0 _ _ S.sub) ?_
  clear E S; rintro _ w a S rfl E
  refine rn 1 E S ?_; clear E S; intro a w E S
  apply hK; clear hK K
  refine cond E rfl (fun h13r => ?_) (fun h13r => ?_)
  ·have h13 := nm h13r
   refine sr fun K hK => ?_
   refine rn 1 E S ?_; clear E S; intro a w E S
   apply hK; clear hK K
   refine rt hQ E S ?_
   show _ = _
   simp only [packed, Value.bool.injEq]
   simp only [rightB]
   first | (simp_all; done) | grind
  ·have h13 := nm h13r
   refine wp_skip ?_
   refine hK9 _ _ ?_; clear hK9
   refine wp_region_lit ?_
   refine rn 2 E S ?_; clear E S; intro a w E S
   show Code.rounds _ _ _ _ _ _
   replace E := E.cut (L' := [(1, .pointer (some ⟨B1, 0, none⟩)), (2, .bool false), (6, .agg #[.int .i64 p.r0.way, .int .i64 p.r0.size, .int .i64 p.r1.way, .int .i64 p.r1.size, .int .i64 p.r2.way, .int .i64 p.r2.size, .int .i64 p.r3.way, .int .i64 p.r3.size, .int .i64 p.r4.way, .int .i64 p.r4.size]), (7, .int .i64 1)]) ⟨rfl, rfl, rfl, rfl, trivial⟩
   rw [rounds_succ]
   refine sr fun K hK => ?_
   refine rn 1 E S ?_; clear E S; intro a w E S
   apply hK; clear hK K
   refine wp_seq_k (fun K17 hK16 => ?_)
   refine cond E rfl (fun h18r => ?_) (fun h18r => ?_)
   ·have h18 := nm h18r
    refine wp_skip ?_
    refine hK16 _ _ ?_; clear hK16
    refine wp_seq_k (fun K20 hK19 => ?_)
    refine wp_block ?_
    refine sr fun K hK => ?_
    refine rn 1 E S ?_; clear E S; intro a w E S
    refine o_ixV E rfl rfl rfl T.r25 Tryd.underlying25 (by decide) rfl (.inr ⟨T.a24, rfl⟩) ?_; clear E; intro a E
    refine o_allocZ E rfl S ?_; clear E S; intro B4_21 w a S E
    refine rn 2 E S ?_; clear E S; intro a w E S
    apply hK; clear hK K
    refine sr fun K hK => ?_
    refine rn 2 E S ?_; clear E S; intro a w E S
    refine o_callP E rfl S rfl rfl T.g50 (c_ruled 1 p.r1 _ _ S.sub) ?_
    clear E S; rintro _ w a S rfl E
    refine rn 1 E S ?_; clear E S; intro a w E S
    apply hK; clear hK K
    refine cond E rfl (fun h24r => ?_) (fun h24r => ?_)
    ·have h24 := nm h24r
     refine sr fun K hK => ?_
     refine rn 1 E S ?_; clear E S; intro a w E S
     apply hK; clear hK K
     refine rt hQ E S ?_
     show _ = _
     simp only [packed, Value.bool.injEq]
     simp only [rightB]
     first | (simp_all; done) | grind
    ·have h24 := nm h24r
     refine wp_skip ?_
     refine hK19 _ _ ?_; clear hK19
     refine wp_region_lit ?_
     refine rn 2 E S ?_; clear E S; intro a w E S
     show Code.rounds _ _ _ _ _ _
     replace E := E.cut (L' := [(1, .pointer (some ⟨B1, 0, none⟩)), (2, .bool false), (6, .agg #[.int .i64 p.r0.way, .int .i64 p.r0.size, .int .i64 p.r1.way, .int .i64 p.r1.size, .int .i64 p.r2.way, .int .i64 p.r2.size, .int .i64 p.r3.way, .int .i64 p.r3.size, .int .i64 p.r4.way, .int .i64 p.r4.size]), (7, .int .i64 2)]) ⟨rfl, rfl, rfl, rfl, trivial⟩
     rw [rounds_succ]
     refine sr fun K hK => ?_
     refine rn 1 E S ?_; clear E S; intro a w E S
     apply hK; clear hK K
     refine wp_seq_k (fun K28 hK27 => ?_)
     refine cond E rfl (fun h29r => ?_) (fun h29r => ?_)
     ·have h29 := nm h29r
      refine wp_skip ?_
      refine hK27 _ _ ?_; clear hK27
      refine wp_seq_k (fun K31 hK30 => ?_)
      refine wp_block ?_
      refine sr fun K hK => ?_
      refine rn 1 E S ?_; clear E S; intro a w E S
      refine o_ixV E rfl rfl rfl T.r25 Tryd.underlying25 (by decide) rfl (.inr ⟨T.a24, rfl⟩) ?_; clear E; intro a E
      refine o_allocZ E rfl S ?_; clear E S; intro B4_32 w a S E
      refine rn 2 E S ?_; clear E S; intro a w E S
      apply hK; clear hK K
      refine sr fun K hK => ?_
      refine rn 2 E S ?_; clear E S; intro a w E S
      refine o_callP E rfl S rfl rfl T.g50 (c_ruled 2 p.r2 _ _ S.sub) ?_
      clear E S; rintro _ w a S rfl E
      refine rn 1 E S ?_; clear E S; intro a w E S
      apply hK; clear hK K
      refine cond E rfl (fun h35r => ?_) (fun h35r => ?_)
      ·have h35 := nm h35r
       refine sr fun K hK => ?_
       refine rn 1 E S ?_; clear E S; intro a w E S
       apply hK; clear hK K
       refine rt hQ E S ?_
       show _ = _
       simp only [packed, Value.bool.injEq]
       simp only [rightB]
       first | (simp_all; done) | grind
      ·have h35 := nm h35r
       refine wp_skip ?_
       refine hK30 _ _ ?_; clear hK30
       refine wp_region_lit ?_
       refine rn 2 E S ?_; clear E S; intro a w E S
       show Code.rounds _ _ _ _ _ _
       replace E := E.cut (L' := [(1, .pointer (some ⟨B1, 0, none⟩)), (2, .bool false), (6, .agg #[.int .i64 p.r0.way, .int .i64 p.r0.size, .int .i64 p.r1.way, .int .i64 p.r1.size, .int .i64 p.r2.way, .int .i64 p.r2.size, .int .i64 p.r3.way, .int .i64 p.r3.size, .int .i64 p.r4.way, .int .i64 p.r4.size]), (7, .int .i64 3)]) ⟨rfl, rfl, rfl, rfl, trivial⟩
       rw [rounds_succ]
       refine sr fun K hK => ?_
       refine rn 1 E S ?_; clear E S; intro a w E S
       apply hK; clear hK K
       refine wp_seq_k (fun K39 hK38 => ?_)
       refine cond E rfl (fun h40r => ?_) (fun h40r => ?_)
       ·have h40 := nm h40r
        refine wp_skip ?_
        refine hK38 _ _ ?_; clear hK38
        refine wp_seq_k (fun K42 hK41 => ?_)
        refine wp_block ?_
        refine sr fun K hK => ?_
        refine rn 1 E S ?_; clear E S; intro a w E S
        refine o_ixV E rfl rfl rfl T.r25 Tryd.underlying25 (by decide) rfl (.inr ⟨T.a24, rfl⟩) ?_; clear E; intro a E
        refine o_allocZ E rfl S ?_; clear E S; intro B4_43 w a S E
        refine rn 2 E S ?_; clear E S; intro a w E S
        apply hK; clear hK K
        refine sr fun K hK => ?_
        refine rn 2 E S ?_; clear E S; intro a w E S
        refine o_callP E rfl S rfl rfl T.g50 (c_ruled 3 p.r3 _ _ S.sub) ?_
        clear E S; rintro _ w a S rfl E
        refine rn 1 E S ?_; clear E S; intro a w E S
        apply hK; clear hK K
        refine cond E rfl (fun h46r => ?_) (fun h46r => ?_)
        ·have h46 := nm h46r
         refine sr fun K hK => ?_
         refine rn 1 E S ?_; clear E S; intro a w E S
         apply hK; clear hK K
         refine rt hQ E S ?_
         show _ = _
         simp only [packed, Value.bool.injEq]
         simp only [rightB]
         first | (simp_all; done) | grind
        ·have h46 := nm h46r
         refine wp_skip ?_
         refine hK41 _ _ ?_; clear hK41
         refine wp_region_lit ?_
         refine rn 2 E S ?_; clear E S; intro a w E S
         show Code.rounds _ _ _ _ _ _
         replace E := E.cut (L' := [(1, .pointer (some ⟨B1, 0, none⟩)), (2, .bool false), (6, .agg #[.int .i64 p.r0.way, .int .i64 p.r0.size, .int .i64 p.r1.way, .int .i64 p.r1.size, .int .i64 p.r2.way, .int .i64 p.r2.size, .int .i64 p.r3.way, .int .i64 p.r3.size, .int .i64 p.r4.way, .int .i64 p.r4.size]), (7, .int .i64 4)]) ⟨rfl, rfl, rfl, rfl, trivial⟩
         rw [rounds_succ]
         refine sr fun K hK => ?_
         refine rn 1 E S ?_; clear E S; intro a w E S
         apply hK; clear hK K
         refine wp_seq_k (fun K50 hK49 => ?_)
         refine cond E rfl (fun h51r => ?_) (fun h51r => ?_)
         ·have h51 := nm h51r
          refine wp_skip ?_
          refine hK49 _ _ ?_; clear hK49
          refine wp_seq_k (fun K53 hK52 => ?_)
          refine wp_block ?_
          refine sr fun K hK => ?_
          refine rn 1 E S ?_; clear E S; intro a w E S
          refine o_ixV E rfl rfl rfl T.r25 Tryd.underlying25 (by decide) rfl (.inr ⟨T.a24, rfl⟩) ?_; clear E; intro a E
          refine o_allocZ E rfl S ?_; clear E S; intro B4_54 w a S E
          refine rn 2 E S ?_; clear E S; intro a w E S
          apply hK; clear hK K
          refine sr fun K hK => ?_
          refine rn 2 E S ?_; clear E S; intro a w E S
          refine o_callP E rfl S rfl rfl T.g50 (c_ruled 4 p.r4 _ _ S.sub) ?_
          clear E S; rintro _ w a S rfl E
          refine rn 1 E S ?_; clear E S; intro a w E S
          apply hK; clear hK K
          refine cond E rfl (fun h57r => ?_) (fun h57r => ?_)
          ·have h57 := nm h57r
           refine sr fun K hK => ?_
           refine rn 1 E S ?_; clear E S; intro a w E S
           apply hK; clear hK K
           refine rt hQ E S ?_
           show _ = _
           simp only [packed, Value.bool.injEq]
           simp only [rightB]
           first | (simp_all; done) | grind
          ·have h57 := nm h57r
           refine wp_skip ?_
           refine hK52 _ _ ?_; clear hK52
           refine wp_region_lit ?_
           refine rn 2 E S ?_; clear E S; intro a w E S
           show Code.rounds _ _ _ _ _ _
           replace E := E.cut (L' := [(1, .pointer (some ⟨B1, 0, none⟩)), (2, .bool false), (6, .agg #[.int .i64 p.r0.way, .int .i64 p.r0.size, .int .i64 p.r1.way, .int .i64 p.r1.size, .int .i64 p.r2.way, .int .i64 p.r2.size, .int .i64 p.r3.way, .int .i64 p.r3.size, .int .i64 p.r4.way, .int .i64 p.r4.size]), (7, .int .i64 5)]) ⟨rfl, rfl, rfl, rfl, trivial⟩
           rw [rounds_succ]
           refine sr fun K hK => ?_
           refine rn 1 E S ?_; clear E S; intro a w E S
           apply hK; clear hK K
           refine wp_seq_k (fun K61 hK60 => ?_)
           refine cond E rfl (fun h62r => ?_) (fun h62r => ?_)
           ·exact absurd h62r (by decide)
           ·have h62 := nm h62r
            refine wp_exit ?_
            refine hK2 _ _ ?_; clear hK2
            refine sr fun K hK => ?_
            refine rn 4 E S ?_; clear E S; intro a w E S
            refine cutG 4 23 (.bool ((decide (p.time = 0)) || (decide (p.time = 3)))) E S ?_ ?_
            ·refine bsp E (t := 19) rfl (fun hb63 => ?_) (fun hb63 => ?_)
             ·refine rn 4 E S ?_; clear E S; intro a w E S
              exact ⟨S, E.cutT (by rw [hb63] <;> rfl)⟩
             ·have hk64 := nm hb63
              refine rn 4 E S ?_; clear E S; intro a w E S
              exact ⟨S, E.cutT (by rw [hb63] <;> rfl)⟩
            clear E S; intro a w E S
            refine rn 1 E S ?_; clear E S; intro a w E S
            refine cutG 9 33 (.bool (((decide (p.time = 0)) || (decide (p.time = 3))) && ((decide (p.note = 0)) || (decide (p.note = 4))))) E S ?_ ?_
            ·refine bsp E (t := 24) rfl (fun hb65 => ?_) (fun hb65 => ?_)
             ·have hk66 := nm hb65
              refine rn 4 E S ?_; clear E S; intro a w E S
              refine cutG 4 32 (.bool ((decide (p.note = 0)) || (decide (p.note = 4)))) E S ?_ ?_
              ·refine bsp E (t := 28) rfl (fun hb67 => ?_) (fun hb67 => ?_)
               ·refine rn 4 E S ?_; clear E S; intro a w E S
                exact ⟨S, E.cutT (by rw [hb67] <;> rfl)⟩
               ·have hk68 := nm hb67
                refine rn 4 E S ?_; clear E S; intro a w E S
                exact ⟨S, E.cutT (by rw [hb67] <;> rfl)⟩
              clear E S; intro a w E S
              refine rn 1 E S ?_; clear E S; intro a w E S
              exact ⟨S, E.cutT (by rw [hb65] <;> rfl)⟩
             ·refine rn 9 E S ?_; clear E S; intro a w E S
              exact ⟨S, E.cutT (by rw [hb65] <;> rfl)⟩
            clear E S; intro a w E S
            refine rn 1 E S ?_; clear E S; intro a w E S
            apply hK; clear hK K
            refine rt hQ E S ?_
            show _ = _
            simp only [packed, Value.bool.injEq]
            simp only [rightB]
            first | (simp_all; done) | grind
         ·exact absurd h51r (by decide)
       ·exact absurd h40r (by decide)
     ·exact absurd h29r (by decide)
   ·exact absurd h18r (by decide)
 ·exact absurd h8r (by decide)

/-! `incognito/incognitoref25.Right` -/
theorem c_Right (p : Pol) (w0 : World) (G : Heap) (hG : Sub G w0) :
  Calls Tryd.prog 23 #[.agg #[.int .i64 p.r0.way, .int .i64 p.r0.size, .int .i64 p.r1.way, .int .i64 p.r1.size, .int .i64 p.r2.way, .int .i64 p.r2.size, .int .i64 p.r3.way, .int .i64 p.r3.size, .int .i64 p.r4.way, .int .i64 p.r4.size, .int .i64 p.time, .int .i64 p.note, .bool p.loose, .bool p.force]] w0 (Ret w0 G (fun v _ => v = .bool (rightB p))) := by
 refine enter Tryd.func23 rfl Tryd.ntmps23 rfl ?_
 intro Q hQ a E
 have S := St.start0 hG
 refine sr fun K hK => ?_
 refine o_bx14 E rfl S rfl ?_; clear E S; intro B1 w a S E
 refine rn 1 E S ?_; clear E S; intro a w E S
 apply hK; clear hK K
 refine wp_seq_k (fun K3 hK2 => ?_)
 refine sr fun K hK => ?_
 refine rn 1 E S ?_; clear E S; intro a w E S
 apply hK; clear hK K
 refine wp_block ?_
 refine wp_loop_rounds 6 ?_
 rw [rounds_succ]
 refine wp_seq_k (fun K6 hK5 => ?_)
 refine sr fun K hK => ?_
 refine rn 2 E S ?_; clear E S; intro a w E S
 apply hK; clear hK K
 refine cond E rfl (fun h8r => ?_) (fun h8r => ?_)
 ·have h8 := nm h8r
  refine wp_skip ?_
  refine hK5 _ _ ?_; clear hK5
  refine wp_seq_k (fun K10 hK9 => ?_)
  refine wp_block ?_
  refine sr fun K hK => ?_
  refine rn 3 E S ?_; clear E S; intro a w E S
  refine o_ixA E rfl rfl rfl T.r25 (by decide) ?_; clear E; intro a E
  refine rn 1 E S ?_; clear E S; intro a w E S
  refine o_callP E rfl S rfl rfl T.g43 (c_Ruled 0 p.r0 _ _ S.sub) ?_
  clear E S; rintro _ w a S rfl E
  refine rn 1 E S ?_; clear E S; intro a w E S
  apply hK; clear hK K
  refine cond E rfl (fun h12r => ?_) (fun h12r => ?_)
  ·have h12 := nm h12r
   refine sr fun K hK => ?_
   refine rn 1 E S ?_; clear E S; intro a w E S
   apply hK; clear hK K
   refine rt hQ E S ?_
   show _ = _
   simp only [packed, Value.bool.injEq]
   simp only [rightB]
   first | (simp_all; done) | grind
  ·have h12 := nm h12r
   refine wp_skip ?_
   refine hK9 _ _ ?_; clear hK9
   refine wp_region_lit ?_
   refine rn 3 E S ?_; clear E S; intro a w E S
   show Code.rounds _ _ _ _ _ _
   replace E := E.cut (L' := [(1, .pointer (some ⟨B1, 0, none⟩)), (2, .bool false), (3, .int .i64 1)]) ⟨rfl, rfl, rfl, trivial⟩
   rw [rounds_succ]
   refine wp_seq_k (fun K15 hK14 => ?_)
   refine sr fun K hK => ?_
   refine rn 2 E S ?_; clear E S; intro a w E S
   apply hK; clear hK K
   refine cond E rfl (fun h17r => ?_) (fun h17r => ?_)
   ·have h17 := nm h17r
    refine wp_skip ?_
    refine hK14 _ _ ?_; clear hK14
    refine wp_seq_k (fun K19 hK18 => ?_)
    refine wp_block ?_
    refine sr fun K hK => ?_
    refine rn 3 E S ?_; clear E S; intro a w E S
    refine o_ixA E rfl rfl rfl T.r25 (by decide) ?_; clear E; intro a E
    refine rn 1 E S ?_; clear E S; intro a w E S
    refine o_callP E rfl S rfl rfl T.g43 (c_Ruled 1 p.r1 _ _ S.sub) ?_
    clear E S; rintro _ w a S rfl E
    refine rn 1 E S ?_; clear E S; intro a w E S
    apply hK; clear hK K
    refine cond E rfl (fun h21r => ?_) (fun h21r => ?_)
    ·have h21 := nm h21r
     refine sr fun K hK => ?_
     refine rn 1 E S ?_; clear E S; intro a w E S
     apply hK; clear hK K
     refine rt hQ E S ?_
     show _ = _
     simp only [packed, Value.bool.injEq]
     simp only [rightB]
     first | (simp_all; done) | grind
    ·have h21 := nm h21r
     refine wp_skip ?_
     refine hK18 _ _ ?_; clear hK18
     refine wp_region_lit ?_
     refine rn 3 E S ?_; clear E S; intro a w E S
     show Code.rounds _ _ _ _ _ _
     replace E := E.cut (L' := [(1, .pointer (some ⟨B1, 0, none⟩)), (2, .bool false), (3, .int .i64 2)]) ⟨rfl, rfl, rfl, trivial⟩
     rw [rounds_succ]
     refine wp_seq_k (fun K24 hK23 => ?_)
     refine sr fun K hK => ?_
     refine rn 2 E S ?_; clear E S; intro a w E S
     apply hK; clear hK K
     refine cond E rfl (fun h26r => ?_) (fun h26r => ?_)
     ·have h26 := nm h26r
      refine wp_skip ?_
      refine hK23 _ _ ?_; clear hK23
      refine wp_seq_k (fun K28 hK27 => ?_)
      refine wp_block ?_
      refine sr fun K hK => ?_
      refine rn 3 E S ?_; clear E S; intro a w E S
      refine o_ixA E rfl rfl rfl T.r25 (by decide) ?_; clear E; intro a E
      refine rn 1 E S ?_; clear E S; intro a w E S
      refine o_callP E rfl S rfl rfl T.g43 (c_Ruled 2 p.r2 _ _ S.sub) ?_
      clear E S; rintro _ w a S rfl E
      refine rn 1 E S ?_; clear E S; intro a w E S
      apply hK; clear hK K
      refine cond E rfl (fun h30r => ?_) (fun h30r => ?_)
      ·have h30 := nm h30r
       refine sr fun K hK => ?_
       refine rn 1 E S ?_; clear E S; intro a w E S
       apply hK; clear hK K
       refine rt hQ E S ?_
       show _ = _
       simp only [packed, Value.bool.injEq]
       simp only [rightB]
       first | (simp_all; done) | grind
      ·have h30 := nm h30r
       refine wp_skip ?_
       refine hK27 _ _ ?_; clear hK27
       refine wp_region_lit ?_
       refine rn 3 E S ?_; clear E S; intro a w E S
       show Code.rounds _ _ _ _ _ _
       replace E := E.cut (L' := [(1, .pointer (some ⟨B1, 0, none⟩)), (2, .bool false), (3, .int .i64 3)]) ⟨rfl, rfl, rfl, trivial⟩
       rw [rounds_succ]
       refine wp_seq_k (fun K33 hK32 => ?_)
       refine sr fun K hK => ?_
       refine rn 2 E S ?_; clear E S; intro a w E S
       apply hK; clear hK K
       refine cond E rfl (fun h35r => ?_) (fun h35r => ?_)
       ·have h35 := nm h35r
        refine wp_skip ?_
        refine hK32 _ _ ?_; clear hK32
        refine wp_seq_k (fun K37 hK36 => ?_)
        refine wp_block ?_
        refine sr fun K hK => ?_
        refine rn 3 E S ?_; clear E S; intro a w E S
        refine o_ixA E rfl rfl rfl T.r25 (by decide) ?_; clear E; intro a E
        refine rn 1 E S ?_; clear E S; intro a w E S
        refine o_callP E rfl S rfl rfl T.g43 (c_Ruled 3 p.r3 _ _ S.sub) ?_
        clear E S; rintro _ w a S rfl E
        refine rn 1 E S ?_; clear E S; intro a w E S
        apply hK; clear hK K
        refine cond E rfl (fun h39r => ?_) (fun h39r => ?_)
        ·have h39 := nm h39r
         refine sr fun K hK => ?_
         refine rn 1 E S ?_; clear E S; intro a w E S
         apply hK; clear hK K
         refine rt hQ E S ?_
         show _ = _
         simp only [packed, Value.bool.injEq]
         simp only [rightB]
         first | (simp_all; done) | grind
        ·have h39 := nm h39r
         refine wp_skip ?_
         refine hK36 _ _ ?_; clear hK36
         refine wp_region_lit ?_
         refine rn 3 E S ?_; clear E S; intro a w E S
         show Code.rounds _ _ _ _ _ _
         replace E := E.cut (L' := [(1, .pointer (some ⟨B1, 0, none⟩)), (2, .bool false), (3, .int .i64 4)]) ⟨rfl, rfl, rfl, trivial⟩
         rw [rounds_succ]
         refine wp_seq_k (fun K42 hK41 => ?_)
         refine sr fun K hK => ?_
         refine rn 2 E S ?_; clear E S; intro a w E S
         apply hK; clear hK K
         refine cond E rfl (fun h44r => ?_) (fun h44r => ?_)
         ·have h44 := nm h44r
          refine wp_skip ?_
          refine hK41 _ _ ?_; clear hK41
          refine wp_seq_k (fun K46 hK45 => ?_)
          refine wp_block ?_
          refine sr fun K hK => ?_
          refine rn 3 E S ?_; clear E S; intro a w E S
          refine o_ixA E rfl rfl rfl T.r25 (by decide) ?_; clear E; intro a E
          refine rn 1 E S ?_; clear E S; intro a w E S
          refine o_callP E rfl S rfl rfl T.g43 (c_Ruled 4 p.r4 _ _ S.sub) ?_
          clear E S; rintro _ w a S rfl E
          refine rn 1 E S ?_; clear E S; intro a w E S
          apply hK; clear hK K
          refine cond E rfl (fun h48r => ?_) (fun h48r => ?_)
          ·have h48 := nm h48r
           refine sr fun K hK => ?_
           refine rn 1 E S ?_; clear E S; intro a w E S
           apply hK; clear hK K
           refine rt hQ E S ?_
           show _ = _
           simp only [packed, Value.bool.injEq]
           simp only [rightB]
           first | (simp_all; done) | grind
          ·have h48 := nm h48r
           refine wp_skip ?_
           refine hK45 _ _ ?_; clear hK45
           refine wp_region_lit ?_
           refine rn 3 E S ?_; clear E S; intro a w E S
           show Code.rounds _ _ _ _ _ _
           replace E := E.cut (L' := [(1, .pointer (some ⟨B1, 0, none⟩)), (2, .bool false), (3, .int .i64 5)]) ⟨rfl, rfl, rfl, trivial⟩
           rw [rounds_succ]
           refine wp_seq_k (fun K51 hK50 => ?_)
           refine sr fun K hK => ?_
           refine rn 2 E S ?_; clear E S; intro a w E S
           apply hK; clear hK K
           refine cond E rfl (fun h53r => ?_) (fun h53r => ?_)
           ·exact absurd h53r (by decide)
           ·have h53 := nm h53r
            refine wp_exit ?_
            refine hK2 _ _ ?_; clear hK2
            refine sr fun K hK => ?_
            refine rn 4 E S ?_; clear E S; intro a w E S
            refine cutG 4 22 (.bool ((decide (p.time = 0)) || (decide (p.time = 3)))) E S ?_ ?_
            ·refine bsp E (t := 18) rfl (fun hb54 => ?_) (fun hb54 => ?_)
             ·refine rn 4 E S ?_; clear E S; intro a w E S
              exact ⟨S, E.cutT (by rw [hb54] <;> rfl)⟩
             ·have hk55 := nm hb54
              refine rn 4 E S ?_; clear E S; intro a w E S
              exact ⟨S, E.cutT (by rw [hb54] <;> rfl)⟩
            clear E S; intro a w E S
            refine rn 1 E S ?_; clear E S; intro a w E S
            refine cutG 9 32 (.bool (((decide (p.time = 0)) || (decide (p.time = 3))) && ((decide (p.note = 0)) || (decide (p.note = 4))))) E S ?_ ?_
            ·refine bsp E (t := 23) rfl (fun hb56 => ?_) (fun hb56 => ?_)
             ·have hk57 := nm hb56
              refine rn 4 E S ?_; clear E S; intro a w E S
              refine cutG 4 31 (.bool ((decide (p.note = 0)) || (decide (p.note = 4)))) E S ?_ ?_
              ·refine bsp E (t := 27) rfl (fun hb58 => ?_) (fun hb58 => ?_)
               ·refine rn 4 E S ?_; clear E S; intro a w E S
                exact ⟨S, E.cutT (by rw [hb58] <;> rfl)⟩
               ·have hk59 := nm hb58
                refine rn 4 E S ?_; clear E S; intro a w E S
                exact ⟨S, E.cutT (by rw [hb58] <;> rfl)⟩
              clear E S; intro a w E S
              refine rn 1 E S ?_; clear E S; intro a w E S
              exact ⟨S, E.cutT (by rw [hb56] <;> rfl)⟩
             ·refine rn 9 E S ?_; clear E S; intro a w E S
              exact ⟨S, E.cutT (by rw [hb56] <;> rfl)⟩
            clear E S; intro a w E S
            refine rn 1 E S ?_; clear E S; intro a w E S
            apply hK; clear hK K
            refine rt hQ E S ?_
            show _ = _
            simp only [packed, Value.bool.injEq]
            simp only [rightB]
            first | (simp_all; done) | grind
         ·exact absurd h44r (by decide)
       ·exact absurd h35r (by decide)
     ·exact absurd h26r (by decide)
   ·exact absurd h17r (by decide)
 ·exact absurd h8r (by decide)

/-! `incognito/sign.domain` -/
theorem c_domain (c : Int) (w0 : World) (G : Heap) (hG : Sub G w0) :
  Calls Tryd.prog 60 #[.int .u8 c] w0 (Ret w0 G (fun v _ => v = .int .i64 (domS c))) := by
 refine enter Tryd.func60 rfl Tryd.ntmps60 rfl ?_
 intro Q hQ a E
 have S := St.start0 hG
 refine sr fun K hK => ?_
 refine rn 1 E S ?_; clear E S; intro a w E S
 apply hK; clear hK K
 refine wp_seq_k (fun K3 hK2 => ?_)
 refine sr fun K hK => ?_
 refine rn 1 E S ?_; clear E S; intro a w E S
 apply hK; clear hK K
 refine wp_block ?_
 refine sr fun K hK => ?_
 refine rn 2 E S ?_; clear E S; intro a w E S
 apply hK; clear hK K
 refine cond E rfl (fun h6r => ?_) (fun h6r => ?_)
 ·have h6 := nm h6r
  refine sr fun K hK => ?_
  refine rn 1 E S ?_; clear E S; intro a w E S
  apply hK; clear hK K
  refine rt hQ E S ?_
  have e : domS c = 2 := by
   unfold domS
   rw [if_pos (by omega)]
  show _ = _
  rw [e]
  rfl
 ·have h6 := nm h6r
  refine sr fun K hK => ?_
  refine rn 2 E S ?_; clear E S; intro a w E S
  apply hK; clear hK K
  refine cond E rfl (fun h9r => ?_) (fun h9r => ?_)
  ·have h9 := nm h9r
   refine sr fun K hK => ?_
   refine rn 1 E S ?_; clear E S; intro a w E S
   apply hK; clear hK K
   refine rt hQ E S ?_
   have e : domS c = 3 := by
    unfold domS
    rw [if_neg (by omega)]; rw [if_pos (by omega)]
   show _ = _
   rw [e]
   rfl
  ·have h9 := nm h9r
   refine sr fun K hK => ?_
   refine rn 2 E S ?_; clear E S; intro a w E S
   apply hK; clear hK K
   refine cond E rfl (fun h12r => ?_) (fun h12r => ?_)
   ·have h12 := nm h12r
    refine sr fun K hK => ?_
    refine rn 1 E S ?_; clear E S; intro a w E S
    apply hK; clear hK K
    refine rt hQ E S ?_
    have e : domS c = 4 := by
     unfold domS
     rw [if_neg (by omega)]; rw [if_neg (by omega)]; rw [if_pos (by omega)]
    show _ = _
    rw [e]
    rfl
   ·have h12 := nm h12r
    refine wp_skip ?_
    refine hK2 _ _ ?_; clear hK2
    refine sr fun K hK => ?_
    refine rn 1 E S ?_; clear E S; intro a w E S
    apply hK; clear hK K
    refine rt hQ E S ?_
    have e : domS c = 5 := by
     unfold domS
     rw [if_neg (by omega)]; rw [if_neg (by omega)]; rw [if_neg (by omega)]
    show _ = _
    rw [e]
    rfl

/-! `incognito/sign.find$1` -/
theorem c_isrow (r : Row) (m o : Int) (b1 b2 : Nat) (w0 : World) (G : Heap) (hG : Sub G w0) (hC1 : CellsAt G b1 0 [.int .i64 m]) (hC2 : CellsAt G b2 0 [.int .i64 o]):
  Calls Tryd.prog 69 #[.agg #[.int .i64 r.model, .int .i64 r.op, str r.ins, .int .i64 r.out, .bool r.may], .pointer (some ⟨b1, 0, none⟩), .pointer (some ⟨b2, 0, none⟩)] w0 (Ret w0 G (fun v _ => v = .bool (isRow m o r))) := by
 refine enter Tryd.func69 rfl Tryd.ntmps69 rfl ?_
 intro Q hQ a E
 have S := St.start0 hG
 refine sr fun K hK => ?_
 refine o_boxL [(0, _), (1, _), (2, _), (3, _), (4, _)] E rfl S rfl ⟨rfl, rfl, rfl, rfl, rfl, trivial⟩ ?_; clear E S; intro B3 w a S E
 refine rn 1 E S ?_; clear E S; intro a w E S
 apply hK; clear hK K
 refine sr fun K hK => ?_
 refine rn 2 E S ?_; clear E S; intro a w E S
 refine o_ldI E rfl S rfl T.s3 hC1 (j := 0) rfl rfl ?_; clear E; intro a E
 refine rn 2 E S ?_; clear E S; intro a w E S
 refine cutG 5 14 (.bool ((decide (r.model = m)) && (decide (r.op = o)))) E S ?_ ?_
 ·refine bsp E (t := 9) rfl (fun hb2 => ?_) (fun hb2 => ?_)
  ·have hk3 := nm hb2
   refine rn 2 E S ?_; clear E S; intro a w E S
   refine op_on E rfl rfl hb2 ?_
   refine o_ldI E rfl S rfl T.s3 hC2 (j := 0) rfl rfl ?_; clear E; intro a E
   refine rn 2 E S ?_; clear E S; intro a w E S
   exact ⟨S, E.cutT (by rw [hb2] <;> rfl)⟩
  ·refine rn 5 E S ?_; clear E S; intro a w E S
   exact ⟨S, E.cutT (by rw [hb2] <;> rfl)⟩
 clear E S; intro a w E S
 refine rn 1 E S ?_; clear E S; intro a w E S
 apply hK; clear hK K
 refine rt hQ E S ?_
 exact rfl

/-! `slices.IndexFunc[[]incognito/sign.row,incognito/sign.row]` -/
theorem c_index (rows : List Row) (A : Option Addr) (c : Nat) (m o : Int) (b1 b2 : Nat) (w0 : World) (G : Heap) (hG : Sub G w0) (hR : Rd kRow G A rows) (hC1 : CellsAt G b1 0 [.int .i64 m]) (hC2 : CellsAt G b2 0 [.int .i64 o]) (hl : rows.length ≤ 100):
  Calls Tryd.prog 68 #[.slice A rows.length c, .func (.func 69) #[] #[.pointer (some ⟨b1, 0, none⟩), .pointer (some ⟨b2, 0, none⟩)]] w0 (Ret w0 G (fun v _ => v = .int .i64 (idxR rows 0 m o))) := by
 refine enter Tryd.func68 rfl Tryd.ntmps68 rfl ?_
 intro Q hQ a E
 have S := St.start0 hG
 refine sr fun K hK => ?_
 refine rn 1 E S ?_; clear E S; intro a w E S
 apply hK; clear hK K
 refine wp_seq_k (fun K3 hK2 => ?_)
 refine sr fun K hK => ?_
 refine rn 3 E S ?_; clear E S; intro a w E S
 apply hK; clear hK K
 refine wp_block ?_
 refine loop (fun (i : Nat) a' w' => St w0 G [] G w' [] ∧ Env a' 19 [] [(0, .slice A rows.length c), (1, .func (.func 69) #[] #[.pointer (some ⟨b1, 0, none⟩), .pointer (some ⟨b2, 0, none⟩)]), (6, .slice A rows.length c), (7, .int .i64 (rows.length : Int)), (8, .int .i64 (i : Int))] ∧ (i ≤ rows.length ∧ idxR rows 0 m o = idxR (rows.drop i) (i : Int) m o)) (fun (i : Nat) => rows.length - i) 0 ⟨S, E.cut ⟨rfl, rfl, rfl, rfl, rfl, trivial⟩, ⟨Nat.zero_le _, rfl⟩⟩ ?_
 clear E S; intro i a w ⟨S, E, ⟨hi, hx⟩⟩
 refine sr fun K hK => ?_
 refine rn 1 E S ?_; clear E S; intro a w E S
 apply hK; clear hK K
 refine wp_seq_k (fun K8 hK7 => ?_)
 refine cond E rfl (fun h9r => ?_) (fun h9r => ?_)
 ·have h9 := nm h9r
  refine wp_skip ?_
  refine hK7 _ _ ?_; clear hK7
  refine wp_seq_k (fun K11 hK10 => ?_)
  refine wp_block ?_
  refine sr fun K hK => ?_
  refine rn 2 E S ?_; clear E S; intro a w E S
  apply hK; clear hK K
  refine sr fun K hK => ?_
  refine rn 3 E S ?_; clear E S; intro a w E S
  have hi13 : (i : Int).toNat < rows.length := by omega
  obtain ⟨eb13, eo13, hA13, el13⟩ := Rd.at hR (List.getElem?_eq_getElem hi13); cases hA13
  obtain ⟨x13, ex13⟩ : ∃ x, rows[(i : Int).toNat] = x := ⟨_, rfl⟩; rw [ex13] at el13
  have el13 := kRow_open el13
  refine o_ixL E rfl rfl rfl T.l125 ⟨by omega, by omega⟩ ?_; clear E; intro a E
  refine o_ldIA E rfl S rfl el13 T.a117 ?_; clear E; intro a E
  refine o_callP E rfl S rfl rfl T.g69 (c_isrow x13 m o _ _ _ _ S.sub hC1 hC2) ?_
  clear E S; rintro _ w a S rfl E
  apply hK; clear hK K
  refine cond E rfl (fun h15r => ?_) (fun h15r => ?_)
  ·have h15 := nm h15r
   refine sr fun K hK => ?_
   refine rn 2 E S ?_; clear E S; intro a w E S
   apply hK; clear hK K
   refine rt hQ E S ?_
   have e : idxR rows 0 m o = (i : Int) := by
    rw [hx, idxR_step (i := i) (by simpa using ex13), if_pos (by simpa using h15r)]
   show _ = _
   rw [e]
   rfl
  ·have h15 := nm h15r
   refine wp_skip ?_
   refine hK10 _ _ ?_; clear hK10
   refine wp_region_lit ?_
   refine rn 2 E S ?_; clear E S; intro a w E S
   have hx2 : idxR rows 0 m o = idxR (rows.drop (i + 1)) ((i + 1 : Nat) : Int) m o := by
    rw [hx, idxR_step (i := i) (by simpa using ex13), if_neg (by simpa using h15r)]
    rfl
   exact ⟨i + 1, ⟨S, E.cut ⟨rfl, rfl, rfl, rfl, rfl, trivial⟩, ⟨by omega, hx2⟩⟩, by omega⟩
 ·have h9 := nm h9r
  refine wp_exit ?_
  refine hK2 _ _ ?_; clear hK2
  refine sr fun K hK => ?_
  refine rn 1 E S ?_; clear E S; intro a w E S
  apply hK; clear hK K
  refine rt hQ E S ?_
  have e : idxR rows 0 m o = -1 := by
   rw [hx, List.drop_of_length_le (by omega)]
   rfl
  show _ = _
  rw [e]
  rfl

/-! `incognito/sign.find` -/
theorem c_find (m o : Int) (w0 : World) (G : Heap) (hG : Sub G w0) :
  Calls Tryd.prog 59 #[.int .i64 m, .int .i64 o] w0 (Ret w0 G (fun v _ => v = .tuple #[.agg (rowCells (findS m o).1).toArray, .bool (findS m o).2])) := by
 refine enter Tryd.func59 rfl Tryd.ntmps59 rfl ?_
 intro Q hQ a E
 have S := St.start0 hG
 refine sr fun K hK => ?_
 refine o_bx1 E rfl S rfl rfl ?_; clear E S; intro B2 w a S E
 refine o_bx1 E rfl S rfl rfl ?_; clear E S; intro B3 w a S E
 refine o_allocZ E rfl S ?_; clear E S; intro B4 w a S E
 refine rn 1 E S ?_; clear E S; intro a w E S
 apply hK; clear hK K
 refine sr fun K hK => ?_
 refine o_build (cs := #[.int .i64 1, .int .i64 1, str [118], .int .i64 (-1), .bool false]) E rfl rfl (by kernel_rfl) ?_; clear E; intro a E
 refine o_build (cs := #[.int .i64 1, .int .i64 2, str [], .int .i64 2, .bool true]) E rfl rfl (by kernel_rfl) ?_; clear E; intro a E
 refine o_build (cs := #[.int .i64 2, .int .i64 1, str [118], .int .i64 (-1), .bool false]) E rfl rfl (by kernel_rfl) ?_; clear E; intro a E
 refine o_build (cs := #[.int .i64 2, .int .i64 2, str [], .int .i64 2, .bool true]) E rfl rfl (by kernel_rfl) ?_; clear E; intro a E
 refine o_build (cs := #[.int .i64 2, .int .i64 3, str [118, 118], .int .i64 6, .bool false]) E rfl rfl (by kernel_rfl) ?_; clear E; intro a E
 refine o_build (cs := #[.int .i64 3, .int .i64 4, str [118], .int .i64 (-1), .bool false]) E rfl rfl (by kernel_rfl) ?_; clear E; intro a E
 refine o_build (cs := #[.int .i64 3, .int .i64 5, str [118], .int .i64 (-1), .bool false]) E rfl rfl (by kernel_rfl) ?_; clear E; intro a E
 refine o_build (cs := #[.int .i64 3, .int .i64 6, str [118], .int .i64 6, .bool false]) E rfl rfl (by kernel_rfl) ?_; clear E; intro a E
 refine o_build (cs := #[.int .i64 4, .int .i64 7, str [102, 118], .int .i64 (-1), .bool false]) E rfl rfl (by kernel_rfl) ?_; clear E; intro a E
 refine o_build (cs := #[.int .i64 4, .int .i64 8, str [102], .int .i64 2, .bool true]) E rfl rfl (by kernel_rfl) ?_; clear E; intro a E
 refine o_build (cs := #[.int .i64 4, .int .i64 5, str [102], .int .i64 (-1), .bool false]) E rfl rfl (by kernel_rfl) ?_; clear E; intro a E
 refine o_build (cs := #[.int .i64 5, .int .i64 9, str [118], .int .i64 (-1), .bool false]) E rfl rfl (by kernel_rfl) ?_; clear E; intro a E
 refine o_build (cs := #[.int .i64 5, .int .i64 10, str [], .int .i64 2, .bool true]) E rfl rfl (by kernel_rfl) ?_; clear E; intro a E
 refine o_build (cs := #[.int .i64 6, .int .i64 9, str [118], .int .i64 (-1), .bool false]) E rfl rfl (by kernel_rfl) ?_; clear E; intro a E
 refine o_build (cs := #[.int .i64 6, .int .i64 10, str [], .int .i64 2, .bool true]) E rfl rfl (by kernel_rfl) ?_; clear E; intro a E
 refine o_build (cs := #[.int .i64 7, .int .i64 11, str [], .int .i64 6, .bool false]) E rfl rfl (by kernel_rfl) ?_; clear E; intro a E
 refine o_build (cs := #[.int .i64 7, .int .i64 12, str [], .int .i64 6, .bool false]) E rfl rfl (by kernel_rfl) ?_; clear E; intro a E
 refine o_build (cs := #[.int .i64 8, .int .i64 4, str [110], .int .i64 (-1), .bool false]) E rfl rfl (by kernel_rfl) ?_; clear E; intro a E
 refine o_build (cs := #[.int .i64 8, .int .i64 2, str [], .int .i64 5, .bool false]) E rfl rfl (by kernel_rfl) ?_; clear E; intro a E
 refine o_build (cs := #[.int .i64 9, .int .i64 1, str [111], .int .i64 (-1), .bool false]) E rfl rfl (by kernel_rfl) ?_; clear E; intro a E
 refine o_build (cs := #[.int .i64 9, .int .i64 2, str [], .int .i64 4, .bool true]) E rfl rfl (by kernel_rfl) ?_; clear E; intro a E
 refine o_build (cs := #[.int .i64 10, .int .i64 7, str [111, 118], .int .i64 (-1), .bool false]) E rfl rfl (by kernel_rfl) ?_; clear E; intro a E
 refine o_build (cs := #[.int .i64 10, .int .i64 5, str [111], .int .i64 (-1), .bool false]) E rfl rfl (by kernel_rfl) ?_; clear E; intro a E
 refine o_build (cs := #[.int .i64 10, .int .i64 13, str [111, 111], .int .i64 99, .bool false]) E rfl rfl (by kernel_rfl) ?_; clear E; intro a E
 refine o_buildSl (cs := #[.int .i64 1, .int .i64 1, str [118], .int .i64 (-1), .bool false, .int .i64 1, .int .i64 2, str [], .int .i64 2, .bool true, .int .i64 2, .int .i64 1, str [118], .int .i64 (-1), .bool false, .int .i64 2, .int .i64 2, str [], .int .i64 2, .bool true, .int .i64 2, .int .i64 3, str [118, 118], .int .i64 6, .bool false, .int .i64 3, .int .i64 4, str [118], .int .i64 (-1), .bool false, .int .i64 3, .int .i64 5, str [118], .int .i64 (-1), .bool false, .int .i64 3, .int .i64 6, str [118], .int .i64 6, .bool false, .int .i64 4, .int .i64 7, str [102, 118], .int .i64 (-1), .bool false, .int .i64 4, .int .i64 8, str [102], .int .i64 2, .bool true, .int .i64 4, .int .i64 5, str [102], .int .i64 (-1), .bool false, .int .i64 5, .int .i64 9, str [118], .int .i64 (-1), .bool false, .int .i64 5, .int .i64 10, str [], .int .i64 2, .bool true, .int .i64 6, .int .i64 9, str [118], .int .i64 (-1), .bool false, .int .i64 6, .int .i64 10, str [], .int .i64 2, .bool true, .int .i64 7, .int .i64 11, str [], .int .i64 6, .bool false, .int .i64 7, .int .i64 12, str [], .int .i64 6, .bool false, .int .i64 8, .int .i64 4, str [110], .int .i64 (-1), .bool false, .int .i64 8, .int .i64 2, str [], .int .i64 5, .bool false, .int .i64 9, .int .i64 1, str [111], .int .i64 (-1), .bool false, .int .i64 9, .int .i64 2, str [], .int .i64 4, .bool true, .int .i64 10, .int .i64 7, str [111, 118], .int .i64 (-1), .bool false, .int .i64 10, .int .i64 5, str [111], .int .i64 (-1), .bool false, .int .i64 10, .int .i64 13, str [111, 111], .int .i64 99, .bool false]) [(0, _), (1, _), (2, _), (3, _), (4, _), (5, _), (6, _), (7, _), (8, _), (9, _), (10, _), (11, _), (12, _), (13, _), (14, _), (15, _), (16, _), (17, _), (18, _), (19, _), (20, _), (21, _), (22, _), (23, _), (24, _), (25, _), (26, _), (27, _), (28, _), (29, _), (30, _), (31, _), (32, _), (33, _), (34, _), (35, _), (36, _), (37, _), (38, _), (39, _), (40, _), (41, _), (42, _), (43, _), (44, _), (45, _), (46, _), (47, _), (48, _), (49, _), (50, _), (51, _), (52, _), (53, _), (54, _), (55, _), (56, _), (57, _), (58, _), (59, _), (60, _), (61, _), (62, _), (63, _), (64, _), (65, _), (66, _), (67, _), (68, _), (69, _), (70, _), (71, _), (72, _), (73, _), (74, _), (75, _), (76, _), (77, _), (78, _), (79, _), (80, _), (81, _), (82, _), (83, _), (84, _), (85, _), (86, _), (87, _), (88, _), (89, _), (90, _), (91, _), (92, _), (93, _), (94, _), (95, _), (96, _), (97, _), (98, _), (99, _), (100, _), (101, _), (102, _), (103, _), (104, _), (105, _), (106, _), (107, _), (108, _), (109, _), (110, _), (111, _), (112, _), (113, _), (114, _), (115, _), (116, _), (117, _), (118, _), (119, _)] E rfl S rfl T.l125 (by kernel_rfl) ⟨rfl, rfl, rfl, rfl, rfl, rfl, rfl, rfl, rfl, rfl, rfl, rfl, rfl, rfl, rfl, rfl, rfl, rfl, rfl, rfl, rfl, rfl, rfl, rfl, rfl, rfl, rfl, rfl, rfl, rfl, rfl, rfl, rfl, rfl, rfl, rfl, rfl, rfl, rfl, rfl, rfl, rfl, rfl, rfl, rfl, rfl, rfl, rfl, rfl, rfl, rfl, rfl, rfl, rfl, rfl, rfl, rfl, rfl, rfl, rfl, rfl, rfl, rfl, rfl, rfl, rfl, rfl, rfl, rfl, rfl, rfl, rfl, rfl, rfl, rfl, rfl, rfl, rfl, rfl, rfl, rfl, rfl, rfl, rfl, rfl, rfl, rfl, rfl, rfl, rfl, rfl, rfl, rfl, rfl, rfl, rfl, rfl, rfl, rfl, rfl, rfl, rfl, rfl, rfl, rfl, rfl, rfl, rfl, rfl, rfl, rfl, rfl, rfl, rfl, rfl, rfl, rfl, rfl, rfl, rfl, trivial⟩ ?_; clear E S; intro B32 w a S E
 obtain ⟨G2, hle4, hC3, S'⟩ := S.stillHead (n := 120) rfl; clear S; have S := S'; clear S'
 have hW5 := Rd.ofCells (K := kRow) (xs := rowsT) hC3 ⟨rfl, rfl, rfl, rfl, rfl, rfl, rfl, rfl, rfl, rfl, rfl, rfl, rfl, rfl, rfl, rfl, rfl, rfl, rfl, rfl, rfl, rfl, rfl, rfl, rfl⟩
 refine rn 1 E S ?_; clear E S; intro a w E S
 apply hK; clear hK K
 refine sr fun K hK => ?_
 refine rn 1 E S ?_; clear E S; intro a w E S
 replace S := S.front (C := [(B3, Cells 3 [(0, .int .i64 o)])]) (.there .here)
 obtain ⟨G7, hle9, hC8, S'⟩ := S.stillHead (n := 1) rfl; clear S; have S := S'; clear S'
 replace hC3 := hC3.le hle9
 replace hW5 := hW5.le hle9
 replace S := S.front (C := [(B2, Cells 3 [(0, .int .i64 m)])]) (.there .here)
 obtain ⟨G10, hle12, hC11, S'⟩ := S.stillHead (n := 1) rfl; clear S; have S := S'; clear S'
 replace hC3 := hC3.le hle12
 replace hW5 := hW5.le hle12
 replace hC8 := hC8.le hle12
 skip
 refine rn 1 E S ?_; clear E S; intro a w E S
 refine o_callP E rfl S rfl rfl T.g68 (c_index rowsT _ _ m o _ _ _ _ S.sub hW5 hC11 hC8 (by decide)) ?_
 clear E S; rintro _ w a S rfl E
 refine rn 1 E S ?_; clear E S; intro a w E S
 apply hK; clear hK K
 refine wp_seq_k (fun K15 hK14 => ?_)
 refine sr fun K hK => ?_
 refine rn 2 E S ?_; clear E S; intro a w E S
 apply hK; clear hK K
 refine cond E rfl (fun h17r => ?_) (fun h17r => ?_)
 ·have h17 := nm h17r
  refine sr fun K hK => ?_
  refine o_build (cs := #[.int .i64 0, .int .i64 0, str [], .int .i64 0, .bool false]) E rfl rfl (by kernel_rfl) ?_; clear E; intro a E
  refine rn 2 E S ?_; clear E S; intro a w E S
  apply hK; clear hK K
  refine rt hQ E S ?_
  have e := find_no h17
  show _ = _
  rw [e]
  rfl
 ·have h17 := nm h17r
  refine wp_skip ?_
  refine hK14 _ _ ?_; clear hK14
  refine sr fun K hK => ?_
  refine rn 2 E S ?_; clear E S; intro a w E S
  have hrl : rowsT.length = 24 := rfl
  have hi19 : (idxR rowsT 0 m o).toNat < rowsT.length := by exact (find_yes (by assumption)).1
  obtain ⟨eb19, eo19, hA19, el19⟩ := Rd.at hW5 (List.getElem?_eq_getElem hi19); cases hA19
  obtain ⟨x19, ex19⟩ : ∃ x, rowsT[(idxR rowsT 0 m o).toNat] = x := ⟨_, rfl⟩; rw [ex19] at el19
  have el19 := kRow_open el19
  refine o_ixL E rfl rfl rfl T.l125 ⟨by omega, by omega⟩ ?_; clear E; intro a E
  refine o_ldIA E rfl S rfl el19 T.a117 ?_; clear E; intro a E
  refine rn 2 E S ?_; clear E S; intro a w E S
  apply hK; clear hK K
  refine rt hQ E S ?_
  have e := (find_yes h17).2 _ _ ex19
  show _ = _
  rw [e]
  rfl

/-! `incognito/sign.Takes` -/
theorem c_takes (d : Int) (x : Val) (w0 : World) (G : Heap) (hG : Sub G w0) (hg0 : CellsAt G 0 0 [.int .i64 3, .int .i64 1, str []]) (hg1 : CellsAt G 1 0 [.int .i64 3, .int .i64 0, str []]) (hv : x.Wf):
  Calls Tryd.prog 62 #[.int .i64 d, .agg #[.int .i64 x.k, .int .i64 x.n, str x.s]] w0 (Ret w0 G (fun v _ => v = .bool (takesB d x))) := by
 refine enter Tryd.func62 rfl Tryd.ntmps62 rfl ?_
 intro Q hQ a E
 have S := St.start0 hG
 refine sr fun K hK => ?_
 refine o_bx3 E rfl S rfl ?_; clear E S; intro B3 w a S E
 refine rn 1 E S ?_; clear E S; intro a w E S
 apply hK; clear hK K
 refine wp_seq_k (fun K3 hK2 => ?_)
 refine sr fun K hK => ?_
 refine rn 1 E S ?_; clear E S; intro a w E S
 refine o_callP E rfl S rfl rfl T.g63 (c_right7 x _ _ S.sub hg0 hg1 (by first | assumption | exact hv | (constructor <;> first | assumption | (simp only [I64]; omega) | (simp; omega)))) ?_
 clear E S; rintro _ w a S rfl E
 refine rn 1 E S ?_; clear E S; intro a w E S
 apply hK; clear hK K
 refine cond E rfl (fun h5r => ?_) (fun h5r => ?_)
 ·have h5 := nm h5r
  refine sr fun K hK => ?_
  refine rn 1 E S ?_; clear E S; intro a w E S
  apply hK; clear hK K
  refine rt hQ E S ?_
  have e : takesB d x = false := by
   unfold takesB
   first | (simp_all; done) | (simp_all; omega) | grind
  show _ = _
  rw [e]
  rfl
 ·have h5 := nm h5r
  refine wp_skip ?_
  refine hK2 _ _ ?_; clear hK2
  refine wp_seq_k (fun K8 hK7 => ?_)
  refine sr fun K hK => ?_
  refine rn 1 E S ?_; clear E S; intro a w E S
  apply hK; clear hK K
  refine wp_block ?_
  refine wp_seq_k (fun K11 hK10 => ?_)
  refine sr fun K hK => ?_
  refine rn 2 E S ?_; clear E S; intro a w E S
  apply hK; clear hK K
  refine cond E rfl (fun h13r => ?_) (fun h13r => ?_)
  ·have h13 := nm h13r
   refine wp_skip ?_
   refine hK10 _ _ ?_; clear hK10
   refine cond E rfl (fun h14r => ?_) (fun h14r => ?_)
   ·have h14 := nm h14r
    refine sr fun K hK => ?_
    refine rn 4 E S ?_; clear E S; intro a w E S
    refine cutG 4 22 (.bool ((decide (x.k = 1)) || (decide (x.k = 2)))) E S ?_ ?_
    ·refine bsp E (t := 18) rfl (fun hb15 => ?_) (fun hb15 => ?_)
     ·refine rn 4 E S ?_; clear E S; intro a w E S
      exact ⟨S, E.cutT (by rw [hb15] <;> rfl)⟩
     ·have hk16 := nm hb15
      refine rn 4 E S ?_; clear E S; intro a w E S
      exact ⟨S, E.cutT (by rw [hb15] <;> rfl)⟩
    clear E S; intro a w E S
    refine rn 1 E S ?_; clear E S; intro a w E S
    apply hK; clear hK K
    refine rt hQ E S ?_
    have e : takesB d x = ((decide (x.k = 1)) || (decide (x.k = 2))) := by
     unfold takesB
     first | (simp_all; done) | (simp_all; omega) | grind
    show _ = _
    rw [e]
    rfl
   ·exact absurd (h13r.symm.trans h14r) (by decide)
  ·have h13 := nm h13r
   refine sr fun K hK => ?_
   refine rn 2 E S ?_; clear E S; intro a w E S
   apply hK; clear hK K
   refine cond E rfl (fun h19r => ?_) (fun h19r => ?_)
   ·have h19 := nm h19r
    refine wp_skip ?_
    refine hK10 _ _ ?_; clear hK10
    refine cond E rfl (fun h20r => ?_) (fun h20r => ?_)
    ·have h20 := nm h20r
     refine sr fun K hK => ?_
     refine rn 4 E S ?_; clear E S; intro a w E S
     refine cutG 4 22 (.bool ((decide (x.k = 1)) || (decide (x.k = 2)))) E S ?_ ?_
     ·refine bsp E (t := 18) rfl (fun hb21 => ?_) (fun hb21 => ?_)
      ·refine rn 4 E S ?_; clear E S; intro a w E S
       exact ⟨S, E.cutT (by rw [hb21] <;> rfl)⟩
      ·have hk22 := nm hb21
       refine rn 4 E S ?_; clear E S; intro a w E S
       exact ⟨S, E.cutT (by rw [hb21] <;> rfl)⟩
     clear E S; intro a w E S
     refine rn 1 E S ?_; clear E S; intro a w E S
     apply hK; clear hK K
     refine rt hQ E S ?_
     have e : takesB d x = ((decide (x.k = 1)) || (decide (x.k = 2))) := by
      unfold takesB
      first | (simp_all; done) | (simp_all; omega) | grind
     show _ = _
     rw [e]
     rfl
    ·exact absurd (h19r.symm.trans h20r) (by decide)
   ·have h19 := nm h19r
    refine sr fun K hK => ?_
    refine rn 2 E S ?_; clear E S; intro a w E S
    apply hK; clear hK K
    refine cond E rfl (fun h25r => ?_) (fun h25r => ?_)
    ·have h25 := nm h25r
     refine wp_skip ?_
     refine hK10 _ _ ?_; clear hK10
     refine cond E rfl (fun h26r => ?_) (fun h26r => ?_)
     ·have h26 := nm h26r
      refine sr fun K hK => ?_
      refine rn 4 E S ?_; clear E S; intro a w E S
      refine cutG 4 22 (.bool ((decide (x.k = 1)) || (decide (x.k = 2)))) E S ?_ ?_
      ·refine bsp E (t := 18) rfl (fun hb27 => ?_) (fun hb27 => ?_)
       ·refine rn 4 E S ?_; clear E S; intro a w E S
        exact ⟨S, E.cutT (by rw [hb27] <;> rfl)⟩
       ·have hk28 := nm hb27
        refine rn 4 E S ?_; clear E S; intro a w E S
        exact ⟨S, E.cutT (by rw [hb27] <;> rfl)⟩
      clear E S; intro a w E S
      refine rn 1 E S ?_; clear E S; intro a w E S
      apply hK; clear hK K
      refine rt hQ E S ?_
      have e : takesB d x = ((decide (x.k = 1)) || (decide (x.k = 2))) := by
       unfold takesB
       first | (simp_all; done) | (simp_all; omega) | grind
      show _ = _
      rw [e]
      rfl
     ·exact absurd (h25r.symm.trans h26r) (by decide)
    ·have h25 := nm h25r
     refine sr fun K hK => ?_
     refine rn 2 E S ?_; clear E S; intro a w E S
     apply hK; clear hK K
     refine cond E rfl (fun h31r => ?_) (fun h31r => ?_)
     ·have h31 := nm h31r
      refine wp_skip ?_
      refine hK10 _ _ ?_; clear hK10
      refine cond E rfl (fun h32r => ?_) (fun h32r => ?_)
      ·have h32 := nm h32r
       refine sr fun K hK => ?_
       refine rn 4 E S ?_; clear E S; intro a w E S
       refine cutG 4 22 (.bool ((decide (x.k = 1)) || (decide (x.k = 2)))) E S ?_ ?_
       ·refine bsp E (t := 18) rfl (fun hb33 => ?_) (fun hb33 => ?_)
        ·refine rn 4 E S ?_; clear E S; intro a w E S
         exact ⟨S, E.cutT (by rw [hb33] <;> rfl)⟩
        ·have hk34 := nm hb33
         refine rn 4 E S ?_; clear E S; intro a w E S
         exact ⟨S, E.cutT (by rw [hb33] <;> rfl)⟩
       clear E S; intro a w E S
       refine rn 1 E S ?_; clear E S; intro a w E S
       apply hK; clear hK K
       refine rt hQ E S ?_
       have e : takesB d x = ((decide (x.k = 1)) || (decide (x.k = 2))) := by
        unfold takesB
        first | (simp_all; done) | (simp_all; omega) | grind
       show _ = _
       rw [e]
       rfl
      ·exact absurd (h31r.symm.trans h32r) (by decide)
     ·have h31 := nm h31r
      refine wp_region_lit ?_
      refine rn 2 E S ?_; clear E S; intro a w E S
      refine hK10 _ _ ?_; clear hK10
      refine cond E rfl (fun h36r => ?_) (fun h36r => ?_)
      ·have h36 := nm h36r
       refine sr fun K hK => ?_
       refine rn 4 E S ?_; clear E S; intro a w E S
       refine cutG 4 22 (.bool ((decide (x.k = 1)) || (decide (x.k = 2)))) E S ?_ ?_
       ·refine bsp E (t := 18) rfl (fun hb37 => ?_) (fun hb37 => ?_)
        ·refine rn 4 E S ?_; clear E S; intro a w E S
         exact ⟨S, E.cutT (by rw [hb37] <;> rfl)⟩
        ·have hk38 := nm hb37
         refine rn 4 E S ?_; clear E S; intro a w E S
         exact ⟨S, E.cutT (by rw [hb37] <;> rfl)⟩
       clear E S; intro a w E S
       refine rn 1 E S ?_; clear E S; intro a w E S
       apply hK; clear hK K
       refine rt hQ E S ?_
       have e : takesB d x = ((decide (x.k = 1)) || (decide (x.k = 2))) := by
        unfold takesB
        first | (simp_all; done) | (simp_all; omega) | grind
       show _ = _
       rw [e]
       rfl
      ·have h36 := nm h36r
       refine sr fun K hK => ?_
       refine rn 2 E S ?_; clear E S; intro a w E S
       apply hK; clear hK K
       refine cond E rfl (fun h41r => ?_) (fun h41r => ?_)
       ·have h41 := nm h41r
        refine sr fun K hK => ?_
        refine rn 4 E S ?_; clear E S; intro a w E S
        apply hK; clear hK K
        refine rt hQ E S ?_
        have e : takesB d x = (decide (x.k = 1)) := by
         unfold takesB
         first | (simp_all; done) | (simp_all; omega) | grind
        show _ = _
        rw [e]
        rfl
       ·have h41 := nm h41r
        refine wp_skip ?_
        refine hK7 _ _ ?_; clear hK7
        refine sr fun K hK => ?_
        refine rn 3 E S ?_; clear E S; intro a w E S
        refine cutG 4 34 (.bool ((decide (d = 6)) && (decide (x.k = 3)))) E S ?_ ?_
        ·refine bsp E (t := 30) rfl (fun hb43 => ?_) (fun hb43 => ?_)
         ·have hk44 := nm hb43
          refine rn 4 E S ?_; clear E S; intro a w E S
          exact ⟨S, E.cutT (by rw [hb43] <;> rfl)⟩
         ·refine rn 4 E S ?_; clear E S; intro a w E S
          exact ⟨S, E.cutT (by rw [hb43] <;> rfl)⟩
        clear E S; intro a w E S
        refine rn 1 E S ?_; clear E S; intro a w E S
        apply hK; clear hK K
        refine rt hQ E S ?_
        have e : takesB d x = ((decide (d = 6)) && (decide (x.k = 3))) := by
         unfold takesB
         first | (simp_all; done) | (simp_all; omega) | grind
        show _ = _
        rw [e]
        rfl

/-! `incognito/sign.Args` -/
theorem c_args (m o : Int) (w0 : World) (G : Heap) (hG : Sub G w0) :
  Calls Tryd.prog 48 #[.int .i64 m, .int .i64 o] w0 (Ret w0 G (fun v G' => ∃ A c, v = .tuple #[.slice A (argsD m o).1.length c, .bool (argsD m o).2] ∧ (argsD m o).1.length ≤ c ∧ Rd (Knd.int .i64) G' A (argsD m o).1)) := by
 refine enter Tryd.func48 rfl Tryd.ntmps48 rfl ?_
 intro Q hQ a E
 have S := St.start0 hG
 refine sr fun K hK => ?_
 refine rn 2 E S ?_; clear E S; intro a w E S
 apply hK; clear hK K
 refine sr fun K hK => ?_
 refine rn 2 E S ?_; clear E S; intro a w E S
 refine o_callP E rfl S rfl rfl T.g59 (c_find m o _ _ S.sub) ?_
 clear E S; rintro _ w a S rfl E
 refine rn 3 E S ?_; clear E S; intro a w E S
 refine o_allocZ E rfl S ?_; clear E S; intro B6 w a S E
 refine rn 2 E S ?_; clear E S; intro a w E S
 apply hK; clear hK K
 refine wp_seq_k (fun K4 hK3 => ?_)
 refine sr fun K hK => ?_
 refine rn 2 E S ?_; clear E S; intro a w E S
 apply hK; clear hK K
 refine cond E rfl (fun h6r => ?_) (fun h6r => ?_)
 ·have h6 := nm h6r
  refine sr fun K hK => ?_
  refine rn 2 E S ?_; clear E S; intro a w E S
  apply hK; clear hK K
  refine rt hQ E S ?_
  have e : argsD m o = ([], false) := by
   unfold argsD
   rw [if_neg (by simpa using h6r)]
  rw [e]
  exact ⟨_, _, rfl, Nat.le_refl _, .nil⟩
 ·have h6 := nm h6r
  refine wp_skip ?_
  refine hK3 _ _ ?_; clear hK3
  refine sr fun K hK => ?_
  refine rn 1 E S ?_; clear E S; intro a w E S
  apply hK; clear hK K
  refine wp_seq_k (fun K10 hK9 => ?_)
  refine sr fun K hK => ?_
  refine rn 4 E S ?_; clear E S; intro a w E S
  apply hK; clear hK K
  refine wp_block ?_
  replace S := S.nilChunk
  have oH13 : X.Own (Knd.int .i64) 3 G none 0 ([] : List Int) [] := X.Own.nil
  refine loop (fun (i : Nat) a' w' => ∃ (oA8_1 : Option Addr) (oc8_1 : Nat) (oC8_1 : Chunk), St w0 G [] G w' [oC8_1, [(B6, Cells 117 [(0, .int .i64 ((findS m o).1.model)), (1, .int .i64 ((findS m o).1.op)), (2, str ((findS m o).1.ins)), (3, .int .i64 ((findS m o).1.out)), (4, .bool ((findS m o).1.may))])]] ∧ Env a' 34 [] [(0, .int .i64 m), (1, .int .i64 o), (6, .pointer (some ⟨B6, 0, none⟩)), (8, .slice oA8_1 ((doms ((findS m o).1.ins.take i)).length) oc8_1), (20, .int .i64 (((findS m o).1.ins).length : Int)), (21, .int .i64 (i : Int))] ∧ X.Own (Knd.int .i64) 3 G oA8_1 oc8_1 (doms ((findS m o).1.ins.take i)) oC8_1 ∧ (i ≤ (findS m o).1.ins.length)) (fun (i : Nat) => (findS m o).1.ins.length - i) 0 ⟨_, _, _, S, E.cut ⟨rfl, rfl, rfl, rfl, rfl, rfl, trivial⟩, X.Own.nil (K := Knd.int .i64), Nat.zero_le _⟩ ?_
  clear E S; intro i a w ⟨oA8_1, oc8_1, oC8_1, S, E, oH8_1, hi⟩
  refine sr fun K hK => ?_
  refine rn 1 E S ?_; clear E S; intro a w E S
  apply hK; clear hK K
  refine wp_seq_k (fun K17 hK16 => ?_)
  refine cond E rfl (fun h18r => ?_) (fun h18r => ?_)
  ·have h18 := nm h18r
   refine wp_skip ?_
   refine hK16 _ _ ?_; clear hK16
   refine wp_seq_k (fun K20 hK19 => ?_)
   refine wp_block ?_
   refine sr fun K hK => ?_
   refine rn 2 E S ?_; clear E S; intro a w E S
   apply hK; clear hK K
   refine wp_region_lit ?_
   refine rn 4 E S ?_; clear E S; intro a w E S
   have hfl := find_len m o
   refine o_index E rfl rfl rfl Tryd.underlying9 (by omega) ?_; clear E; intro a E
   refine o_callP E rfl S rfl rfl T.g60 (c_domain (bt ((findS m o).1.ins) (i : Int)) _ _ S.sub) ?_
   clear E S; rintro _ w a S rfl E
   refine o_buildSl (cs := #[.int .i64 (domS (bt ((findS m o).1.ins) (i : Int)))]) [(0, _)] E rfl S rfl T.l59 (by kernel_rfl) ⟨rfl, trivial⟩ ?_; clear E S; intro B30 w a S E
   refine o_appendL (K := (Knd.int .i64)) (ys := [domS (bt ((findS m o).1.ins) (i : Int))]) (n := 1) E rfl S (.there .here) oH8_1 rfl rfl T.p59 (.here .here) rfl ⟨rfl, rfl⟩ rfl rfl (by (have := find_len m o; simp [doms]; omega)) (by (have := find_len m o; simp [doms]; omega)) ?_
   clear E S; intro oA22 oc22 oC22 w a S oH22 E
   refine rn 1 E S ?_; clear E S; intro a w E S
   refine hK19 _ _ ?_; clear hK19
   refine wp_region_lit ?_
   refine rn 2 E S ?_; clear E S; intro a w E S
   replace S := S.drop (M' := [_, _]) (sub_keep (sub_drop (sub_keep sub_nil)))
   have hxs : ((doms ((findS m o).1.ins.take i)) ++ [domS (bt ((findS m o).1.ins) (i : Int))]) = doms ((findS m o).1.ins.take (i + 1)) := doms_snoc (by omega)
   rw [hxs] at E oH22; clear hxs
   exact ⟨i + 1, ⟨_, _, _, S, E.cut ⟨rfl, rfl, rfl, rfl, rfl, rfl, trivial⟩, oH22, by omega⟩, by omega⟩
  ·have h18 := nm h18r
   refine wp_exit ?_
   refine hK9 _ _ ?_; clear hK9
   refine sr fun K hK => ?_
   refine rn 3 E S ?_; clear E S; intro a w E S
   apply hK; clear hK K
   have hcphR25 := oH8_1.cap
   obtain ⟨G24, hle26, S', hR25⟩ := X.Own.still S .here oH8_1; clear S; have S := S'; clear S'
   refine rt hQ E S ?_
   have hi9 : i = (findS m o).1.ins.length := by omega
   have e : argsD m o = (doms ((findS m o).1.ins.take i), true) := by
    unfold argsD
    rw [if_pos (by simpa using h6r), hi9, List.take_length]
   rw [e]
   exact ⟨_, _, rfl, hcphR25, hR25⟩

/-! `incognito/incognitoref07.Name` -/
theorem c_Name7 (v : Val) (w0 : World) (G : Heap) (hG : Sub G w0) (hv : v.Wf):
  Calls Tryd.prog 24 #[.agg #[.int .i64 v.k, .int .i64 v.n, str v.s]] w0 (Ret w0 G (fun z _ => z = .bool (nameB v))) := by
 refine enter Tryd.func24 rfl Tryd.ntmps24 rfl ?_
 intro Q hQ a E
 have S := St.start0 hG
 refine sr fun K hK => ?_
 refine o_bx3 E rfl S rfl ?_; clear E S; intro B1 w a S E
 refine rn 1 E S ?_; clear E S; intro a w E S
 apply hK; clear hK K
 refine sr fun K hK => ?_
 refine rn 1 E S ?_; clear E S; intro a w E S
 refine o_callP E rfl S rfl rfl T.g44 (c_Right7 v _ _ S.sub (by first | assumption | exact hv | (constructor <;> first | assumption | (simp only [I64]; omega) | (simp; omega)))) ?_
 clear E S; rintro _ w a S rfl E
 refine rn 1 E S ?_; clear E S; intro a w E S
 refine cutG 9 14 (.bool ((rightV v) && ((decide (v.k = 1)) || (decide (v.k = 2))))) E S ?_ ?_
 ·refine bsp E (t := 5) rfl (fun hb2 => ?_) (fun hb2 => ?_)
  ·have hk3 := nm hb2
   refine rn 4 E S ?_; clear E S; intro a w E S
   refine cutG 4 13 (.bool ((decide (v.k = 1)) || (decide (v.k = 2)))) E S ?_ ?_
   ·refine bsp E (t := 9) rfl (fun hb4 => ?_) (fun hb4 => ?_)
    ·refine rn 4 E S ?_; clear E S; intro a w E S
     exact ⟨S, E.cutT (by rw [hb4] <;> rfl)⟩
    ·have hk5 := nm hb4
     refine rn 4 E S ?_; clear E S; intro a w E S
     exact ⟨S, E.cutT (by rw [hb4] <;> rfl)⟩
   clear E S; intro a w E S
   refine rn 1 E S ?_; clear E S; intro a w E S
   exact ⟨S, E.cutT (by rw [hb2] <;> rfl)⟩
  ·refine rn 9 E S ?_; clear E S; intro a w E S
   exact ⟨S, E.cutT (by rw [hb2] <;> rfl)⟩
 clear E S; intro a w E S
 refine rn 1 E S ?_; clear E S; intro a w E S
 apply hK; clear hK K
 refine rt hQ E S ?_
 show _ = _
 simp only [packed, Value.bool.injEq]
 unfold nameB
 first | rfl | (cases rightV v <;> simp)

/-! `incognito/incognitoref09.ModelName` -/
theorem c_mname (m : Int) (w0 : World) (G : Heap) (hG : Sub G w0) :
  Calls Tryd.prog 56 #[.int .i64 m] w0 (Ret w0 G (fun v _ => v = str (mnameS m))) := by
 refine enter Tryd.func56 rfl Tryd.ntmps56 rfl ?_
 intro Q hQ a E
 have S := St.start0 hG
 refine sr fun K hK => ?_
 refine rn 1 E S ?_; clear E S; intro a w E S
 apply hK; clear hK K
 refine wp_seq_k (fun K3 hK2 => ?_)
 refine sr fun K hK => ?_
 refine rn 1 E S ?_; clear E S; intro a w E S
 apply hK; clear hK K
 refine wp_block ?_
 refine sr fun K hK => ?_
 refine rn 2 E S ?_; clear E S; intro a w E S
 apply hK; clear hK K
 refine cond E rfl (fun h6r => ?_) (fun h6r => ?_)
 ·have h6 := nm h6r
  refine sr fun K hK => ?_
  refine rn 1 E S ?_; clear E S; intro a w E S
  apply hK; clear hK K
  refine rt hQ E S ?_
  have e : mnameS m = [114, 101, 103] := by
   unfold mnameS
   rw [if_pos h6]
  show _ = _
  rw [e]
  rfl
 ·have h6 := nm h6r
  refine sr fun K hK => ?_
  refine rn 2 E S ?_; clear E S; intro a w E S
  apply hK; clear hK K
  refine cond E rfl (fun h9r => ?_) (fun h9r => ?_)
  ·have h9 := nm h9r
   refine sr fun K hK => ?_
   refine rn 1 E S ?_; clear E S; intro a w E S
   apply hK; clear hK K
   refine rt hQ E S ?_
   have e : mnameS m = [99, 97, 115] := by
    unfold mnameS
    rw [if_neg h6]
    rw [if_pos h9]
   show _ = _
   rw [e]
   rfl
  ·have h9 := nm h9r
   refine sr fun K hK => ?_
   refine rn 2 E S ?_; clear E S; intro a w E S
   apply hK; clear hK K
   refine cond E rfl (fun h12r => ?_) (fun h12r => ?_)
   ·have h12 := nm h12r
    refine sr fun K hK => ?_
    refine rn 1 E S ?_; clear E S; intro a w E S
    apply hK; clear hK K
    refine rt hQ E S ?_
    have e : mnameS m = [115, 101, 116] := by
     unfold mnameS
     rw [if_neg h6]
     rw [if_neg h9]
     rw [if_pos h12]
    show _ = _
    rw [e]
    rfl
   ·have h12 := nm h12r
    refine sr fun K hK => ?_
    refine rn 2 E S ?_; clear E S; intro a w E S
    apply hK; clear hK K
    refine cond E rfl (fun h15r => ?_) (fun h15r => ?_)
    ·have h15 := nm h15r
     refine sr fun K hK => ?_
     refine rn 1 E S ?_; clear E S; intro a w E S
     apply hK; clear hK K
     refine rt hQ E S ?_
     have e : mnameS m = [109, 97, 112] := by
      unfold mnameS
      rw [if_neg h6]
      rw [if_neg h9]
      rw [if_neg h12]
      rw [if_pos h15]
     show _ = _
     rw [e]
     rfl
    ·have h15 := nm h15r
     refine sr fun K hK => ?_
     refine rn 2 E S ?_; clear E S; intro a w E S
     apply hK; clear hK K
     refine cond E rfl (fun h18r => ?_) (fun h18r => ?_)
     ·have h18 := nm h18r
      refine sr fun K hK => ?_
      refine rn 1 E S ?_; clear E S; intro a w E S
      apply hK; clear hK K
      refine rt hQ E S ?_
      have e : mnameS m = [102, 105, 102, 111] := by
       unfold mnameS
       rw [if_neg h6]
       rw [if_neg h9]
       rw [if_neg h12]
       rw [if_neg h15]
       rw [if_pos h18]
      show _ = _
      rw [e]
      rfl
     ·have h18 := nm h18r
      refine sr fun K hK => ?_
      refine rn 2 E S ?_; clear E S; intro a w E S
      apply hK; clear hK K
      refine cond E rfl (fun h21r => ?_) (fun h21r => ?_)
      ·have h21 := nm h21r
       refine sr fun K hK => ?_
       refine rn 1 E S ?_; clear E S; intro a w E S
       apply hK; clear hK K
       refine rt hQ E S ?_
       have e : mnameS m = [115, 116, 97, 99, 107] := by
        unfold mnameS
        rw [if_neg h6]
        rw [if_neg h9]
        rw [if_neg h12]
        rw [if_neg h15]
        rw [if_neg h18]
        rw [if_pos h21]
       show _ = _
       rw [e]
       rfl
      ·have h21 := nm h21r
       refine sr fun K hK => ?_
       refine rn 2 E S ?_; clear E S; intro a w E S
       apply hK; clear hK K
       refine cond E rfl (fun h24r => ?_) (fun h24r => ?_)
       ·have h24 := nm h24r
        refine sr fun K hK => ?_
        refine rn 1 E S ?_; clear E S; intro a w E S
        apply hK; clear hK K
        refine rt hQ E S ?_
        have e : mnameS m = [108, 111, 99, 107] := by
         unfold mnameS
         rw [if_neg h6]
         rw [if_neg h9]
         rw [if_neg h12]
         rw [if_neg h15]
         rw [if_neg h18]
         rw [if_neg h21]
         rw [if_pos h24]
        show _ = _
        rw [e]
        rfl
       ·have h24 := nm h24r
        refine sr fun K hK => ?_
        refine rn 2 E S ?_; clear E S; intro a w E S
        apply hK; clear hK K
        refine cond E rfl (fun h27r => ?_) (fun h27r => ?_)
        ·have h27 := nm h27r
         refine sr fun K hK => ?_
         refine rn 1 E S ?_; clear E S; intro a w E S
         apply hK; clear hK K
         refine rt hQ E S ?_
         have e : mnameS m = [99, 111, 117, 110, 116] := by
          unfold mnameS
          rw [if_neg h6]
          rw [if_neg h9]
          rw [if_neg h12]
          rw [if_neg h15]
          rw [if_neg h18]
          rw [if_neg h21]
          rw [if_neg h24]
          rw [if_pos h27]
         show _ = _
         rw [e]
         rfl
        ·have h27 := nm h27r
         refine sr fun K hK => ?_
         refine rn 2 E S ?_; clear E S; intro a w E S
         apply hK; clear hK K
         refine cond E rfl (fun h30r => ?_) (fun h30r => ?_)
         ·have h30 := nm h30r
          refine sr fun K hK => ?_
          refine rn 1 E S ?_; clear E S; intro a w E S
          apply hK; clear hK K
          refine rt hQ E S ?_
          have e : mnameS m = [109, 97, 120] := by
           unfold mnameS
           rw [if_neg h6]
           rw [if_neg h9]
           rw [if_neg h12]
           rw [if_neg h15]
           rw [if_neg h18]
           rw [if_neg h21]
           rw [if_neg h24]
           rw [if_neg h27]
           rw [if_pos h30]
          show _ = _
          rw [e]
          rfl
         ·have h30 := nm h30r
          refine sr fun K hK => ?_
          refine rn 2 E S ?_; clear E S; intro a w E S
          apply hK; clear hK K
          refine cond E rfl (fun h33r => ?_) (fun h33r => ?_)
          ·have h33 := nm h33r
           refine sr fun K hK => ?_
           refine rn 1 E S ?_; clear E S; intro a w E S
           apply hK; clear hK K
           refine rt hQ E S ?_
           have e : mnameS m = [111, 109, 97, 112] := by
            unfold mnameS
            rw [if_neg h6]
            rw [if_neg h9]
            rw [if_neg h12]
            rw [if_neg h15]
            rw [if_neg h18]
            rw [if_neg h21]
            rw [if_neg h24]
            rw [if_neg h27]
            rw [if_neg h30]
            rw [if_pos h33]
           show _ = _
           rw [e]
           rfl
          ·have h33 := nm h33r
           refine wp_skip ?_
           refine hK2 _ _ ?_; clear hK2
           refine sr fun K hK => ?_
           refine rn 1 E S ?_; clear E S; intro a w E S
           apply hK; clear hK K
           refine rt hQ E S ?_
           have e : mnameS m = [] := by
            unfold mnameS
            rw [if_neg h6]
            rw [if_neg h9]
            rw [if_neg h12]
            rw [if_neg h15]
            rw [if_neg h18]
            rw [if_neg h21]
            rw [if_neg h24]
            rw [if_neg h27]
            rw [if_neg h30]
            rw [if_neg h33]
           show _ = _
           rw [e]
           rfl

/-! `incognito/incognitoref09.OpName` -/
theorem c_oname (o : Int) (w0 : World) (G : Heap) (hG : Sub G w0) :
  Calls Tryd.prog 57 #[.int .i64 o] w0 (Ret w0 G (fun v _ => v = str (onameS o))) := by
 refine enter Tryd.func57 rfl Tryd.ntmps57 rfl ?_
 intro Q hQ a E
 have S := St.start0 hG
 refine sr fun K hK => ?_
 refine rn 1 E S ?_; clear E S; intro a w E S
 apply hK; clear hK K
 refine wp_seq_k (fun K3 hK2 => ?_)
 refine sr fun K hK => ?_
 refine rn 1 E S ?_; clear E S; intro a w E S
 apply hK; clear hK K
 refine wp_block ?_
 refine sr fun K hK => ?_
 refine rn 2 E S ?_; clear E S; intro a w E S
 apply hK; clear hK K
 refine cond E rfl (fun h6r => ?_) (fun h6r => ?_)
 ·have h6 := nm h6r
  refine sr fun K hK => ?_
  refine rn 1 E S ?_; clear E S; intro a w E S
  apply hK; clear hK K
  refine rt hQ E S ?_
  have e : onameS o = [119, 114, 105, 116, 101] := by
   unfold onameS
   rw [if_pos h6]
  show _ = _
  rw [e]
  rfl
 ·have h6 := nm h6r
  refine sr fun K hK => ?_
  refine rn 2 E S ?_; clear E S; intro a w E S
  apply hK; clear hK K
  refine cond E rfl (fun h9r => ?_) (fun h9r => ?_)
  ·have h9 := nm h9r
   refine sr fun K hK => ?_
   refine rn 1 E S ?_; clear E S; intro a w E S
   apply hK; clear hK K
   refine rt hQ E S ?_
   have e : onameS o = [114, 101, 97, 100] := by
    unfold onameS
    rw [if_neg h6]
    rw [if_pos h9]
   show _ = _
   rw [e]
   rfl
  ·have h9 := nm h9r
   refine sr fun K hK => ?_
   refine rn 2 E S ?_; clear E S; intro a w E S
   apply hK; clear hK K
   refine cond E rfl (fun h12r => ?_) (fun h12r => ?_)
   ·have h12 := nm h12r
    refine sr fun K hK => ?_
    refine rn 1 E S ?_; clear E S; intro a w E S
    apply hK; clear hK K
    refine rt hQ E S ?_
    have e : onameS o = [115, 119, 97, 112] := by
     unfold onameS
     rw [if_neg h6]
     rw [if_neg h9]
     rw [if_pos h12]
    show _ = _
    rw [e]
    rfl
   ·have h12 := nm h12r
    refine sr fun K hK => ?_
    refine rn 2 E S ?_; clear E S; intro a w E S
    apply hK; clear hK K
    refine cond E rfl (fun h15r => ?_) (fun h15r => ?_)
    ·have h15 := nm h15r
     refine sr fun K hK => ?_
     refine rn 1 E S ?_; clear E S; intro a w E S
     apply hK; clear hK K
     refine rt hQ E S ?_
     have e : onameS o = [97, 100, 100] := by
      unfold onameS
      rw [if_neg h6]
      rw [if_neg h9]
      rw [if_neg h12]
      rw [if_pos h15]
     show _ = _
     rw [e]
     rfl
    ·have h15 := nm h15r
     refine sr fun K hK => ?_
     refine rn 2 E S ?_; clear E S; intro a w E S
     apply hK; clear hK K
     refine cond E rfl (fun h18r => ?_) (fun h18r => ?_)
     ·have h18 := nm h18r
      refine sr fun K hK => ?_
      refine rn 1 E S ?_; clear E S; intro a w E S
      apply hK; clear hK K
      refine rt hQ E S ?_
      have e : onameS o = [100, 101, 108] := by
       unfold onameS
       rw [if_neg h6]
       rw [if_neg h9]
       rw [if_neg h12]
       rw [if_neg h15]
       rw [if_pos h18]
      show _ = _
      rw [e]
      rfl
     ·have h18 := nm h18r
      refine sr fun K hK => ?_
      refine rn 2 E S ?_; clear E S; intro a w E S
      apply hK; clear hK K
      refine cond E rfl (fun h21r => ?_) (fun h21r => ?_)
      ·have h21 := nm h21r
       refine sr fun K hK => ?_
       refine rn 1 E S ?_; clear E S; intro a w E S
       apply hK; clear hK K
       refine rt hQ E S ?_
       have e : onameS o = [104, 97, 115] := by
        unfold onameS
        rw [if_neg h6]
        rw [if_neg h9]
        rw [if_neg h12]
        rw [if_neg h15]
        rw [if_neg h18]
        rw [if_pos h21]
       show _ = _
       rw [e]
       rfl
      ·have h21 := nm h21r
       refine sr fun K hK => ?_
       refine rn 2 E S ?_; clear E S; intro a w E S
       apply hK; clear hK K
       refine cond E rfl (fun h24r => ?_) (fun h24r => ?_)
       ·have h24 := nm h24r
        refine sr fun K hK => ?_
        refine rn 1 E S ?_; clear E S; intro a w E S
        apply hK; clear hK K
        refine rt hQ E S ?_
        have e : onameS o = [112, 117, 116] := by
         unfold onameS
         rw [if_neg h6]
         rw [if_neg h9]
         rw [if_neg h12]
         rw [if_neg h15]
         rw [if_neg h18]
         rw [if_neg h21]
         rw [if_pos h24]
        show _ = _
        rw [e]
        rfl
       ·have h24 := nm h24r
        refine sr fun K hK => ?_
        refine rn 2 E S ?_; clear E S; intro a w E S
        apply hK; clear hK K
        refine cond E rfl (fun h27r => ?_) (fun h27r => ?_)
        ·have h27 := nm h27r
         refine sr fun K hK => ?_
         refine rn 1 E S ?_; clear E S; intro a w E S
         apply hK; clear hK K
         refine rt hQ E S ?_
         have e : onameS o = [103, 101, 116] := by
          unfold onameS
          rw [if_neg h6]
          rw [if_neg h9]
          rw [if_neg h12]
          rw [if_neg h15]
          rw [if_neg h18]
          rw [if_neg h21]
          rw [if_neg h24]
          rw [if_pos h27]
         show _ = _
         rw [e]
         rfl
        ·have h27 := nm h27r
         refine sr fun K hK => ?_
         refine rn 2 E S ?_; clear E S; intro a w E S
         apply hK; clear hK K
         refine cond E rfl (fun h30r => ?_) (fun h30r => ?_)
         ·have h30 := nm h30r
          refine sr fun K hK => ?_
          refine rn 1 E S ?_; clear E S; intro a w E S
          apply hK; clear hK K
          refine rt hQ E S ?_
          have e : onameS o = [112, 117, 115, 104] := by
           unfold onameS
           rw [if_neg h6]
           rw [if_neg h9]
           rw [if_neg h12]
           rw [if_neg h15]
           rw [if_neg h18]
           rw [if_neg h21]
           rw [if_neg h24]
           rw [if_neg h27]
           rw [if_pos h30]
          show _ = _
          rw [e]
          rfl
         ·have h30 := nm h30r
          refine sr fun K hK => ?_
          refine rn 2 E S ?_; clear E S; intro a w E S
          apply hK; clear hK K
          refine cond E rfl (fun h33r => ?_) (fun h33r => ?_)
          ·have h33 := nm h33r
           refine sr fun K hK => ?_
           refine rn 1 E S ?_; clear E S; intro a w E S
           apply hK; clear hK K
           refine rt hQ E S ?_
           have e : onameS o = [112, 111, 112] := by
            unfold onameS
            rw [if_neg h6]
            rw [if_neg h9]
            rw [if_neg h12]
            rw [if_neg h15]
            rw [if_neg h18]
            rw [if_neg h21]
            rw [if_neg h24]
            rw [if_neg h27]
            rw [if_neg h30]
            rw [if_pos h33]
           show _ = _
           rw [e]
           rfl
          ·have h33 := nm h33r
           refine sr fun K hK => ?_
           refine rn 2 E S ?_; clear E S; intro a w E S
           apply hK; clear hK K
           refine cond E rfl (fun h36r => ?_) (fun h36r => ?_)
           ·have h36 := nm h36r
            refine sr fun K hK => ?_
            refine rn 1 E S ?_; clear E S; intro a w E S
            apply hK; clear hK K
            refine rt hQ E S ?_
            have e : onameS o = [116, 97, 107, 101] := by
             unfold onameS
             rw [if_neg h6]
             rw [if_neg h9]
             rw [if_neg h12]
             rw [if_neg h15]
             rw [if_neg h18]
             rw [if_neg h21]
             rw [if_neg h24]
             rw [if_neg h27]
             rw [if_neg h30]
             rw [if_neg h33]
             rw [if_pos h36]
            show _ = _
            rw [e]
            rfl
           ·have h36 := nm h36r
            refine sr fun K hK => ?_
            refine rn 2 E S ?_; clear E S; intro a w E S
            apply hK; clear hK K
            refine cond E rfl (fun h39r => ?_) (fun h39r => ?_)
            ·have h39 := nm h39r
             refine sr fun K hK => ?_
             refine rn 1 E S ?_; clear E S; intro a w E S
             apply hK; clear hK K
             refine rt hQ E S ?_
             have e : onameS o = [102, 114, 101, 101] := by
              unfold onameS
              rw [if_neg h6]
              rw [if_neg h9]
              rw [if_neg h12]
              rw [if_neg h15]
              rw [if_neg h18]
              rw [if_neg h21]
              rw [if_neg h24]
              rw [if_neg h27]
              rw [if_neg h30]
              rw [if_neg h33]
              rw [if_neg h36]
              rw [if_pos h39]
             show _ = _
             rw [e]
             rfl
            ·have h39 := nm h39r
             refine sr fun K hK => ?_
             refine rn 2 E S ?_; clear E S; intro a w E S
             apply hK; clear hK K
             refine cond E rfl (fun h42r => ?_) (fun h42r => ?_)
             ·have h42 := nm h42r
              refine sr fun K hK => ?_
              refine rn 1 E S ?_; clear E S; intro a w E S
              apply hK; clear hK K
              refine rt hQ E S ?_
              have e : onameS o = [115, 99, 97, 110] := by
               unfold onameS
               rw [if_neg h6]
               rw [if_neg h9]
               rw [if_neg h12]
               rw [if_neg h15]
               rw [if_neg h18]
               rw [if_neg h21]
               rw [if_neg h24]
               rw [if_neg h27]
               rw [if_neg h30]
               rw [if_neg h33]
               rw [if_neg h36]
               rw [if_neg h39]
               rw [if_pos h42]
              show _ = _
              rw [e]
              rfl
             ·have h42 := nm h42r
              refine wp_skip ?_
              refine hK2 _ _ ?_; clear hK2
              refine sr fun K hK => ?_
              refine rn 1 E S ?_; clear E S; intro a w E S
              apply hK; clear hK K
              refine rt hQ E S ?_
              have e : onameS o = [] := by
               unfold onameS
               rw [if_neg h6]
               rw [if_neg h9]
               rw [if_neg h12]
               rw [if_neg h15]
               rw [if_neg h18]
               rw [if_neg h21]
               rw [if_neg h24]
               rw [if_neg h27]
               rw [if_neg h30]
               rw [if_neg h33]
               rw [if_neg h36]
               rw [if_neg h39]
               rw [if_neg h42]
              show _ = _
              rw [e]
              rfl

/-! `incognito/incognitoref09.Takes` -/
theorem c_Takes9 (d : Int) (x : Val) (w0 : World) (G : Heap) (hG : Sub G w0) (hv : x.Wf):
  Calls Tryd.prog 54 #[.int .i64 d, .agg #[.int .i64 x.k, .int .i64 x.n, str x.s]] w0 (Ret w0 G (fun v _ => v = .bool (takesB d x))) := by
 refine enter Tryd.func54 rfl Tryd.ntmps54 rfl ?_
 intro Q hQ a E
 have S := St.start0 hG
 refine sr fun K hK => ?_
 refine o_bx3 E rfl S rfl ?_; clear E S; intro B3 w a S E
 refine rn 1 E S ?_; clear E S; intro a w E S
 apply hK; clear hK K
 refine wp_seq_k (fun K3 hK2 => ?_)
 refine sr fun K hK => ?_
 refine rn 3 E S ?_; clear E S; intro a w E S
 refine cutG 3 10 (.bool ((decide (0 ≤ d)) && (decide (d ≤ 4)))) E S ?_ ?_
 ·refine bsp E (t := 7) rfl (fun hb4 => ?_) (fun hb4 => ?_)
  ·have hk5 := nm hb4
   refine rn 3 E S ?_; clear E S; intro a w E S
   exact ⟨S, E.cutT (by rw [hb4] <;> rfl)⟩
  ·refine rn 3 E S ?_; clear E S; intro a w E S
   exact ⟨S, E.cutT (by rw [hb4] <;> rfl)⟩
 clear E S; intro a w E S
 apply hK; clear hK K
 refine cond E rfl (fun h7r => ?_) (fun h7r => ?_)
 ·have h7 := nm h7r
  refine sr fun K hK => ?_
  refine rn 1 E S ?_; clear E S; intro a w E S
  refine o_callP E rfl S rfl rfl T.g24 (c_Name7 x _ _ S.sub (by first | assumption | exact parse_wf (by omega) | (constructor <;> first | assumption | (simp only [I64]; omega) | (simp; omega)))) ?_
  clear E S; rintro _ w a S rfl E
  refine rn 1 E S ?_; clear E S; intro a w E S
  apply hK; clear hK K
  refine rt hQ E S ?_
  show _ = _
  simp only [packed, Value.bool.injEq]
  unfold takesB
  try unfold nameB
  cases rightV x <;> (first | (simp_all; done) | (simp_all; omega) | grind)
 ·have h7 := nm h7r
  refine wp_skip ?_
  refine hK2 _ _ ?_; clear hK2
  refine sr fun K hK => ?_
  refine rn 3 E S ?_; clear E S; intro a w E S
  refine cutG 3 18 (.bool ((decide (d = 5)) && (rightV x))) E S ?_ ?_
  ·refine bsp E (t := 15) rfl (fun hb9 => ?_) (fun hb9 => ?_)
   ·have hk10 := nm hb9
    refine rn 1 E S ?_; clear E S; intro a w E S
    refine op_on E rfl rfl hb9 ?_
    refine o_callP E rfl S rfl rfl T.g44 (c_Right7 x _ _ S.sub (by first | assumption | exact hv | (constructor <;> first | assumption | (simp only [I64]; omega) | (simp; omega)))) ?_
    clear E S; rintro _ w a S rfl E
    refine rn 1 E S ?_; clear E S; intro a w E S
    exact ⟨S, E.cutT (by rw [hb9] <;> rfl)⟩
   ·refine rn 3 E S ?_; clear E S; intro a w E S
    exact ⟨S, E.cutT (by rw [hb9] <;> rfl)⟩
  clear E S; intro a w E S
  refine rn 1 E S ?_; clear E S; intro a w E S
  refine cutG 4 23 (.bool (((decide (d = 5)) && (rightV x)) && (decide (x.k = 1)))) E S ?_ ?_
  ·refine bsp E (t := 19) rfl (fun hb11 => ?_) (fun hb11 => ?_)
   ·have hk12 := nm hb11
    refine rn 4 E S ?_; clear E S; intro a w E S
    exact ⟨S, E.cutT (by rw [hb11] <;> rfl)⟩
   ·refine rn 4 E S ?_; clear E S; intro a w E S
    exact ⟨S, E.cutT (by rw [hb11] <;> rfl)⟩
  clear E S; intro a w E S
  refine rn 1 E S ?_; clear E S; intro a w E S
  refine cutG 12 36 (.bool ((((decide (d = 5)) && (rightV x)) && (decide (x.k = 1))) || (((decide (d = 6)) && (rightV x)) && (decide (x.k = 3))))) E S ?_ ?_
  ·refine bsp E (t := 24) rfl (fun hb13 => ?_) (fun hb13 => ?_)
   ·refine rn 12 E S ?_; clear E S; intro a w E S
    exact ⟨S, E.cutT (by rw [hb13] <;> rfl)⟩
   ·have hk14 := nm hb13
    refine rn 3 E S ?_; clear E S; intro a w E S
    refine cutG 3 30 (.bool ((decide (d = 6)) && (rightV x))) E S ?_ ?_
    ·refine bsp E (t := 27) rfl (fun hb15 => ?_) (fun hb15 => ?_)
     ·have hk16 := nm hb15
      refine rn 1 E S ?_; clear E S; intro a w E S
      refine op_on E rfl rfl hb15 ?_
      refine o_callP E rfl S rfl rfl T.g44 (c_Right7 x _ _ S.sub (by first | assumption | exact hv | (constructor <;> first | assumption | (simp only [I64]; omega) | (simp; omega)))) ?_
      clear E S; rintro _ w a S rfl E
      refine rn 1 E S ?_; clear E S; intro a w E S
      exact ⟨S, E.cutT (by rw [hb15] <;> rfl)⟩
     ·refine rn 3 E S ?_; clear E S; intro a w E S
      exact ⟨S, E.cutT (by rw [hb15] <;> rfl)⟩
    clear E S; intro a w E S
    refine rn 1 E S ?_; clear E S; intro a w E S
    refine cutG 4 35 (.bool (((decide (d = 6)) && (rightV x)) && (decide (x.k = 3)))) E S ?_ ?_
    ·refine bsp E (t := 31) rfl (fun hb17 => ?_) (fun hb17 => ?_)
     ·have hk18 := nm hb17
      refine rn 4 E S ?_; clear E S; intro a w E S
      exact ⟨S, E.cutT (by rw [hb17] <;> rfl)⟩
     ·refine rn 4 E S ?_; clear E S; intro a w E S
      exact ⟨S, E.cutT (by rw [hb17] <;> rfl)⟩
    clear E S; intro a w E S
    refine rn 1 E S ?_; clear E S; intro a w E S
    exact ⟨S, E.cutT (by rw [hb13] <;> rfl)⟩
  clear E S; intro a w E S
  refine rn 1 E S ?_; clear E S; intro a w E S
  apply hK; clear hK K
  refine rt hQ E S ?_
  show _ = _
  simp only [packed, Value.bool.injEq]
  unfold takesB
  try unfold nameB
  cases rightV x <;> (first | (simp_all; done) | (simp_all; omega) | grind)

/-! `incognito/incognitoref09.Find` -/
theorem c_Find9 (m o : Int) (w0 : World) (G : Heap) (hG : Sub G w0) :
  Calls Tryd.prog 45 #[.int .i64 m, .int .i64 o] w0 (Ret w0 G (fun v G' => ∃ A c, v = .agg #[.slice A (doms (findS m o).1.ins).length c, .int .i64 (findS m o).1.out, .bool (findS m o).1.may, .bool (findS m o).2] ∧ (doms (findS m o).1.ins).length ≤ c ∧ Rd (Knd.int .i64) G' A (doms (findS m o).1.ins))) := by
 refine enter Tryd.func45 rfl Tryd.ntmps45 rfl ?_
 intro Q hQ a E
 have S := St.start0 hG
 refine sr fun K hK => ?_
 refine o_allocZ E rfl S ?_; clear E S; intro B4 w a S E
 apply hK; clear hK K
 refine wp_seq_k (fun K3 hK2 => ?_)
 refine sr fun K hK => ?_
 refine rn 1 E S ?_; clear E S; intro a w E S
 refine o_callP E rfl S rfl rfl T.g56 (c_mname m _ _ S.sub) ?_
 clear E S; rintro _ w a S rfl E
 refine o_cat E rfl rfl rfl (by (have : (mnameS m).length ≤ 5 := mname_len m; simp; omega)) ?_; clear E; intro a E
 refine rn 1 E S ?_; clear E S; intro a w E S
 refine o_callP E rfl S rfl rfl T.g57 (c_oname o _ _ S.sub) ?_
 clear E S; rintro _ w a S rfl E
 refine o_cat E rfl rfl rfl (by (have : (mnameS m).length ≤ 5 := mname_len m; have : (onameS o).length ≤ 5 := oname_len o; simp; omega)) ?_; clear E; intro a E
 apply hK; clear hK K
 refine wp_block ?_
 refine wp_seq_k (fun K6 hK5 => ?_)
 refine sr fun K hK => ?_
 refine rn 2 E S ?_; clear E S; intro a w E S
 apply hK; clear hK K
 refine cond E rfl (fun h8r => ?_) (fun h8r => ?_)
 ·have h8 := nm h8r
  refine wp_skip ?_
  refine hK5 _ _ ?_; clear hK5
  refine cond E rfl (fun h9r => ?_) (fun h9r => ?_)
  ·have h9 := nm h9r
   refine sr fun K hK => ?_
   refine o_buildSl (cs := #[.int .i64 2]) [(0, _)] E rfl S rfl T.l59 (by kernel_rfl) ⟨rfl, trivial⟩ ?_; clear E S; intro B18 w a S E
   obtain ⟨G10, hle12, hC11, S'⟩ := S.stillHead (n := 1) rfl; clear S; have S := S'; clear S'
   have hW13 := Rd.ofCells (K := Knd.int .i64) (xs := [2]) hC11 ⟨rfl, rfl⟩
   refine o_build (cs := #[.slice (some ⟨B18, 0, none⟩) 1 1, .int .i64 (-1), .bool false, .bool true]) E rfl rfl (by kernel_rfl) ?_; clear E; intro a E
   refine rn 1 E S ?_; clear E S; intro a w E S
   apply hK; clear hK K
   refine rt hQ E S ?_
   have e : sgnF m o = ([2], (-1), false, true) := by
    rw [← find_sgn]
    exact sgn_hit h8 (by decide)
   have e1 : ([2] : List Int) = doms (findS m o).1.ins := congrArg (fun z => z.1) e.symm
   have e2 : (-1) = (findS m o).1.out := congrArg (fun z => z.2.1) e.symm
   have e3 : false = (findS m o).1.may := congrArg (fun z => z.2.2.1) e.symm
   have e4 : true = (findS m o).2 := congrArg (fun z => z.2.2.2) e.symm
   exact ⟨(some ⟨B18, 0, none⟩), 1, by rw [← e1, ← e2, ← e3, ← e4]; rfl, by rw [← e1]; decide, (by rw [← e1]; exact hW13)⟩
  ·exact absurd (h8r.symm.trans h9r) (by decide)
 ·have h8 := nm h8r
  refine sr fun K hK => ?_
  refine rn 2 E S ?_; clear E S; intro a w E S
  apply hK; clear hK K
  refine cond E rfl (fun h16r => ?_) (fun h16r => ?_)
  ·have h16 := nm h16r
   refine wp_skip ?_
   refine hK5 _ _ ?_; clear hK5
   refine cond E rfl (fun h17r => ?_) (fun h17r => ?_)
   ·have h17 := nm h17r
    refine sr fun K hK => ?_
    refine o_buildSl (cs := #[.int .i64 2]) [(0, _)] E rfl S rfl T.l59 (by kernel_rfl) ⟨rfl, trivial⟩ ?_; clear E S; intro B18 w a S E
    obtain ⟨G18, hle20, hC19, S'⟩ := S.stillHead (n := 1) rfl; clear S; have S := S'; clear S'
    have hW21 := Rd.ofCells (K := Knd.int .i64) (xs := [2]) hC19 ⟨rfl, rfl⟩
    refine o_build (cs := #[.slice (some ⟨B18, 0, none⟩) 1 1, .int .i64 (-1), .bool false, .bool true]) E rfl rfl (by kernel_rfl) ?_; clear E; intro a E
    refine rn 1 E S ?_; clear E S; intro a w E S
    apply hK; clear hK K
    refine rt hQ E S ?_
    have e : sgnF m o = ([2], (-1), false, true) := by
     rw [← find_sgn]
     exact sgn_hit h16 (by decide)
    have e1 : ([2] : List Int) = doms (findS m o).1.ins := congrArg (fun z => z.1) e.symm
    have e2 : (-1) = (findS m o).1.out := congrArg (fun z => z.2.1) e.symm
    have e3 : false = (findS m o).1.may := congrArg (fun z => z.2.2.1) e.symm
    have e4 : true = (findS m o).2 := congrArg (fun z => z.2.2.2) e.symm
    exact ⟨(some ⟨B18, 0, none⟩), 1, by rw [← e1, ← e2, ← e3, ← e4]; rfl, by rw [← e1]; decide, (by rw [← e1]; exact hW21)⟩
   ·exact absurd (h16r.symm.trans h17r) (by decide)
  ·have h16 := nm h16r
   refine sr fun K hK => ?_
   refine rn 2 E S ?_; clear E S; intro a w E S
   apply hK; clear hK K
   refine cond E rfl (fun h24r => ?_) (fun h24r => ?_)
   ·have h24 := nm h24r
    refine wp_skip ?_
    refine hK5 _ _ ?_; clear hK5
    refine cond E rfl (fun h25r => ?_) (fun h25r => ?_)
    ·have h25 := nm h25r
     refine sr fun K hK => ?_
     refine o_buildSl (cs := #[.int .i64 2]) [(0, _)] E rfl S rfl T.l59 (by kernel_rfl) ⟨rfl, trivial⟩ ?_; clear E S; intro B18 w a S E
     obtain ⟨G26, hle28, hC27, S'⟩ := S.stillHead (n := 1) rfl; clear S; have S := S'; clear S'
     have hW29 := Rd.ofCells (K := Knd.int .i64) (xs := [2]) hC27 ⟨rfl, rfl⟩
     refine o_build (cs := #[.slice (some ⟨B18, 0, none⟩) 1 1, .int .i64 (-1), .bool false, .bool true]) E rfl rfl (by kernel_rfl) ?_; clear E; intro a E
     refine rn 1 E S ?_; clear E S; intro a w E S
     apply hK; clear hK K
     refine rt hQ E S ?_
     have e : sgnF m o = ([2], (-1), false, true) := by
      rw [← find_sgn]
      exact sgn_hit h24 (by decide)
     have e1 : ([2] : List Int) = doms (findS m o).1.ins := congrArg (fun z => z.1) e.symm
     have e2 : (-1) = (findS m o).1.out := congrArg (fun z => z.2.1) e.symm
     have e3 : false = (findS m o).1.may := congrArg (fun z => z.2.2.1) e.symm
     have e4 : true = (findS m o).2 := congrArg (fun z => z.2.2.2) e.symm
     exact ⟨(some ⟨B18, 0, none⟩), 1, by rw [← e1, ← e2, ← e3, ← e4]; rfl, by rw [← e1]; decide, (by rw [← e1]; exact hW29)⟩
    ·exact absurd (h24r.symm.trans h25r) (by decide)
   ·have h24 := nm h24r
    refine sr fun K hK => ?_
    refine rn 2 E S ?_; clear E S; intro a w E S
    apply hK; clear hK K
    refine cond E rfl (fun h32r => ?_) (fun h32r => ?_)
    ·have h32 := nm h32r
     refine wp_skip ?_
     refine hK5 _ _ ?_; clear hK5
     refine cond E rfl (fun h33r => ?_) (fun h33r => ?_)
     ·have h33 := nm h33r
      refine sr fun K hK => ?_
      refine o_buildSl (cs := #[.int .i64 2]) [(0, _)] E rfl S rfl T.l59 (by kernel_rfl) ⟨rfl, trivial⟩ ?_; clear E S; intro B18 w a S E
      obtain ⟨G34, hle36, hC35, S'⟩ := S.stillHead (n := 1) rfl; clear S; have S := S'; clear S'
      have hW37 := Rd.ofCells (K := Knd.int .i64) (xs := [2]) hC35 ⟨rfl, rfl⟩
      refine o_build (cs := #[.slice (some ⟨B18, 0, none⟩) 1 1, .int .i64 (-1), .bool false, .bool true]) E rfl rfl (by kernel_rfl) ?_; clear E; intro a E
      refine rn 1 E S ?_; clear E S; intro a w E S
      apply hK; clear hK K
      refine rt hQ E S ?_
      have e : sgnF m o = ([2], (-1), false, true) := by
       rw [← find_sgn]
       exact sgn_hit h32 (by decide)
      have e1 : ([2] : List Int) = doms (findS m o).1.ins := congrArg (fun z => z.1) e.symm
      have e2 : (-1) = (findS m o).1.out := congrArg (fun z => z.2.1) e.symm
      have e3 : false = (findS m o).1.may := congrArg (fun z => z.2.2.1) e.symm
      have e4 : true = (findS m o).2 := congrArg (fun z => z.2.2.2) e.symm
      exact ⟨(some ⟨B18, 0, none⟩), 1, by rw [← e1, ← e2, ← e3, ← e4]; rfl, by rw [← e1]; decide, (by rw [← e1]; exact hW37)⟩
     ·exact absurd (h32r.symm.trans h33r) (by decide)
    ·have h32 := nm h32r
     refine sr fun K hK => ?_
     refine rn 2 E S ?_; clear E S; intro a w E S
     apply hK; clear hK K
     refine cond E rfl (fun h40r => ?_) (fun h40r => ?_)
     ·have h40 := nm h40r
      refine wp_skip ?_
      refine hK5 _ _ ?_; clear hK5
      refine cond E rfl (fun h41r => ?_) (fun h41r => ?_)
      ·have h41 := nm h41r
       refine sr fun K hK => ?_
       refine o_buildSl (cs := #[.int .i64 2]) [(0, _)] E rfl S rfl T.l59 (by kernel_rfl) ⟨rfl, trivial⟩ ?_; clear E S; intro B18 w a S E
       obtain ⟨G42, hle44, hC43, S'⟩ := S.stillHead (n := 1) rfl; clear S; have S := S'; clear S'
       have hW45 := Rd.ofCells (K := Knd.int .i64) (xs := [2]) hC43 ⟨rfl, rfl⟩
       refine o_build (cs := #[.slice (some ⟨B18, 0, none⟩) 1 1, .int .i64 (-1), .bool false, .bool true]) E rfl rfl (by kernel_rfl) ?_; clear E; intro a E
       refine rn 1 E S ?_; clear E S; intro a w E S
       apply hK; clear hK K
       refine rt hQ E S ?_
       have e : sgnF m o = ([2], (-1), false, true) := by
        rw [← find_sgn]
        exact sgn_hit h40 (by decide)
       have e1 : ([2] : List Int) = doms (findS m o).1.ins := congrArg (fun z => z.1) e.symm
       have e2 : (-1) = (findS m o).1.out := congrArg (fun z => z.2.1) e.symm
       have e3 : false = (findS m o).1.may := congrArg (fun z => z.2.2.1) e.symm
       have e4 : true = (findS m o).2 := congrArg (fun z => z.2.2.2) e.symm
       exact ⟨(some ⟨B18, 0, none⟩), 1, by rw [← e1, ← e2, ← e3, ← e4]; rfl, by rw [← e1]; decide, (by rw [← e1]; exact hW45)⟩
      ·exact absurd (h40r.symm.trans h41r) (by decide)
     ·have h40 := nm h40r
      refine wp_region_lit ?_
      refine rn 2 E S ?_; clear E S; intro a w E S
      refine hK5 _ _ ?_; clear hK5
      refine cond E rfl (fun h47r => ?_) (fun h47r => ?_)
      ·have h47 := nm h47r
       refine sr fun K hK => ?_
       refine o_buildSl (cs := #[.int .i64 2]) [(0, _)] E rfl S rfl T.l59 (by kernel_rfl) ⟨rfl, trivial⟩ ?_; clear E S; intro B18 w a S E
       obtain ⟨G48, hle50, hC49, S'⟩ := S.stillHead (n := 1) rfl; clear S; have S := S'; clear S'
       have hW51 := Rd.ofCells (K := Knd.int .i64) (xs := [2]) hC49 ⟨rfl, rfl⟩
       refine o_build (cs := #[.slice (some ⟨B18, 0, none⟩) 1 1, .int .i64 (-1), .bool false, .bool true]) E rfl rfl (by kernel_rfl) ?_; clear E; intro a E
       refine rn 1 E S ?_; clear E S; intro a w E S
       apply hK; clear hK K
       refine rt hQ E S ?_
       have e : sgnF m o = ([2], (-1), false, true) := by
        rw [← find_sgn]
        exact sgn_hit h47 (by decide)
       have e1 : ([2] : List Int) = doms (findS m o).1.ins := congrArg (fun z => z.1) e.symm
       have e2 : (-1) = (findS m o).1.out := congrArg (fun z => z.2.1) e.symm
       have e3 : false = (findS m o).1.may := congrArg (fun z => z.2.2.1) e.symm
       have e4 : true = (findS m o).2 := congrArg (fun z => z.2.2.2) e.symm
       exact ⟨(some ⟨B18, 0, none⟩), 1, by rw [← e1, ← e2, ← e3, ← e4]; rfl, by rw [← e1]; decide, (by rw [← e1]; exact hW51)⟩
      ·have h47 := nm h47r
       refine wp_seq_k (fun K54 hK53 => ?_)
       refine sr fun K hK => ?_
       refine rn 2 E S ?_; clear E S; intro a w E S
       apply hK; clear hK K
       refine cond E rfl (fun h56r => ?_) (fun h56r => ?_)
       ·have h56 := nm h56r
        refine wp_skip ?_
        refine hK53 _ _ ?_; clear hK53
        refine cond E rfl (fun h57r => ?_) (fun h57r => ?_)
        ·have h57 := nm h57r
         refine sr fun K hK => ?_
         refine o_build (cs := #[.slice none 0 0, .int .i64 2, .bool true, .bool true]) E rfl rfl (by kernel_rfl) ?_; clear E; intro a E
         refine rn 1 E S ?_; clear E S; intro a w E S
         apply hK; clear hK K
         refine rt hQ E S ?_
         have e : sgnF m o = ([], 2, true, true) := by
          rw [← find_sgn]
          exact sgn_hit h56 (by decide)
         have e1 : ([] : List Int) = doms (findS m o).1.ins := congrArg (fun z => z.1) e.symm
         have e2 : 2 = (findS m o).1.out := congrArg (fun z => z.2.1) e.symm
         have e3 : true = (findS m o).1.may := congrArg (fun z => z.2.2.1) e.symm
         have e4 : true = (findS m o).2 := congrArg (fun z => z.2.2.2) e.symm
         exact ⟨none, 0, by rw [← e1, ← e2, ← e3, ← e4]; rfl, by rw [← e1]; decide, (by rw [← e1]; exact .nil)⟩
        ·exact absurd (h56r.symm.trans h57r) (by decide)
       ·have h56 := nm h56r
        refine sr fun K hK => ?_
        refine rn 2 E S ?_; clear E S; intro a w E S
        apply hK; clear hK K
        refine cond E rfl (fun h60r => ?_) (fun h60r => ?_)
        ·have h60 := nm h60r
         refine wp_skip ?_
         refine hK53 _ _ ?_; clear hK53
         refine cond E rfl (fun h61r => ?_) (fun h61r => ?_)
         ·have h61 := nm h61r
          refine sr fun K hK => ?_
          refine o_build (cs := #[.slice none 0 0, .int .i64 2, .bool true, .bool true]) E rfl rfl (by kernel_rfl) ?_; clear E; intro a E
          refine rn 1 E S ?_; clear E S; intro a w E S
          apply hK; clear hK K
          refine rt hQ E S ?_
          have e : sgnF m o = ([], 2, true, true) := by
           rw [← find_sgn]
           exact sgn_hit h60 (by decide)
          have e1 : ([] : List Int) = doms (findS m o).1.ins := congrArg (fun z => z.1) e.symm
          have e2 : 2 = (findS m o).1.out := congrArg (fun z => z.2.1) e.symm
          have e3 : true = (findS m o).1.may := congrArg (fun z => z.2.2.1) e.symm
          have e4 : true = (findS m o).2 := congrArg (fun z => z.2.2.2) e.symm
          exact ⟨none, 0, by rw [← e1, ← e2, ← e3, ← e4]; rfl, by rw [← e1]; decide, (by rw [← e1]; exact .nil)⟩
         ·exact absurd (h60r.symm.trans h61r) (by decide)
        ·have h60 := nm h60r
         refine sr fun K hK => ?_
         refine rn 2 E S ?_; clear E S; intro a w E S
         apply hK; clear hK K
         refine cond E rfl (fun h64r => ?_) (fun h64r => ?_)
         ·have h64 := nm h64r
          refine wp_skip ?_
          refine hK53 _ _ ?_; clear hK53
          refine cond E rfl (fun h65r => ?_) (fun h65r => ?_)
          ·have h65 := nm h65r
           refine sr fun K hK => ?_
           refine o_build (cs := #[.slice none 0 0, .int .i64 2, .bool true, .bool true]) E rfl rfl (by kernel_rfl) ?_; clear E; intro a E
           refine rn 1 E S ?_; clear E S; intro a w E S
           apply hK; clear hK K
           refine rt hQ E S ?_
           have e : sgnF m o = ([], 2, true, true) := by
            rw [← find_sgn]
            exact sgn_hit h64 (by decide)
           have e1 : ([] : List Int) = doms (findS m o).1.ins := congrArg (fun z => z.1) e.symm
           have e2 : 2 = (findS m o).1.out := congrArg (fun z => z.2.1) e.symm
           have e3 : true = (findS m o).1.may := congrArg (fun z => z.2.2.1) e.symm
           have e4 : true = (findS m o).2 := congrArg (fun z => z.2.2.2) e.symm
           exact ⟨none, 0, by rw [← e1, ← e2, ← e3, ← e4]; rfl, by rw [← e1]; decide, (by rw [← e1]; exact .nil)⟩
          ·exact absurd (h64r.symm.trans h65r) (by decide)
         ·have h64 := nm h64r
          refine wp_region_lit ?_
          refine rn 2 E S ?_; clear E S; intro a w E S
          refine hK53 _ _ ?_; clear hK53
          refine cond E rfl (fun h67r => ?_) (fun h67r => ?_)
          ·have h67 := nm h67r
           refine sr fun K hK => ?_
           refine o_build (cs := #[.slice none 0 0, .int .i64 2, .bool true, .bool true]) E rfl rfl (by kernel_rfl) ?_; clear E; intro a E
           refine rn 1 E S ?_; clear E S; intro a w E S
           apply hK; clear hK K
           refine rt hQ E S ?_
           have e : sgnF m o = ([], 2, true, true) := by
            rw [← find_sgn]
            exact sgn_hit h67 (by decide)
           have e1 : ([] : List Int) = doms (findS m o).1.ins := congrArg (fun z => z.1) e.symm
           have e2 : 2 = (findS m o).1.out := congrArg (fun z => z.2.1) e.symm
           have e3 : true = (findS m o).1.may := congrArg (fun z => z.2.2.1) e.symm
           have e4 : true = (findS m o).2 := congrArg (fun z => z.2.2.2) e.symm
           exact ⟨none, 0, by rw [← e1, ← e2, ← e3, ← e4]; rfl, by rw [← e1]; decide, (by rw [← e1]; exact .nil)⟩
          ·have h67 := nm h67r
           refine sr fun K hK => ?_
           refine rn 2 E S ?_; clear E S; intro a w E S
           apply hK; clear hK K
           refine cond E rfl (fun h70r => ?_) (fun h70r => ?_)
           ·have h70 := nm h70r
            refine sr fun K hK => ?_
            refine o_buildSl (cs := #[.int .i64 2, .int .i64 2]) [(0, _), (1, _)] E rfl S rfl T.l59 (by kernel_rfl) ⟨rfl, rfl, trivial⟩ ?_; clear E S; intro B28 w a S E
            obtain ⟨G71, hle73, hC72, S'⟩ := S.stillHead (n := 2) rfl; clear S; have S := S'; clear S'
            have hW74 := Rd.ofCells (K := Knd.int .i64) (xs := [2, 2]) hC72 ⟨rfl, rfl, rfl⟩
            refine o_build (cs := #[.slice (some ⟨B28, 0, none⟩) 2 2, .int .i64 6, .bool false, .bool true]) E rfl rfl (by kernel_rfl) ?_; clear E; intro a E
            refine rn 1 E S ?_; clear E S; intro a w E S
            apply hK; clear hK K
            refine rt hQ E S ?_
            have e : sgnF m o = ([2, 2], 6, false, true) := by
             rw [← find_sgn]
             exact sgn_hit h70 (by decide)
            have e1 : ([2, 2] : List Int) = doms (findS m o).1.ins := congrArg (fun z => z.1) e.symm
            have e2 : 6 = (findS m o).1.out := congrArg (fun z => z.2.1) e.symm
            have e3 : false = (findS m o).1.may := congrArg (fun z => z.2.2.1) e.symm
            have e4 : true = (findS m o).2 := congrArg (fun z => z.2.2.2) e.symm
            exact ⟨(some ⟨B28, 0, none⟩), 2, by rw [← e1, ← e2, ← e3, ← e4]; rfl, by rw [← e1]; decide, (by rw [← e1]; exact hW74)⟩
           ·have h70 := nm h70r
            refine sr fun K hK => ?_
            refine rn 2 E S ?_; clear E S; intro a w E S
            apply hK; clear hK K
            refine cond E rfl (fun h77r => ?_) (fun h77r => ?_)
            ·have h77 := nm h77r
             refine sr fun K hK => ?_
             refine o_buildSl (cs := #[.int .i64 2]) [(0, _)] E rfl S rfl T.l59 (by kernel_rfl) ⟨rfl, trivial⟩ ?_; clear E S; intro B32 w a S E
             obtain ⟨G78, hle80, hC79, S'⟩ := S.stillHead (n := 1) rfl; clear S; have S := S'; clear S'
             have hW81 := Rd.ofCells (K := Knd.int .i64) (xs := [2]) hC79 ⟨rfl, rfl⟩
             refine o_build (cs := #[.slice (some ⟨B32, 0, none⟩) 1 1, .int .i64 6, .bool false, .bool true]) E rfl rfl (by kernel_rfl) ?_; clear E; intro a E
             refine rn 1 E S ?_; clear E S; intro a w E S
             apply hK; clear hK K
             refine rt hQ E S ?_
             have e : sgnF m o = ([2], 6, false, true) := by
              rw [← find_sgn]
              exact sgn_hit h77 (by decide)
             have e1 : ([2] : List Int) = doms (findS m o).1.ins := congrArg (fun z => z.1) e.symm
             have e2 : 6 = (findS m o).1.out := congrArg (fun z => z.2.1) e.symm
             have e3 : false = (findS m o).1.may := congrArg (fun z => z.2.2.1) e.symm
             have e4 : true = (findS m o).2 := congrArg (fun z => z.2.2.2) e.symm
             exact ⟨(some ⟨B32, 0, none⟩), 1, by rw [← e1, ← e2, ← e3, ← e4]; rfl, by rw [← e1]; decide, (by rw [← e1]; exact hW81)⟩
            ·have h77 := nm h77r
             refine sr fun K hK => ?_
             refine rn 2 E S ?_; clear E S; intro a w E S
             apply hK; clear hK K
             refine cond E rfl (fun h84r => ?_) (fun h84r => ?_)
             ·have h84 := nm h84r
              refine sr fun K hK => ?_
              refine o_buildSl (cs := #[.int .i64 3, .int .i64 2]) [(0, _), (1, _)] E rfl S rfl T.l59 (by kernel_rfl) ⟨rfl, rfl, trivial⟩ ?_; clear E S; intro B36 w a S E
              obtain ⟨G85, hle87, hC86, S'⟩ := S.stillHead (n := 2) rfl; clear S; have S := S'; clear S'
              have hW88 := Rd.ofCells (K := Knd.int .i64) (xs := [3, 2]) hC86 ⟨rfl, rfl, rfl⟩
              refine o_build (cs := #[.slice (some ⟨B36, 0, none⟩) 2 2, .int .i64 (-1), .bool false, .bool true]) E rfl rfl (by kernel_rfl) ?_; clear E; intro a E
              refine rn 1 E S ?_; clear E S; intro a w E S
              apply hK; clear hK K
              refine rt hQ E S ?_
              have e : sgnF m o = ([3, 2], (-1), false, true) := by
               rw [← find_sgn]
               exact sgn_hit h84 (by decide)
              have e1 : ([3, 2] : List Int) = doms (findS m o).1.ins := congrArg (fun z => z.1) e.symm
              have e2 : (-1) = (findS m o).1.out := congrArg (fun z => z.2.1) e.symm
              have e3 : false = (findS m o).1.may := congrArg (fun z => z.2.2.1) e.symm
              have e4 : true = (findS m o).2 := congrArg (fun z => z.2.2.2) e.symm
              exact ⟨(some ⟨B36, 0, none⟩), 2, by rw [← e1, ← e2, ← e3, ← e4]; rfl, by rw [← e1]; decide, (by rw [← e1]; exact hW88)⟩
             ·have h84 := nm h84r
              refine sr fun K hK => ?_
              refine rn 2 E S ?_; clear E S; intro a w E S
              apply hK; clear hK K
              refine cond E rfl (fun h91r => ?_) (fun h91r => ?_)
              ·have h91 := nm h91r
               refine sr fun K hK => ?_
               refine o_buildSl (cs := #[.int .i64 3]) [(0, _)] E rfl S rfl T.l59 (by kernel_rfl) ⟨rfl, trivial⟩ ?_; clear E S; intro B40 w a S E
               obtain ⟨G92, hle94, hC93, S'⟩ := S.stillHead (n := 1) rfl; clear S; have S := S'; clear S'
               have hW95 := Rd.ofCells (K := Knd.int .i64) (xs := [3]) hC93 ⟨rfl, rfl⟩
               refine o_build (cs := #[.slice (some ⟨B40, 0, none⟩) 1 1, .int .i64 2, .bool true, .bool true]) E rfl rfl (by kernel_rfl) ?_; clear E; intro a E
               refine rn 1 E S ?_; clear E S; intro a w E S
               apply hK; clear hK K
               refine rt hQ E S ?_
               have e : sgnF m o = ([3], 2, true, true) := by
                rw [← find_sgn]
                exact sgn_hit h91 (by decide)
               have e1 : ([3] : List Int) = doms (findS m o).1.ins := congrArg (fun z => z.1) e.symm
               have e2 : 2 = (findS m o).1.out := congrArg (fun z => z.2.1) e.symm
               have e3 : true = (findS m o).1.may := congrArg (fun z => z.2.2.1) e.symm
               have e4 : true = (findS m o).2 := congrArg (fun z => z.2.2.2) e.symm
               exact ⟨(some ⟨B40, 0, none⟩), 1, by rw [← e1, ← e2, ← e3, ← e4]; rfl, by rw [← e1]; decide, (by rw [← e1]; exact hW95)⟩
              ·have h91 := nm h91r
               refine sr fun K hK => ?_
               refine rn 2 E S ?_; clear E S; intro a w E S
               apply hK; clear hK K
               refine cond E rfl (fun h98r => ?_) (fun h98r => ?_)
               ·have h98 := nm h98r
                refine sr fun K hK => ?_
                refine o_buildSl (cs := #[.int .i64 3]) [(0, _)] E rfl S rfl T.l59 (by kernel_rfl) ⟨rfl, trivial⟩ ?_; clear E S; intro B44 w a S E
                obtain ⟨G99, hle101, hC100, S'⟩ := S.stillHead (n := 1) rfl; clear S; have S := S'; clear S'
                have hW102 := Rd.ofCells (K := Knd.int .i64) (xs := [3]) hC100 ⟨rfl, rfl⟩
                refine o_build (cs := #[.slice (some ⟨B44, 0, none⟩) 1 1, .int .i64 (-1), .bool false, .bool true]) E rfl rfl (by kernel_rfl) ?_; clear E; intro a E
                refine rn 1 E S ?_; clear E S; intro a w E S
                apply hK; clear hK K
                refine rt hQ E S ?_
                have e : sgnF m o = ([3], (-1), false, true) := by
                 rw [← find_sgn]
                 exact sgn_hit h98 (by decide)
                have e1 : ([3] : List Int) = doms (findS m o).1.ins := congrArg (fun z => z.1) e.symm
                have e2 : (-1) = (findS m o).1.out := congrArg (fun z => z.2.1) e.symm
                have e3 : false = (findS m o).1.may := congrArg (fun z => z.2.2.1) e.symm
                have e4 : true = (findS m o).2 := congrArg (fun z => z.2.2.2) e.symm
                exact ⟨(some ⟨B44, 0, none⟩), 1, by rw [← e1, ← e2, ← e3, ← e4]; rfl, by rw [← e1]; decide, (by rw [← e1]; exact hW102)⟩
               ·have h98 := nm h98r
                refine wp_seq_k (fun K105 hK104 => ?_)
                refine sr fun K hK => ?_
                refine rn 2 E S ?_; clear E S; intro a w E S
                apply hK; clear hK K
                refine cond E rfl (fun h107r => ?_) (fun h107r => ?_)
                ·have h107 := nm h107r
                 refine wp_skip ?_
                 refine hK104 _ _ ?_; clear hK104
                 refine cond E rfl (fun h108r => ?_) (fun h108r => ?_)
                 ·have h108 := nm h108r
                  refine sr fun K hK => ?_
                  refine o_build (cs := #[.slice none 0 0, .int .i64 6, .bool false, .bool true]) E rfl rfl (by kernel_rfl) ?_; clear E; intro a E
                  refine rn 1 E S ?_; clear E S; intro a w E S
                  apply hK; clear hK K
                  refine rt hQ E S ?_
                  have e : sgnF m o = ([], 6, false, true) := by
                   rw [← find_sgn]
                   exact sgn_hit h107 (by decide)
                  have e1 : ([] : List Int) = doms (findS m o).1.ins := congrArg (fun z => z.1) e.symm
                  have e2 : 6 = (findS m o).1.out := congrArg (fun z => z.2.1) e.symm
                  have e3 : false = (findS m o).1.may := congrArg (fun z => z.2.2.1) e.symm
                  have e4 : true = (findS m o).2 := congrArg (fun z => z.2.2.2) e.symm
                  exact ⟨none, 0, by rw [← e1, ← e2, ← e3, ← e4]; rfl, by rw [← e1]; decide, (by rw [← e1]; exact .nil)⟩
                 ·exact absurd (h107r.symm.trans h108r) (by decide)
                ·have h107 := nm h107r
                 refine wp_region_lit ?_
                 refine rn 2 E S ?_; clear E S; intro a w E S
                 refine hK104 _ _ ?_; clear hK104
                 refine cond E rfl (fun h110r => ?_) (fun h110r => ?_)
                 ·have h110 := nm h110r
                  refine sr fun K hK => ?_
                  refine o_build (cs := #[.slice none 0 0, .int .i64 6, .bool false, .bool true]) E rfl rfl (by kernel_rfl) ?_; clear E; intro a E
                  refine rn 1 E S ?_; clear E S; intro a w E S
                  apply hK; clear hK K
                  refine rt hQ E S ?_
                  have e : sgnF m o = ([], 6, false, true) := by
                   rw [← find_sgn]
                   exact sgn_hit h110 (by decide)
                  have e1 : ([] : List Int) = doms (findS m o).1.ins := congrArg (fun z => z.1) e.symm
                  have e2 : 6 = (findS m o).1.out := congrArg (fun z => z.2.1) e.symm
                  have e3 : false = (findS m o).1.may := congrArg (fun z => z.2.2.1) e.symm
                  have e4 : true = (findS m o).2 := congrArg (fun z => z.2.2.2) e.symm
                  exact ⟨none, 0, by rw [← e1, ← e2, ← e3, ← e4]; rfl, by rw [← e1]; decide, (by rw [← e1]; exact .nil)⟩
                 ·have h110 := nm h110r
                  refine sr fun K hK => ?_
                  refine rn 2 E S ?_; clear E S; intro a w E S
                  apply hK; clear hK K
                  refine cond E rfl (fun h113r => ?_) (fun h113r => ?_)
                  ·have h113 := nm h113r
                   refine sr fun K hK => ?_
                   refine o_buildSl (cs := #[.int .i64 5]) [(0, _)] E rfl S rfl T.l59 (by kernel_rfl) ⟨rfl, trivial⟩ ?_; clear E S; intro B52 w a S E
                   obtain ⟨G114, hle116, hC115, S'⟩ := S.stillHead (n := 1) rfl; clear S; have S := S'; clear S'
                   have hW117 := Rd.ofCells (K := Knd.int .i64) (xs := [5]) hC115 ⟨rfl, rfl⟩
                   refine o_build (cs := #[.slice (some ⟨B52, 0, none⟩) 1 1, .int .i64 (-1), .bool false, .bool true]) E rfl rfl (by kernel_rfl) ?_; clear E; intro a E
                   refine rn 1 E S ?_; clear E S; intro a w E S
                   apply hK; clear hK K
                   refine rt hQ E S ?_
                   have e : sgnF m o = ([5], (-1), false, true) := by
                    rw [← find_sgn]
                    exact sgn_hit h113 (by decide)
                   have e1 : ([5] : List Int) = doms (findS m o).1.ins := congrArg (fun z => z.1) e.symm
                   have e2 : (-1) = (findS m o).1.out := congrArg (fun z => z.2.1) e.symm
                   have e3 : false = (findS m o).1.may := congrArg (fun z => z.2.2.1) e.symm
                   have e4 : true = (findS m o).2 := congrArg (fun z => z.2.2.2) e.symm
                   exact ⟨(some ⟨B52, 0, none⟩), 1, by rw [← e1, ← e2, ← e3, ← e4]; rfl, by rw [← e1]; decide, (by rw [← e1]; exact hW117)⟩
                  ·have h113 := nm h113r
                   refine sr fun K hK => ?_
                   refine rn 2 E S ?_; clear E S; intro a w E S
                   apply hK; clear hK K
                   refine cond E rfl (fun h120r => ?_) (fun h120r => ?_)
                   ·have h120 := nm h120r
                    refine sr fun K hK => ?_
                    refine o_build (cs := #[.slice none 0 0, .int .i64 5, .bool false, .bool true]) E rfl rfl (by kernel_rfl) ?_; clear E; intro a E
                    refine rn 1 E S ?_; clear E S; intro a w E S
                    apply hK; clear hK K
                    refine rt hQ E S ?_
                    have e : sgnF m o = ([], 5, false, true) := by
                     rw [← find_sgn]
                     exact sgn_hit h120 (by decide)
                    have e1 : ([] : List Int) = doms (findS m o).1.ins := congrArg (fun z => z.1) e.symm
                    have e2 : 5 = (findS m o).1.out := congrArg (fun z => z.2.1) e.symm
                    have e3 : false = (findS m o).1.may := congrArg (fun z => z.2.2.1) e.symm
                    have e4 : true = (findS m o).2 := congrArg (fun z => z.2.2.2) e.symm
                    exact ⟨none, 0, by rw [← e1, ← e2, ← e3, ← e4]; rfl, by rw [← e1]; decide, (by rw [← e1]; exact .nil)⟩
                   ·have h120 := nm h120r
                    refine wp_seq_k (fun K123 hK122 => ?_)
                    refine sr fun K hK => ?_
                    refine rn 2 E S ?_; clear E S; intro a w E S
                    apply hK; clear hK K
                    refine cond E rfl (fun h125r => ?_) (fun h125r => ?_)
                    ·have h125 := nm h125r
                     refine wp_skip ?_
                     refine hK122 _ _ ?_; clear hK122
                     refine cond E rfl (fun h126r => ?_) (fun h126r => ?_)
                     ·have h126 := nm h126r
                      refine sr fun K hK => ?_
                      refine o_buildSl (cs := #[.int .i64 4]) [(0, _)] E rfl S rfl T.l59 (by kernel_rfl) ⟨rfl, trivial⟩ ?_; clear E S; intro B60 w a S E
                      obtain ⟨G127, hle129, hC128, S'⟩ := S.stillHead (n := 1) rfl; clear S; have S := S'; clear S'
                      have hW130 := Rd.ofCells (K := Knd.int .i64) (xs := [4]) hC128 ⟨rfl, rfl⟩
                      refine o_build (cs := #[.slice (some ⟨B60, 0, none⟩) 1 1, .int .i64 (-1), .bool false, .bool true]) E rfl rfl (by kernel_rfl) ?_; clear E; intro a E
                      refine rn 1 E S ?_; clear E S; intro a w E S
                      apply hK; clear hK K
                      refine rt hQ E S ?_
                      have e : sgnF m o = ([4], (-1), false, true) := by
                       rw [← find_sgn]
                       exact sgn_hit h125 (by decide)
                      have e1 : ([4] : List Int) = doms (findS m o).1.ins := congrArg (fun z => z.1) e.symm
                      have e2 : (-1) = (findS m o).1.out := congrArg (fun z => z.2.1) e.symm
                      have e3 : false = (findS m o).1.may := congrArg (fun z => z.2.2.1) e.symm
                      have e4 : true = (findS m o).2 := congrArg (fun z => z.2.2.2) e.symm
                      exact ⟨(some ⟨B60, 0, none⟩), 1, by rw [← e1, ← e2, ← e3, ← e4]; rfl, by rw [← e1]; decide, (by rw [← e1]; exact hW130)⟩
                     ·exact absurd (h125r.symm.trans h126r) (by decide)
                    ·have h125 := nm h125r
                     refine wp_region_lit ?_
                     refine rn 2 E S ?_; clear E S; intro a w E S
                     refine hK122 _ _ ?_; clear hK122
                     refine cond E rfl (fun h132r => ?_) (fun h132r => ?_)
                     ·have h132 := nm h132r
                      refine sr fun K hK => ?_
                      refine o_buildSl (cs := #[.int .i64 4]) [(0, _)] E rfl S rfl T.l59 (by kernel_rfl) ⟨rfl, trivial⟩ ?_; clear E S; intro B60 w a S E
                      obtain ⟨G133, hle135, hC134, S'⟩ := S.stillHead (n := 1) rfl; clear S; have S := S'; clear S'
                      have hW136 := Rd.ofCells (K := Knd.int .i64) (xs := [4]) hC134 ⟨rfl, rfl⟩
                      refine o_build (cs := #[.slice (some ⟨B60, 0, none⟩) 1 1, .int .i64 (-1), .bool false, .bool true]) E rfl rfl (by kernel_rfl) ?_; clear E; intro a E
                      refine rn 1 E S ?_; clear E S; intro a w E S
                      apply hK; clear hK K
                      refine rt hQ E S ?_
                      have e : sgnF m o = ([4], (-1), false, true) := by
                       rw [← find_sgn]
                       exact sgn_hit h132 (by decide)
                      have e1 : ([4] : List Int) = doms (findS m o).1.ins := congrArg (fun z => z.1) e.symm
                      have e2 : (-1) = (findS m o).1.out := congrArg (fun z => z.2.1) e.symm
                      have e3 : false = (findS m o).1.may := congrArg (fun z => z.2.2.1) e.symm
                      have e4 : true = (findS m o).2 := congrArg (fun z => z.2.2.2) e.symm
                      exact ⟨(some ⟨B60, 0, none⟩), 1, by rw [← e1, ← e2, ← e3, ← e4]; rfl, by rw [← e1]; decide, (by rw [← e1]; exact hW136)⟩
                     ·have h132 := nm h132r
                      refine sr fun K hK => ?_
                      refine rn 2 E S ?_; clear E S; intro a w E S
                      apply hK; clear hK K
                      refine cond E rfl (fun h139r => ?_) (fun h139r => ?_)
                      ·have h139 := nm h139r
                       refine sr fun K hK => ?_
                       refine o_build (cs := #[.slice none 0 0, .int .i64 4, .bool true, .bool true]) E rfl rfl (by kernel_rfl) ?_; clear E; intro a E
                       refine rn 1 E S ?_; clear E S; intro a w E S
                       apply hK; clear hK K
                       refine rt hQ E S ?_
                       have e : sgnF m o = ([], 4, true, true) := by
                        rw [← find_sgn]
                        exact sgn_hit h139 (by decide)
                       have e1 : ([] : List Int) = doms (findS m o).1.ins := congrArg (fun z => z.1) e.symm
                       have e2 : 4 = (findS m o).1.out := congrArg (fun z => z.2.1) e.symm
                       have e3 : true = (findS m o).1.may := congrArg (fun z => z.2.2.1) e.symm
                       have e4 : true = (findS m o).2 := congrArg (fun z => z.2.2.2) e.symm
                       exact ⟨none, 0, by rw [← e1, ← e2, ← e3, ← e4]; rfl, by rw [← e1]; decide, (by rw [← e1]; exact .nil)⟩
                      ·have h139 := nm h139r
                       refine sr fun K hK => ?_
                       refine rn 2 E S ?_; clear E S; intro a w E S
                       apply hK; clear hK K
                       refine cond E rfl (fun h142r => ?_) (fun h142r => ?_)
                       ·have h142 := nm h142r
                        refine sr fun K hK => ?_
                        refine o_buildSl (cs := #[.int .i64 4, .int .i64 2]) [(0, _), (1, _)] E rfl S rfl T.l59 (by kernel_rfl) ⟨rfl, rfl, trivial⟩ ?_; clear E S; intro B67 w a S E
                        obtain ⟨G143, hle145, hC144, S'⟩ := S.stillHead (n := 2) rfl; clear S; have S := S'; clear S'
                        have hW146 := Rd.ofCells (K := Knd.int .i64) (xs := [4, 2]) hC144 ⟨rfl, rfl, rfl⟩
                        refine o_build (cs := #[.slice (some ⟨B67, 0, none⟩) 2 2, .int .i64 (-1), .bool false, .bool true]) E rfl rfl (by kernel_rfl) ?_; clear E; intro a E
                        refine rn 1 E S ?_; clear E S; intro a w E S
                        apply hK; clear hK K
                        refine rt hQ E S ?_
                        have e : sgnF m o = ([4, 2], (-1), false, true) := by
                         rw [← find_sgn]
                         exact sgn_hit h142 (by decide)
                        have e1 : ([4, 2] : List Int) = doms (findS m o).1.ins := congrArg (fun z => z.1) e.symm
                        have e2 : (-1) = (findS m o).1.out := congrArg (fun z => z.2.1) e.symm
                        have e3 : false = (findS m o).1.may := congrArg (fun z => z.2.2.1) e.symm
                        have e4 : true = (findS m o).2 := congrArg (fun z => z.2.2.2) e.symm
                        exact ⟨(some ⟨B67, 0, none⟩), 2, by rw [← e1, ← e2, ← e3, ← e4]; rfl, by rw [← e1]; decide, (by rw [← e1]; exact hW146)⟩
                       ·have h142 := nm h142r
                        refine sr fun K hK => ?_
                        refine rn 2 E S ?_; clear E S; intro a w E S
                        apply hK; clear hK K
                        refine cond E rfl (fun h149r => ?_) (fun h149r => ?_)
                        ·have h149 := nm h149r
                         refine sr fun K hK => ?_
                         refine o_buildSl (cs := #[.int .i64 4, .int .i64 4]) [(0, _), (1, _)] E rfl S rfl T.l59 (by kernel_rfl) ⟨rfl, rfl, trivial⟩ ?_; clear E S; intro B71 w a S E
                         obtain ⟨G150, hle152, hC151, S'⟩ := S.stillHead (n := 2) rfl; clear S; have S := S'; clear S'
                         have hW153 := Rd.ofCells (K := Knd.int .i64) (xs := [4, 4]) hC151 ⟨rfl, rfl, rfl⟩
                         refine o_build (cs := #[.slice (some ⟨B71, 0, none⟩) 2 2, .int .i64 99, .bool false, .bool true]) E rfl rfl (by kernel_rfl) ?_; clear E; intro a E
                         refine rn 1 E S ?_; clear E S; intro a w E S
                         apply hK; clear hK K
                         refine rt hQ E S ?_
                         have e : sgnF m o = ([4, 4], 99, false, true) := by
                          rw [← find_sgn]
                          exact sgn_hit h149 (by decide)
                         have e1 : ([4, 4] : List Int) = doms (findS m o).1.ins := congrArg (fun z => z.1) e.symm
                         have e2 : 99 = (findS m o).1.out := congrArg (fun z => z.2.1) e.symm
                         have e3 : false = (findS m o).1.may := congrArg (fun z => z.2.2.1) e.symm
                         have e4 : true = (findS m o).2 := congrArg (fun z => z.2.2.2) e.symm
                         exact ⟨(some ⟨B71, 0, none⟩), 2, by rw [← e1, ← e2, ← e3, ← e4]; rfl, by rw [← e1]; decide, (by rw [← e1]; exact hW153)⟩
                        ·have h149 := nm h149r
                         refine wp_skip ?_
                         refine hK2 _ _ ?_; clear hK2
                         refine sr fun K hK => ?_
                         refine o_build (cs := #[.slice none 0 0, .int .i64 0, .bool false, .bool false]) E rfl rfl (by kernel_rfl) ?_; clear E; intro a E
                         refine rn 1 E S ?_; clear E S; intro a w E S
                         apply hK; clear hK K
                         refine rt hQ E S ?_
                         have e : sgnF m o = ([], 0, false, false) := by
                          rw [← find_sgn]
                          simp only [sgnT, sgnTab, List.find?, BEq.comm (a := (_ : Bs)), beq_false_of_ne (Ne.symm h8), beq_false_of_ne (Ne.symm h16), beq_false_of_ne (Ne.symm h24), beq_false_of_ne (Ne.symm h32), beq_false_of_ne (Ne.symm h40), beq_false_of_ne (Ne.symm h47), beq_false_of_ne (Ne.symm h56), beq_false_of_ne (Ne.symm h60), beq_false_of_ne (Ne.symm h64), beq_false_of_ne (Ne.symm h67), beq_false_of_ne (Ne.symm h70), beq_false_of_ne (Ne.symm h77), beq_false_of_ne (Ne.symm h84), beq_false_of_ne (Ne.symm h91), beq_false_of_ne (Ne.symm h98), beq_false_of_ne (Ne.symm h107), beq_false_of_ne (Ne.symm h110), beq_false_of_ne (Ne.symm h113), beq_false_of_ne (Ne.symm h120), beq_false_of_ne (Ne.symm h125), beq_false_of_ne (Ne.symm h132), beq_false_of_ne (Ne.symm h139), beq_false_of_ne (Ne.symm h142), beq_false_of_ne (Ne.symm h149)]
                         have e1 : ([] : List Int) = doms (findS m o).1.ins := congrArg (fun z => z.1) e.symm
                         have e2 : 0 = (findS m o).1.out := congrArg (fun z => z.2.1) e.symm
                         have e3 : false = (findS m o).1.may := congrArg (fun z => z.2.2.1) e.symm
                         have e4 : false = (findS m o).2 := congrArg (fun z => z.2.2.2) e.symm
                         exact ⟨none, 0, by rw [← e1, ← e2, ← e3, ← e4]; rfl, by rw [← e1]; decide, (by rw [← e1]; exact .nil)⟩

/-! `incognito/incognitoref07.Same` -/
theorem c_Same7 (xa : List Val) (Aa : Option Addr) (ca : Nat) (xb : List Val) (Ab : Option Addr) (cb : Nat) (w0 : World) (G : Heap) (hG : Sub G w0) (hRxa : Rd kVal G Aa xa) (hlxa : xa.length ≤ 9223372036854775807) (hRxb : Rd kVal G Ab xb) (hlxb : xb.length ≤ 9223372036854775807):
  Calls Tryd.prog 39 #[.slice Aa xa.length ca, .slice Ab xb.length cb] w0 (Ret w0 G (fun v _ => v = .bool (decide (xa = xb)))) := by
 refine enter Tryd.func39 rfl Tryd.ntmps39 rfl ?_
 intro Q hQ a E
 have S := St.start0 hG
 refine sr fun K hK => ?_
 refine rn 1 E S ?_; clear E S; intro a w E S
 apply hK; clear hK K
 refine wp_seq_k (fun K3 hK2 => ?_)
 refine sr fun K hK => ?_
 refine rn 5 E S ?_; clear E S; intro a w E S
 apply hK; clear hK K
 refine cond E rfl (fun h5r => ?_) (fun h5r => ?_)
 ·have h5 := nm h5r
  refine sr fun K hK => ?_
  refine rn 1 E S ?_; clear E S; intro a w E S
  apply hK; clear hK K
  refine rt hQ E S ?_
  show _ = _
  simp only [packed, Value.bool.injEq]
  exact (decide_eq_false fun e => by subst e; omega).symm
 ·have h5 := nm h5r
  refine wp_skip ?_
  refine hK2 _ _ ?_; clear hK2
  refine wp_seq_k (fun K8 hK7 => ?_)
  refine sr fun K hK => ?_
  refine rn 1 E S ?_; clear E S; intro a w E S
  apply hK; clear hK K
  refine wp_block ?_
  refine loop (fun (i : Nat) a' w' => St w0 G [] G w' [] ∧ Env a' 26 [] [(0, .slice Aa xa.length ca), (1, .slice Ab xb.length cb), (4, .bool false), (5, .int .i64 (i : Int))] ∧ (i ≤ xa.length ∧ xa.take i = xb.take i)) (fun (i : Nat) => xa.length - i) 0 ⟨S, E.cut ⟨rfl, rfl, rfl, rfl, trivial⟩, ⟨Nat.zero_le _, rfl⟩⟩ ?_
  clear E S; intro i a w ⟨S, E, ⟨hi, ht⟩⟩
  refine wp_seq_k (fun K12 hK11 => ?_)
  refine sr fun K hK => ?_
  refine rn 4 E S ?_; clear E S; intro a w E S
  apply hK; clear hK K
  refine cond E rfl (fun h14r => ?_) (fun h14r => ?_)
  ·have h14 := nm h14r
   refine wp_skip ?_
   refine hK11 _ _ ?_; clear hK11
   refine wp_seq_k (fun K16 hK15 => ?_)
   refine wp_block ?_
   refine wp_seq_k (fun K18 hK17 => ?_)
   have hi19 : (i : Int).toNat < xa.length := by omega
   obtain ⟨eb19, eo19, hA19, el19⟩ := Rd.at hRxa (List.getElem?_eq_getElem hi19); cases hA19
   obtain ⟨x19, ex19⟩ : ∃ x, xa[(i : Int).toNat] = x := ⟨_, rfl⟩; rw [ex19] at el19
   have el19 := kVal_open el19
   have hi20 : (i : Int).toNat < xb.length := by omega
   obtain ⟨eb20, eo20, hA20, el20⟩ := Rd.at hRxb (List.getElem?_eq_getElem hi20); cases hA20
   obtain ⟨x20, ex20⟩ : ∃ x, xb[(i : Int).toNat] = x := ⟨_, rfl⟩; rw [ex20] at el20
   have el20 := kVal_open el20
   refine drawnP [fun v => v = .slice (some ⟨eb19, eo19, none⟩) xa.length ca, fun v => v = .int .i64 (i : Int), fun v => v = .pointer (some ⟨eb19, eo19 + (i : Int).toNat * 3, none⟩), fun v => v = .agg #[.int .i64 x19.k, .int .i64 x19.n, str x19.s], fun v => v = .slice (some ⟨eb20, eo20, none⟩) xb.length cb, fun v => v = .int .i64 (i : Int), fun v => v = .pointer (some ⟨eb20, eo20 + (i : Int).toNat * 3, none⟩), fun v => v = .agg #[.int .i64 x20.k, .int .i64 x20.n, str x20.s], fun v => v = .bool (!(decide (x19.k = x20.k) && (decide (x19.n = x20.n) && (x19.s == x20.s && true))))] T.mix rfl E S rfl ⟨?_, ?_, ?_, ?_, ?_, ?_, ?_, ?_, ?_, trivial⟩ ?_
   ·intro a w G1 hl S E hp
    refine o_move E rfl rfl ?_; clear E; intro a E
    exact ⟨_, _, S, rfl, E.get _ _ rfl, E.defers, rfl⟩
   ·intro a w G1 hl S E hp
    refine o_move E rfl rfl ?_; clear E; intro a E
    exact ⟨_, _, S, rfl, E.get _ _ rfl, E.defers, rfl⟩
   ·intro a w G1 hl S E hp
    obtain ⟨_, e0, rfl⟩ := hp 0 17 _ rfl rfl rfl; replace E := E.add e0
    obtain ⟨_, e1, rfl⟩ := hp 1 18 _ rfl rfl rfl; replace E := E.add e1
    refine o_ixL E rfl rfl rfl T.l50 ⟨by omega, by omega⟩ ?_; clear E; intro a E
    exact ⟨_, _, S, rfl, E.get _ _ rfl, E.defers, rfl⟩
   ·intro a w G1 hl S E hp
    obtain ⟨_, e2, rfl⟩ := hp 2 19 _ rfl rfl rfl; replace E := E.add e2
    refine o_ldIA E rfl S rfl (el19.le hl) T.a49 ?_; clear E; intro a E
    exact ⟨_, _, S, rfl, E.get _ _ rfl, E.defers, rfl⟩
   ·intro a w G1 hl S E hp
    refine o_move E rfl rfl ?_; clear E; intro a E
    exact ⟨_, _, S, rfl, E.get _ _ rfl, E.defers, rfl⟩
   ·intro a w G1 hl S E hp
    refine o_move E rfl rfl ?_; clear E; intro a E
    exact ⟨_, _, S, rfl, E.get _ _ rfl, E.defers, rfl⟩
   ·intro a w G1 hl S E hp
    obtain ⟨_, e4, rfl⟩ := hp 4 21 _ rfl rfl rfl; replace E := E.add e4
    obtain ⟨_, e5, rfl⟩ := hp 5 22 _ rfl rfl rfl; replace E := E.add e5
    refine o_ixL E rfl rfl rfl T.l50 ⟨by omega, by omega⟩ ?_; clear E; intro a E
    exact ⟨_, _, S, rfl, E.get _ _ rfl, E.defers, rfl⟩
   ·intro a w G1 hl S E hp
    obtain ⟨_, e6, rfl⟩ := hp 6 23 _ rfl rfl rfl; replace E := E.add e6
    refine o_ldIA E rfl S rfl (el20.le hl) T.a49 ?_; clear E; intro a E
    exact ⟨_, _, S, rfl, E.get _ _ rfl, E.defers, rfl⟩
   ·intro a w G1 hl S E hp
    obtain ⟨_, e3, rfl⟩ := hp 3 20 _ rfl rfl rfl; replace E := E.add e3
    obtain ⟨_, e7, rfl⟩ := hp 7 24 _ rfl rfl rfl; replace E := E.add e7
    refine o_neA (b := decide (x19.k = x20.k) && (decide (x19.n = x20.n) && (x19.s == x20.s && true))) E rfl rfl rfl T.q49 rfl rfl ?_; clear E; intro a E
    exact ⟨_, _, S, rfl, E.get _ _ rfl, E.defers, rfl⟩
   clear E S; intro a w S E hp
   obtain ⟨_, e8, rfl⟩ := hp 8 25 _ rfl rfl; replace E := E.add e8
   clear hp
   refine hK17 _ _ ?_; clear hK17
   refine cond E rfl (fun h21r => ?_) (fun h21r => ?_)
   ·have h21 := nm h21r
    refine sr fun K hK => ?_
    refine rn 1 E S ?_; clear E S; intro a w E S
    apply hK; clear hK K
    refine rt hQ E S ?_
    show _ = _
    simp only [packed, Value.bool.injEq]
    have hq := h21r
    rw [Bool.not_eq_true'] at hq
    exact (decide_eq_false fun e => by subst e; exact val_ne hq (ex19.symm.trans ex20)).symm
   ·have h21 := nm h21r
    refine wp_skip ?_
    refine hK15 _ _ ?_; clear hK15
    refine wp_region_lit ?_
    refine rn 3 E S ?_; clear E S; intro a w E S
    have hlt : i < xa.length := by omega
    have hq := h21r
    rw [Bool.not_eq_false'] at hq
    have ht2 : xa.take (i + 1) = xb.take (i + 1) := take_snoc_eq7 ht hlt (by omega) (ex19.trans ((val_eq hq).trans ex20.symm))
    exact ⟨i + 1, ⟨S, E.cut ⟨rfl, rfl, rfl, rfl, trivial⟩, ⟨by omega, ht2⟩⟩, by omega⟩
  ·have h14 := nm h14r
   refine wp_exit ?_
   refine hK7 _ _ ?_; clear hK7
   refine sr fun K hK => ?_
   refine rn 1 E S ?_; clear E S; intro a w E S
   apply hK; clear hK K
   refine rt hQ E S ?_
   show _ = _
   simp only [packed, Value.bool.injEq]
   exact (decide_eq_true (by rwa [List.take_of_length_le (by omega), List.take_of_length_le (by omega)] at ht)).symm

/-! `incognito/incognitoref10.Same` -/
theorem c_SameE (x y : Evt) (A1x : Option Addr) (c1x : Nat) (A2x : Option Addr) (c2x : Nat) (A1y : Option Addr) (c1y : Nat) (A2y : Option Addr) (c2y : Nat) (w0 : World) (G : Heap) (hG : Sub G w0) (hr1x : Rd kVal G A1x x.args) (hr2x : Rd kVal G A2x x.out) (hl1x : x.args.length ≤ 9223372036854775807) (hl2x : x.out.length ≤ 9223372036854775807) (hr1y : Rd kVal G A1y y.args) (hr2y : Rd kVal G A2y y.out) (hl1y : y.args.length ≤ 9223372036854775807) (hl2y : y.out.length ≤ 9223372036854775807):
  Calls Tryd.prog 21 #[.agg #[.int .i64 x.time, .int .i64 x.client.k, .int .i64 x.client.n, str x.client.s, .int .i64 x.type, .int .i64 x.model, .int .i64 x.key.k, .int .i64 x.key.n, str x.key.s, .int .i64 x.op, .slice A1x x.args.length c1x, .slice A2x x.out.length c2x, .bool x.noted, str x.note], .agg #[.int .i64 y.time, .int .i64 y.client.k, .int .i64 y.client.n, str y.client.s, .int .i64 y.type, .int .i64 y.model, .int .i64 y.key.k, .int .i64 y.key.n, str y.key.s, .int .i64 y.op, .slice A1y y.args.length c1y, .slice A2y y.out.length c2y, .bool y.noted, str y.note]] w0 (Ret w0 G (fun v _ => v = .bool (decide (x = y)))) := by
 refine enter Tryd.func21 rfl Tryd.ntmps21 rfl ?_
 intro Q hQ a E
 have S := St.start0 hG
 refine sr fun K hK => ?_
 refine o_bx14 E rfl S rfl ?_; clear E S; intro B2 w a S E
 refine o_bx14 E rfl S rfl ?_; clear E S; intro B3 w a S E
 refine rn 1 E S ?_; clear E S; intro a w E S
 apply hK; clear hK K
 refine sr fun K hK => ?_
 refine rn 6 E S ?_; clear E S; intro a w E S
 refine cutG 6 16 (.bool ((decide (x.time = y.time)) && (decide (x.client.k = y.client.k) && (decide (x.client.n = y.client.n) && (x.client.s == y.client.s && true))))) E S ?_ ?_
 ·refine bsp E (t := 10) rfl (fun hb2 => ?_) (fun hb2 => ?_)
  ·have hk3 := nm hb2
   refine rn 4 E S ?_; clear E S; intro a w E S
   refine op_on E rfl rfl hb2 ?_
   refine o_eqA (b := decide (x.client.k = y.client.k) && (decide (x.client.n = y.client.n) && (x.client.s == y.client.s && true))) E rfl rfl rfl T.q49 rfl rfl ?_; clear E; intro a E
   refine rn 1 E S ?_; clear E S; intro a w E S
   exact ⟨S, E.cutT (by rw [hb2] <;> rfl)⟩
  ·refine rn 6 E S ?_; clear E S; intro a w E S
   exact ⟨S, E.cutT (by rw [hb2] <;> rfl)⟩
 clear E S; intro a w E S
 refine rn 1 E S ?_; clear E S; intro a w E S
 refine cutG 6 23 (.bool (((decide (x.time = y.time)) && (decide (x.client.k = y.client.k) && (decide (x.client.n = y.client.n) && (x.client.s == y.client.s && true)))) && (decide (x.type = y.type)))) E S ?_ ?_
 ·refine bsp E (t := 17) rfl (fun hb4 => ?_) (fun hb4 => ?_)
  ·have hk5 := nm hb4
   refine rn 6 E S ?_; clear E S; intro a w E S
   exact ⟨S, E.cutT (by rw [hb4] <;> rfl)⟩
  ·refine rn 6 E S ?_; clear E S; intro a w E S
   exact ⟨S, E.cutT (by rw [hb4] <;> rfl)⟩
 clear E S; intro a w E S
 refine rn 1 E S ?_; clear E S; intro a w E S
 refine cutG 6 30 (.bool ((((decide (x.time = y.time)) && (decide (x.client.k = y.client.k) && (decide (x.client.n = y.client.n) && (x.client.s == y.client.s && true)))) && (decide (x.type = y.type))) && (decide (x.model = y.model)))) E S ?_ ?_
 ·refine bsp E (t := 24) rfl (fun hb6 => ?_) (fun hb6 => ?_)
  ·have hk7 := nm hb6
   refine rn 6 E S ?_; clear E S; intro a w E S
   exact ⟨S, E.cutT (by rw [hb6] <;> rfl)⟩
  ·refine rn 6 E S ?_; clear E S; intro a w E S
   exact ⟨S, E.cutT (by rw [hb6] <;> rfl)⟩
 clear E S; intro a w E S
 refine rn 1 E S ?_; clear E S; intro a w E S
 refine cutG 6 37 (.bool (((((decide (x.time = y.time)) && (decide (x.client.k = y.client.k) && (decide (x.client.n = y.client.n) && (x.client.s == y.client.s && true)))) && (decide (x.type = y.type))) && (decide (x.model = y.model))) && (decide (x.key.k = y.key.k) && (decide (x.key.n = y.key.n) && (x.key.s == y.key.s && true))))) E S ?_ ?_
 ·refine bsp E (t := 31) rfl (fun hb8 => ?_) (fun hb8 => ?_)
  ·have hk9 := nm hb8
   refine rn 4 E S ?_; clear E S; intro a w E S
   refine op_on E rfl rfl hb8 ?_
   refine o_eqA (b := decide (x.key.k = y.key.k) && (decide (x.key.n = y.key.n) && (x.key.s == y.key.s && true))) E rfl rfl rfl T.q49 rfl rfl ?_; clear E; intro a E
   refine rn 1 E S ?_; clear E S; intro a w E S
   exact ⟨S, E.cutT (by rw [hb8] <;> rfl)⟩
  ·refine rn 6 E S ?_; clear E S; intro a w E S
   exact ⟨S, E.cutT (by rw [hb8] <;> rfl)⟩
 clear E S; intro a w E S
 refine rn 1 E S ?_; clear E S; intro a w E S
 refine cutG 6 44 (.bool ((((((decide (x.time = y.time)) && (decide (x.client.k = y.client.k) && (decide (x.client.n = y.client.n) && (x.client.s == y.client.s && true)))) && (decide (x.type = y.type))) && (decide (x.model = y.model))) && (decide (x.key.k = y.key.k) && (decide (x.key.n = y.key.n) && (x.key.s == y.key.s && true)))) && (decide (x.op = y.op)))) E S ?_ ?_
 ·refine bsp E (t := 38) rfl (fun hb10 => ?_) (fun hb10 => ?_)
  ·have hk11 := nm hb10
   refine rn 6 E S ?_; clear E S; intro a w E S
   exact ⟨S, E.cutT (by rw [hb10] <;> rfl)⟩
  ·refine rn 6 E S ?_; clear E S; intro a w E S
   exact ⟨S, E.cutT (by rw [hb10] <;> rfl)⟩
 clear E S; intro a w E S
 refine rn 1 E S ?_; clear E S; intro a w E S
 refine cutG 6 51 (.bool (((((((decide (x.time = y.time)) && (decide (x.client.k = y.client.k) && (decide (x.client.n = y.client.n) && (x.client.s == y.client.s && true)))) && (decide (x.type = y.type))) && (decide (x.model = y.model))) && (decide (x.key.k = y.key.k) && (decide (x.key.n = y.key.n) && (x.key.s == y.key.s && true)))) && (decide (x.op = y.op))) && (decide (x.args = y.args)))) E S ?_ ?_
 ·refine bsp E (t := 45) rfl (fun hb12 => ?_) (fun hb12 => ?_)
  ·have hk13 := nm hb12
   refine rn 4 E S ?_; clear E S; intro a w E S
   refine op_on E rfl rfl hb12 ?_
   refine o_callP E rfl S rfl rfl T.g39 (c_Same7 x.args _ _ y.args _ _ _ _ S.sub hr1x (by first | omega | (simp; done) | exact parse_args (by first | omega | (simp; omega)) | exact parse_out (by first | omega | (simp; omega))) hr1y (by first | omega | (simp; done) | exact parse_args (by first | omega | (simp; omega)) | exact parse_out (by first | omega | (simp; omega)))) ?_
   clear E S; rintro _ w a S rfl E
   refine rn 1 E S ?_; clear E S; intro a w E S
   exact ⟨S, E.cutT (by rw [hb12] <;> rfl)⟩
  ·refine rn 6 E S ?_; clear E S; intro a w E S
   exact ⟨S, E.cutT (by rw [hb12] <;> rfl)⟩
 clear E S; intro a w E S
 refine rn 1 E S ?_; clear E S; intro a w E S
 refine cutG 6 58 (.bool ((((((((decide (x.time = y.time)) && (decide (x.client.k = y.client.k) && (decide (x.client.n = y.client.n) && (x.client.s == y.client.s && true)))) && (decide (x.type = y.type))) && (decide (x.model = y.model))) && (decide (x.key.k = y.key.k) && (decide (x.key.n = y.key.n) && (x.key.s == y.key.s && true)))) && (decide (x.op = y.op))) && (decide (x.args = y.args))) && (decide (x.out = y.out)))) E S ?_ ?_
 ·refine bsp E (t := 52) rfl (fun hb14 => ?_) (fun hb14 => ?_)
  ·have hk15 := nm hb14
   refine rn 4 E S ?_; clear E S; intro a w E S
   refine op_on E rfl rfl hb14 ?_
   refine o_callP E rfl S rfl rfl T.g39 (c_Same7 x.out _ _ y.out _ _ _ _ S.sub hr2x (by first | omega | (simp; done) | exact parse_args (by first | omega | (simp; omega)) | exact parse_out (by first | omega | (simp; omega))) hr2y (by first | omega | (simp; done) | exact parse_args (by first | omega | (simp; omega)) | exact parse_out (by first | omega | (simp; omega)))) ?_
   clear E S; rintro _ w a S rfl E
   refine rn 1 E S ?_; clear E S; intro a w E S
   exact ⟨S, E.cutT (by rw [hb14] <;> rfl)⟩
  ·refine rn 6 E S ?_; clear E S; intro a w E S
   exact ⟨S, E.cutT (by rw [hb14] <;> rfl)⟩
 clear E S; intro a w E S
 refine rn 1 E S ?_; clear E S; intro a w E S
 refine cutG 6 65 (.bool (((((((((decide (x.time = y.time)) && (decide (x.client.k = y.client.k) && (decide (x.client.n = y.client.n) && (x.client.s == y.client.s && true)))) && (decide (x.type = y.type))) && (decide (x.model = y.model))) && (decide (x.key.k = y.key.k) && (decide (x.key.n = y.key.n) && (x.key.s == y.key.s && true)))) && (decide (x.op = y.op))) && (decide (x.args = y.args))) && (decide (x.out = y.out))) && (x.noted == y.noted))) E S ?_ ?_
 ·refine bsp E (t := 59) rfl (fun hb16 => ?_) (fun hb16 => ?_)
  ·have hk17 := nm hb16
   refine rn 4 E S ?_; clear E S; intro a w E S
   refine op_on E rfl rfl hb16 ?_
   refine o_eqB E rfl rfl rfl Tryd.underlying4 ?_; clear E; intro a E
   refine rn 1 E S ?_; clear E S; intro a w E S
   exact ⟨S, E.cutT (by rw [hb16] <;> rfl)⟩
  ·refine rn 6 E S ?_; clear E S; intro a w E S
   exact ⟨S, E.cutT (by rw [hb16] <;> rfl)⟩
 clear E S; intro a w E S
 refine rn 1 E S ?_; clear E S; intro a w E S
 refine cutG 6 72 (.bool ((((((((((decide (x.time = y.time)) && (decide (x.client.k = y.client.k) && (decide (x.client.n = y.client.n) && (x.client.s == y.client.s && true)))) && (decide (x.type = y.type))) && (decide (x.model = y.model))) && (decide (x.key.k = y.key.k) && (decide (x.key.n = y.key.n) && (x.key.s == y.key.s && true)))) && (decide (x.op = y.op))) && (decide (x.args = y.args))) && (decide (x.out = y.out))) && (x.noted == y.noted)) && (x.note == y.note))) E S ?_ ?_
 ·refine bsp E (t := 66) rfl (fun hb18 => ?_) (fun hb18 => ?_)
  ·have hk19 := nm hb18
   refine rn 6 E S ?_; clear E S; intro a w E S
   exact ⟨S, E.cutT (by rw [hb18] <;> rfl)⟩
  ·refine rn 6 E S ?_; clear E S; intro a w E S
   exact ⟨S, E.cutT (by rw [hb18] <;> rfl)⟩
 clear E S; intro a w E S
 refine rn 1 E S ?_; clear E S; intro a w E S
 apply hK; clear hK K
 refine rt hQ E S ?_
 show _ = _
 simp only [packed, Value.bool.injEq]
 obtain ⟨xt, ⟨xk, xn, xs⟩, xy, xm, ⟨xkk, xkn, xks⟩, xo, xa, xu, xd, xe⟩ := x
 obtain ⟨yt, ⟨yk, yn, ys⟩, yy, ym, ⟨ykk, ykn, yks⟩, yo, ya, yu, yd, ye⟩ := y
 rw [Bool.eq_iff_iff]
 simp only [Bool.and_eq_true, decide_eq_true_eq, beq_iff_eq, Evt.mk.injEq, Val.mk.injEq, and_true, and_assoc]

/-! `incognito/incognitoref11.Same` -/
theorem c_Same11 (xa : List Evt) (Aa : Option Addr) (ca : Nat) (xb : List Evt) (Ab : Option Addr) (cb : Nat) (w0 : World) (G : Heap) (hG : Sub G w0) (hRxa : Rd kEvt G Aa xa) (hlxa : xa.length ≤ 9223372036854775807) (hsxa : ∀ e ∈ xa, EvSm e) (hRxb : Rd kEvt G Ab xb) (hlxb : xb.length ≤ 9223372036854775807) (hsxb : ∀ e ∈ xb, EvSm e):
  Calls Tryd.prog 9 #[.slice Aa xa.length ca, .slice Ab xb.length cb] w0 (Ret w0 G (fun v _ => v = .bool (decide (xa = xb)))) := by
 refine enter Tryd.func9 rfl Tryd.ntmps9 rfl ?_
 intro Q hQ a E
 have S := St.start0 hG
 refine sr fun K hK => ?_
 refine rn 1 E S ?_; clear E S; intro a w E S
 apply hK; clear hK K
 refine wp_seq_k (fun K3 hK2 => ?_)
 refine sr fun K hK => ?_
 refine rn 5 E S ?_; clear E S; intro a w E S
 apply hK; clear hK K
 refine cond E rfl (fun h5r => ?_) (fun h5r => ?_)
 ·have h5 := nm h5r
  refine sr fun K hK => ?_
  refine rn 1 E S ?_; clear E S; intro a w E S
  apply hK; clear hK K
  refine rt hQ E S ?_
  show _ = _
  simp only [packed, Value.bool.injEq]
  exact (decide_eq_false fun e => by subst e; omega).symm
 ·have h5 := nm h5r
  refine wp_skip ?_
  refine hK2 _ _ ?_; clear hK2
  refine wp_seq_k (fun K8 hK7 => ?_)
  refine sr fun K hK => ?_
  refine rn 1 E S ?_; clear E S; intro a w E S
  apply hK; clear hK K
  refine wp_block ?_
  refine loop (fun (i : Nat) a' w' => St w0 G [] G w' [] ∧ Env a' 27 [] [(0, .slice Aa xa.length ca), (1, .slice Ab xb.length cb), (4, .bool false), (5, .int .i64 (i : Int))] ∧ (i ≤ xa.length ∧ xa.take i = xb.take i)) (fun (i : Nat) => xa.length - i) 0 ⟨S, E.cut ⟨rfl, rfl, rfl, rfl, trivial⟩, ⟨Nat.zero_le _, rfl⟩⟩ ?_
  clear E S; intro i a w ⟨S, E, ⟨hi, ht⟩⟩
  refine wp_seq_k (fun K12 hK11 => ?_)
  refine sr fun K hK => ?_
  refine rn 4 E S ?_; clear E S; intro a w E S
  apply hK; clear hK K
  refine cond E rfl (fun h14r => ?_) (fun h14r => ?_)
  ·have h14 := nm h14r
   refine wp_skip ?_
   refine hK11 _ _ ?_; clear hK11
   refine wp_seq_k (fun K16 hK15 => ?_)
   refine wp_block ?_
   refine wp_seq_k (fun K18 hK17 => ?_)
   have hmxa : EvSm (xa.getD i E0) := hsxa _ (by rw [← getD_get (i := i) (xs := xa) (by omega) E0]; exact List.getElem_mem _)
   have hmxb : EvSm (xb.getD i E0) := hsxb _ (by rw [← getD_get (i := i) (xs := xb) (by omega) E0]; exact List.getElem_mem _)
   have hi19 : (i : Int).toNat < xa.length := by omega
   obtain ⟨eb19, eo19, hA19, el19⟩ := Rd.at hRxa (List.getElem?_eq_getElem hi19); cases hA19
   rw [show xa[(i : Int).toNat] = (xa.getD i E0) from getD_get (i := i) hi19 _] at el19
   obtain ⟨A1_19, c1_19, A2_19, c2_19, el19, ha1_19, hr1_19, ha2_19, hr2_19⟩ := kEvt_open el19
   have hi20 : (i : Int).toNat < xb.length := by omega
   obtain ⟨eb20, eo20, hA20, el20⟩ := Rd.at hRxb (List.getElem?_eq_getElem hi20); cases hA20
   rw [show xb[(i : Int).toNat] = (xb.getD i E0) from getD_get (i := i) hi20 _] at el20
   obtain ⟨A1_20, c1_20, A2_20, c2_20, el20, ha1_20, hr1_20, ha2_20, hr2_20⟩ := kEvt_open el20
   refine drawnP [fun v => v = .slice (some ⟨eb19, eo19, none⟩) xa.length ca, fun v => v = .int .i64 (i : Int), fun v => v = .pointer (some ⟨eb19, eo19 + (i : Int).toNat * 14, none⟩), fun v => v = .agg #[.int .i64 ((xa.getD i E0).time), .int .i64 ((xa.getD i E0).client.k), .int .i64 ((xa.getD i E0).client.n), str ((xa.getD i E0).client.s), .int .i64 ((xa.getD i E0).type), .int .i64 ((xa.getD i E0).model), .int .i64 ((xa.getD i E0).key.k), .int .i64 ((xa.getD i E0).key.n), str ((xa.getD i E0).key.s), .int .i64 ((xa.getD i E0).op), .slice A1_19 ((xa.getD i E0).args.length) c1_19, .slice A2_19 ((xa.getD i E0).out.length) c2_19, .bool ((xa.getD i E0).noted), str ((xa.getD i E0).note)], fun v => v = .slice (some ⟨eb20, eo20, none⟩) xb.length cb, fun v => v = .int .i64 (i : Int), fun v => v = .pointer (some ⟨eb20, eo20 + (i : Int).toNat * 14, none⟩), fun v => v = .agg #[.int .i64 ((xb.getD i E0).time), .int .i64 ((xb.getD i E0).client.k), .int .i64 ((xb.getD i E0).client.n), str ((xb.getD i E0).client.s), .int .i64 ((xb.getD i E0).type), .int .i64 ((xb.getD i E0).model), .int .i64 ((xb.getD i E0).key.k), .int .i64 ((xb.getD i E0).key.n), str ((xb.getD i E0).key.s), .int .i64 ((xb.getD i E0).op), .slice A1_20 ((xb.getD i E0).args.length) c1_20, .slice A2_20 ((xb.getD i E0).out.length) c2_20, .bool ((xb.getD i E0).noted), str ((xb.getD i E0).note)], fun v => v = .bool (decide ((xa.getD i E0) = (xb.getD i E0))), fun v => v = .bool (!(decide ((xa.getD i E0) = (xb.getD i E0))))] T.mix rfl E S rfl ⟨?_, ?_, ?_, ?_, ?_, ?_, ?_, ?_, ?_, ?_, trivial⟩ ?_
   ·intro a w G1 hl S E hp
    refine o_move E rfl rfl ?_; clear E; intro a E
    exact ⟨_, _, S, rfl, E.get _ _ rfl, E.defers, rfl⟩
   ·intro a w G1 hl S E hp
    refine o_move E rfl rfl ?_; clear E; intro a E
    exact ⟨_, _, S, rfl, E.get _ _ rfl, E.defers, rfl⟩
   ·intro a w G1 hl S E hp
    obtain ⟨_, e0, rfl⟩ := hp 0 17 _ rfl rfl rfl; replace E := E.add e0
    obtain ⟨_, e1, rfl⟩ := hp 1 18 _ rfl rfl rfl; replace E := E.add e1
    refine o_ixL E rfl rfl rfl T.l22 ⟨by omega, by omega⟩ ?_; clear E; intro a E
    exact ⟨_, _, S, rfl, E.get _ _ rfl, E.defers, rfl⟩
   ·intro a w G1 hl S E hp
    obtain ⟨_, e2, rfl⟩ := hp 2 19 _ rfl rfl rfl; replace E := E.add e2
    refine o_ldIA E rfl S rfl (el19.le hl) T.a52 ?_; clear E; intro a E
    exact ⟨_, _, S, rfl, E.get _ _ rfl, E.defers, rfl⟩
   ·intro a w G1 hl S E hp
    refine o_move E rfl rfl ?_; clear E; intro a E
    exact ⟨_, _, S, rfl, E.get _ _ rfl, E.defers, rfl⟩
   ·intro a w G1 hl S E hp
    refine o_move E rfl rfl ?_; clear E; intro a E
    exact ⟨_, _, S, rfl, E.get _ _ rfl, E.defers, rfl⟩
   ·intro a w G1 hl S E hp
    obtain ⟨_, e4, rfl⟩ := hp 4 21 _ rfl rfl rfl; replace E := E.add e4
    obtain ⟨_, e5, rfl⟩ := hp 5 22 _ rfl rfl rfl; replace E := E.add e5
    refine o_ixL E rfl rfl rfl T.l22 ⟨by omega, by omega⟩ ?_; clear E; intro a E
    exact ⟨_, _, S, rfl, E.get _ _ rfl, E.defers, rfl⟩
   ·intro a w G1 hl S E hp
    obtain ⟨_, e6, rfl⟩ := hp 6 23 _ rfl rfl rfl; replace E := E.add e6
    refine o_ldIA E rfl S rfl (el20.le hl) T.a52 ?_; clear E; intro a E
    exact ⟨_, _, S, rfl, E.get _ _ rfl, E.defers, rfl⟩
   ·intro a w G1 hl S E hp
    obtain ⟨_, e3, rfl⟩ := hp 3 20 _ rfl rfl rfl; replace E := E.add e3
    obtain ⟨_, e7, rfl⟩ := hp 7 24 _ rfl rfl rfl; replace E := E.add e7
    refine o_callP E rfl S rfl rfl T.g21 (c_SameE (xa.getD i E0) (xb.getD i E0) _ _ _ _ _ _ _ _ _ _ S.sub (hr1_19.le hl) (hr2_19.le hl) (by first | omega | exact hmxa.1 | exact hmxa.2 | exact hmxb.1 | exact hmxb.2 | (simp; done) | exact parse_args (by first | omega | (simp; omega)) | exact parse_out (by first | omega | (simp; omega))) (by first | omega | exact hmxa.1 | exact hmxa.2 | exact hmxb.1 | exact hmxb.2 | (simp; done) | exact parse_args (by first | omega | (simp; omega)) | exact parse_out (by first | omega | (simp; omega))) (hr1_20.le hl) (hr2_20.le hl) (by first | omega | exact hmxa.1 | exact hmxa.2 | exact hmxb.1 | exact hmxb.2 | (simp; done) | exact parse_args (by first | omega | (simp; omega)) | exact parse_out (by first | omega | (simp; omega))) (by first | omega | exact hmxa.1 | exact hmxa.2 | exact hmxb.1 | exact hmxb.2 | (simp; done) | exact parse_args (by first | omega | (simp; omega)) | exact parse_out (by first | omega | (simp; omega)))) ?_
    clear E S; rintro _ w a S rfl E
    exact ⟨_, _, S, rfl, E.get _ _ rfl, E.defers, rfl⟩
   ·intro a w G1 hl S E hp
    obtain ⟨_, e8, rfl⟩ := hp 8 25 _ rfl rfl rfl; replace E := E.add e8
    refine o_not E rfl rfl ?_; clear E; intro a E
    exact ⟨_, _, S, rfl, E.get _ _ rfl, E.defers, rfl⟩
   clear E S; intro a w S E hp
   obtain ⟨_, e9, rfl⟩ := hp 9 26 _ rfl rfl; replace E := E.add e9
   clear hp
   refine hK17 _ _ ?_; clear hK17
   refine cond E rfl (fun h21r => ?_) (fun h21r => ?_)
   ·have h21 := nm h21r
    refine sr fun K hK => ?_
    refine rn 1 E S ?_; clear E S; intro a w E S
    apply hK; clear hK K
    refine rt hQ E S ?_
    show _ = _
    simp only [packed, Value.bool.injEq]
    exact (decide_eq_false fun e => by subst e; simp at h21).symm
   ·have h21 := nm h21r
    refine wp_skip ?_
    refine hK15 _ _ ?_; clear hK15
    refine wp_region_lit ?_
    refine rn 3 E S ?_; clear E S; intro a w E S
    have hq : xa.getD i E0 = xb.getD i E0 := by simpa using h21
    have ht2 : xa.take (i + 1) = xb.take (i + 1) := take_snoc_eq7 ht (by omega) (by omega) (by rw [getD_get (xs := xa) (i := i) (by omega) E0, getD_get (xs := xb) (i := i) (by omega) E0]; exact hq)
    exact ⟨i + 1, ⟨S, E.cut ⟨rfl, rfl, rfl, rfl, trivial⟩, ⟨by omega, ht2⟩⟩, by omega⟩
  ·have h14 := nm h14r
   refine wp_exit ?_
   refine hK7 _ _ ?_; clear hK7
   refine sr fun K hK => ?_
   refine rn 1 E S ?_; clear E S; intro a w E S
   apply hK; clear hK K
   refine rt hQ E S ?_
   show _ = _
   simp only [packed, Value.bool.injEq]
   exact (decide_eq_true (by rwa [List.take_of_length_le (by omega), List.take_of_length_le (by omega)] at ht)).symm

/-! `incognito/event.fits` -/
theorem c_fits (ds : List Int) (Ad : Option Addr) (cd : Nat) (l : List Val) (Av : Option Addr) (cv : Nat) (w0 : World) (G : Heap) (hG : Sub G w0) (hg0 : CellsAt G 0 0 [.int .i64 3, .int .i64 1, str []]) (hg1 : CellsAt G 1 0 [.int .i64 3, .int .i64 0, str []]) (hRd : Rd (Knd.int .i64) G Ad ds) (hRv : Rd kVal G Av l) (hdl : ds.length ≤ 1000000) (hwl : ∀ v ∈ l, v.Wf):
  Calls Tryd.prog 79 #[.slice Ad ds.length cd, .slice Av l.length cv] w0 (Ret w0 G (fun v _ => v = .bool (fitsL ds l))) := by
 refine enter Tryd.func79 rfl Tryd.ntmps79 rfl ?_
 intro Q hQ a E
 have S := St.start0 hG
 refine sr fun K hK => ?_
 refine rn 1 E S ?_; clear E S; intro a w E S
 apply hK; clear hK K
 refine wp_seq_k (fun K3 hK2 => ?_)
 refine sr fun K hK => ?_
 refine rn 5 E S ?_; clear E S; intro a w E S
 apply hK; clear hK K
 refine cond E rfl (fun h5r => ?_) (fun h5r => ?_)
 ·have h5 := nm h5r
  refine sr fun K hK => ?_
  refine rn 1 E S ?_; clear E S; intro a w E S
  apply hK; clear hK K
  refine rt hQ E S ?_
  have e : fitsL ds l = false := fitsL_ne (by omega)
  show _ = _
  rw [e]
  rfl
 ·have h5 := nm h5r
  refine wp_skip ?_
  refine hK2 _ _ ?_; clear hK2
  refine wp_seq_k (fun K8 hK7 => ?_)
  refine sr fun K hK => ?_
  have hlen : ds.length = l.length := by omega
  refine rn 3 E S ?_; clear E S; intro a w E S
  apply hK; clear hK K
  refine wp_block ?_
  refine loop (fun (i : Nat) a' w' => St w0 G [] G w' [] ∧ Env a' 27 [] [(0, .slice Ad ds.length cd), (1, .slice Av l.length cv), (12, .slice Ad ds.length cd), (13, .int .i64 (ds.length : Int)), (14, .int .i64 (i : Int))] ∧ (i ≤ ds.length ∧ fitsL ds l = fitsL (ds.drop i) (l.drop i))) (fun (i : Nat) => ds.length - i) 0 ⟨S, E.cut ⟨rfl, rfl, rfl, rfl, rfl, trivial⟩, ⟨Nat.zero_le _, rfl⟩⟩ ?_
  clear E S; intro i a w ⟨S, E, ⟨hi, hfi⟩⟩
  refine sr fun K hK => ?_
  refine rn 1 E S ?_; clear E S; intro a w E S
  apply hK; clear hK K
  refine wp_seq_k (fun K13 hK12 => ?_)
  refine cond E rfl (fun h14r => ?_) (fun h14r => ?_)
  ·have h14 := nm h14r
   refine wp_skip ?_
   refine hK12 _ _ ?_; clear hK12
   refine wp_seq_k (fun K16 hK15 => ?_)
   refine wp_block ?_
   refine sr fun K hK => ?_
   refine rn 1 E S ?_; clear E S; intro a w E S
   have hi17 : (i : Int).toNat < ds.length := by omega
   obtain ⟨eb17, eo17, hA17, el17⟩ := Rd.at hRd (List.getElem?_eq_getElem hi17); cases hA17
   rw [show ds[(i : Int).toNat] = (ds.getD i 0) from getD_get (i := i) hi17 _] at el17
   have el17 := kof_open el17
   refine o_ixL E rfl rfl rfl T.l59 ⟨by omega, by omega⟩ ?_; clear E; intro a E
   refine o_ldI E rfl S rfl T.s3 el17 (j := 0) rfl rfl ?_; clear E; intro a E
   refine rn 2 E S ?_; clear E S; intro a w E S
   apply hK; clear hK K
   refine sr fun K hK => ?_
   refine rn 3 E S ?_; clear E S; intro a w E S
   have hi19 : (i : Int).toNat < l.length := by omega
   obtain ⟨eb19, eo19, hA19, el19⟩ := Rd.at hRv (List.getElem?_eq_getElem hi19); cases hA19
   rw [show l[(i : Int).toNat] = (l.getD i ⟨0, 0, []⟩) from getD_get (i := i) hi19 _] at el19
   have el19 := kVal_open el19
   refine o_ixL E rfl rfl rfl T.l50 ⟨by omega, by omega⟩ ?_; clear E; intro a E
   refine o_ldIA E rfl S rfl el19 T.a49 ?_; clear E; intro a E
   have hvw : (l.getD i ⟨0, 0, []⟩).Wf := hwl _ (val_mem (l := l) (i := i) (by omega))
   refine o_callP E rfl S rfl rfl T.g62 (c_takes (ds.getD i 0) (l.getD i ⟨0, 0, []⟩) _ _ S.sub hg0 hg1 (by assumption)) ?_
   clear E S; rintro _ w a S rfl E
   refine rn 1 E S ?_; clear E S; intro a w E S
   apply hK; clear hK K
   refine cond E rfl (fun h21r => ?_) (fun h21r => ?_)
   ·have h21 := nm h21r
    refine sr fun K hK => ?_
    refine rn 1 E S ?_; clear E S; intro a w E S
    apply hK; clear hK K
    refine rt hQ E S ?_
    have hst := fitsL_step hlen (i := i) (by omega)
    rw [show takesB _ _ = false from by simpa using h21, Bool.false_and] at hst
    have e : fitsL ds l = false := hfi.trans hst
    show _ = _
    rw [e]
    rfl
   ·have h21 := nm h21r
    refine wp_skip ?_
    refine hK15 _ _ ?_; clear hK15
    refine wp_region_lit ?_
    refine rn 2 E S ?_; clear E S; intro a w E S
    have hst := fitsL_step hlen (i := i) (by omega)
    rw [show takesB _ _ = true from by simpa using h21, Bool.true_and] at hst
    exact ⟨i + 1, ⟨S, E.cut ⟨rfl, rfl, rfl, rfl, rfl, trivial⟩, ⟨by omega, hfi.trans hst⟩⟩, by omega⟩
  ·have h14 := nm h14r
   refine wp_exit ?_
   refine hK7 _ _ ?_; clear hK7
   refine sr fun K hK => ?_
   refine rn 1 E S ?_; clear E S; intro a w E S
   apply hK; clear hK K
   refine rt hQ E S ?_
   have e : fitsL ds l = true := hfi.trans (fitsL_end hlen (by omega))
   show _ = _
   rw [e]
   rfl

/-! `incognito/event.noted` -/
theorem c_noted (e : Evt) (A1e : Option Addr) (c1e : Nat) (A2e : Option Addr) (c2e : Nat) (w0 : World) (G : Heap) (hG : Sub G w0) (hr1e : Rd kVal G A1e e.args) (hr2e : Rd kVal G A2e e.out) (hwe : e.Wf):
  Calls Tryd.prog 78 #[.agg #[.int .i64 e.time, .int .i64 e.client.k, .int .i64 e.client.n, str e.client.s, .int .i64 e.type, .int .i64 e.model, .int .i64 e.key.k, .int .i64 e.key.n, str e.key.s, .int .i64 e.op, .slice A1e e.args.length c1e, .slice A2e e.out.length c2e, .bool e.noted, str e.note]] w0 (Ret w0 G (fun v _ => v = .bool (notedB e))) := by
 refine enter Tryd.func78 rfl Tryd.ntmps78 rfl ?_
 intro Q hQ a E
 have S := St.start0 hG
 refine sr fun K hK => ?_
 refine o_bx14 E rfl S rfl ?_; clear E S; intro B1 w a S E
 refine rn 1 E S ?_; clear E S; intro a w E S
 apply hK; clear hK K
 refine sr fun K hK => ?_
 refine rn 5 E S ?_; clear E S; intro a w E S
 refine cutG 5 12 (.bool ((decide ((e.note.length : Int) ≤ 100)) && (!(decide (0 ≤ Lib.indexByte e.note 10))))) E S ?_ ?_
 ·refine bsp E (t := 7) rfl (fun hb2 => ?_) (fun hb2 => ?_)
  ·have hk3 := nm hb2
   refine rn 2 E S ?_; clear E S; intro a w E S
   refine op_on E rfl rfl hb2 ?_
   refine o_callP E rfl S rfl rfl T.g34 (calls_same S.sub (Tryd.strings_Contains_one ⟨List.toArray e.note⟩ 10 _)) ?_
   clear E S; rintro _ w a S rfl E
   refine rn 2 E S ?_; clear E S; intro a w E S
   exact ⟨S, E.cutT (by rw [hb2] <;> rfl)⟩
  ·refine rn 5 E S ?_; clear E S; intro a w E S
   exact ⟨S, E.cutT (by rw [hb2] <;> rfl)⟩
 clear E S; intro a w E S
 refine rn 1 E S ?_; clear E S; intro a w E S
 refine cutG 8 21 (.bool (((decide ((e.note.length : Int) ≤ 100)) && (!(decide (0 ≤ Lib.indexByte e.note 10)))) && (e.noted || (e.note == [])))) E S ?_ ?_
 ·refine bsp E (t := 13) rfl (fun hb4 => ?_) (fun hb4 => ?_)
  ·have hk5 := nm hb4
   refine rn 3 E S ?_; clear E S; intro a w E S
   refine cutG 4 20 (.bool (e.noted || (e.note == []))) E S ?_ ?_
   ·refine bsp E (t := 16) rfl (fun hb6 => ?_) (fun hb6 => ?_)
    ·refine rn 4 E S ?_; clear E S; intro a w E S
     exact ⟨S, E.cutT (by rw [hb6] <;> rfl)⟩
    ·have hk7 := nm hb6
     refine rn 4 E S ?_; clear E S; intro a w E S
     exact ⟨S, E.cutT (by rw [hb6] <;> rfl)⟩
   clear E S; intro a w E S
   refine rn 1 E S ?_; clear E S; intro a w E S
   exact ⟨S, E.cutT (by rw [hb4] <;> rfl)⟩
  ·refine rn 8 E S ?_; clear E S; intro a w E S
   exact ⟨S, E.cutT (by rw [hb4] <;> rfl)⟩
 clear E S; intro a w E S
 refine rn 1 E S ?_; clear E S; intro a w E S
 apply hK; clear hK K
 refine rt hQ E S ?_
 show _ = _
 simp only [packed, Value.bool.injEq]
 rfl

/-! `incognito/event.Right` -/
theorem c_rightE (e : Evt) (A1e : Option Addr) (c1e : Nat) (A2e : Option Addr) (c2e : Nat) (w0 : World) (G : Heap) (hG : Sub G w0) (hg0 : CellsAt G 0 0 [.int .i64 3, .int .i64 1, str []]) (hg1 : CellsAt G 1 0 [.int .i64 3, .int .i64 0, str []]) (hr1e : Rd kVal G A1e e.args) (hr2e : Rd kVal G A2e e.out) (hwe : e.Wf):
  Calls Tryd.prog 75 #[.agg #[.int .i64 e.time, .int .i64 e.client.k, .int .i64 e.client.n, str e.client.s, .int .i64 e.type, .int .i64 e.model, .int .i64 e.key.k, .int .i64 e.key.n, str e.key.s, .int .i64 e.op, .slice A1e e.args.length c1e, .slice A2e e.out.length c2e, .bool e.noted, str e.note]] w0 (Ret w0 G (fun v _ => v = .bool (rightE e))) := by
 have hwc := hwe.client
 have hwk := hwe.key
 have hlo := hwe.outLen
 refine enter Tryd.func75 rfl Tryd.ntmps75 rfl ?_
 intro Q hQ a E
 have S := St.start0 hG
 refine sr fun K hK => ?_
 refine o_bx14 E rfl S rfl ?_; clear E S; intro B1 w a S E
 refine rn 1 E S ?_; clear E S; intro a w E S
 apply hK; clear hK K
 refine wp_seq_k (fun K3 hK2 => ?_)
 refine sr fun K hK => ?_
 refine rn 4 E S ?_; clear E S; intro a w E S
 refine cutG 5 15 (.bool ((decide (e.time < 0)) || (!(takesB 0 e.client)))) E S ?_ ?_
 ·refine bsp E (t := 10) rfl (fun hb4 => ?_) (fun hb4 => ?_)
  ·refine rn 5 E S ?_; clear E S; intro a w E S
   exact ⟨S, E.cutT (by rw [hb4] <;> rfl)⟩
  ·have hk5 := nm hb4
   refine rn 2 E S ?_; clear E S; intro a w E S
   refine op_on E rfl rfl hb4 ?_
   refine o_callP E rfl S rfl rfl T.g62 (c_takes 0 e.client _ _ S.sub hg0 hg1 (by assumption)) ?_
   clear E S; rintro _ w a S rfl E
   refine rn 2 E S ?_; clear E S; intro a w E S
   exact ⟨S, E.cutT (by rw [hb4] <;> rfl)⟩
 clear E S; intro a w E S
 refine rn 1 E S ?_; clear E S; intro a w E S
 refine cutG 4 20 (.bool (((decide (e.time < 0)) || (!(takesB 0 e.client))) || (!(notedB e)))) E S ?_ ?_
 ·refine bsp E (t := 16) rfl (fun hb6 => ?_) (fun hb6 => ?_)
  ·refine rn 4 E S ?_; clear E S; intro a w E S
   exact ⟨S, E.cutT (by rw [hb6] <;> rfl)⟩
  ·have hk7 := nm hb6
   refine rn 1 E S ?_; clear E S; intro a w E S
   refine op_on E rfl rfl hb6 ?_
   refine o_callP E rfl S rfl rfl T.g78 (c_noted e _ _ _ _ _ _ S.sub hr1e hr2e (by first | assumption | exact hwe)) ?_
   clear E S; rintro _ w a S rfl E
   refine rn 2 E S ?_; clear E S; intro a w E S
   exact ⟨S, E.cutT (by rw [hb6] <;> rfl)⟩
 clear E S; intro a w E S
 apply hK; clear hK K
 refine cond E rfl (fun h9r => ?_) (fun h9r => ?_)
 ·have h9 := nm h9r
  refine sr fun K hK => ?_
  refine rn 1 E S ?_; clear E S; intro a w E S
  apply hK; clear hK K
  refine rt hQ E S ?_
  show _ = _
  simp only [packed, Value.bool.injEq]
  unfold rightE
  rw [if_pos h9r]
 ·have h9 := nm h9r
  refine wp_skip ?_
  refine hK2 _ _ ?_; clear hK2
  refine wp_seq_k (fun K12 hK11 => ?_)
  refine sr fun K hK => ?_
  refine rn 3 E S ?_; clear E S; intro a w E S
  apply hK; clear hK K
  refine cond E rfl (fun h14r => ?_) (fun h14r => ?_)
  ·have h14 := nm h14r
   refine sr fun K hK => ?_
   refine rn 4 E S ?_; clear E S; intro a w E S
   refine o_call E rfl S rfl rfl T.g48 (c_args e.model e.op _ _ S.sub) ?_
   clear E S; rintro _ G15 w a S hle15 ⟨vA15, vc15, rfl, hcp15, hR15⟩ E
   replace hg0 := hg0.le hle15
   replace hg1 := hg1.le hle15
   replace hr1e := hr1e.le hle15
   replace hr2e := hr2e.le hle15
   refine rn 5 E S ?_; clear E S; intro a w E S
   apply hK; clear hK K
   refine sr fun K hK => ?_
   refine rn 2 E S ?_; clear E S; intro a w E S
   refine cutG 4 37 (.bool (((argsD e.model e.op).2) && (takesB 1 e.key))) E S ?_ ?_
   ·refine bsp E (t := 33) rfl (fun hb17 => ?_) (fun hb17 => ?_)
    ·have hk18 := nm hb17
     refine rn 2 E S ?_; clear E S; intro a w E S
     refine op_on E rfl rfl hb17 ?_
     refine o_callP E rfl S rfl rfl T.g62 (c_takes 1 e.key _ _ S.sub hg0 hg1 (by assumption)) ?_
     clear E S; rintro _ w a S rfl E
     refine rn 1 E S ?_; clear E S; intro a w E S
     exact ⟨S, E.cutT (by rw [hb17] <;> rfl)⟩
    ·refine rn 4 E S ?_; clear E S; intro a w E S
     exact ⟨S, E.cutT (by rw [hb17] <;> rfl)⟩
   clear E S; intro a w E S
   refine rn 1 E S ?_; clear E S; intro a w E S
   refine cutG 5 43 (.bool ((((argsD e.model e.op).2) && (takesB 1 e.key)) && (fitsL ((argsD e.model e.op).1) e.args))) E S ?_ ?_
   ·refine bsp E (t := 38) rfl (fun hb19 => ?_) (fun hb19 => ?_)
    ·have hk20 := nm hb19
     refine rn 3 E S ?_; clear E S; intro a w E S
     refine op_on E rfl rfl hb19 ?_
     refine o_callP E rfl S rfl rfl T.g79 (c_fits ((argsD e.model e.op).1) _ _ e.args _ _ _ _ S.sub hg0 hg1 hR15 hr1e (by have := args_len e.model e.op; omega) hwe.args) ?_
     clear E S; rintro _ w a S rfl E
     refine rn 1 E S ?_; clear E S; intro a w E S
     exact ⟨S, E.cutT (by rw [hb19] <;> rfl)⟩
    ·refine rn 5 E S ?_; clear E S; intro a w E S
     exact ⟨S, E.cutT (by rw [hb19] <;> rfl)⟩
   clear E S; intro a w E S
   refine rn 1 E S ?_; clear E S; intro a w E S
   refine cutG 5 49 (.bool (((((argsD e.model e.op).2) && (takesB 1 e.key)) && (fitsL ((argsD e.model e.op).1) e.args)) && (decide ((e.out.length : Int) = 0)))) E S ?_ ?_
   ·refine bsp E (t := 44) rfl (fun hb21 => ?_) (fun hb21 => ?_)
    ·have hk22 := nm hb21
     refine rn 5 E S ?_; clear E S; intro a w E S
     exact ⟨S, E.cutT (by rw [hb21] <;> rfl)⟩
    ·refine rn 5 E S ?_; clear E S; intro a w E S
     exact ⟨S, E.cutT (by rw [hb21] <;> rfl)⟩
   clear E S; intro a w E S
   refine rn 1 E S ?_; clear E S; intro a w E S
   apply hK; clear hK K
   refine rt hQ E S ?_
   show _ = _
   simp only [packed, Value.bool.injEq]
   unfold rightE
   rw [if_neg (by simpa using h9)]
   rw [if_pos (by simpa using h14)]
  ·have h14 := nm h14r
   refine wp_skip ?_
   refine hK11 _ _ ?_; clear hK11
   refine wp_seq_k (fun K25 hK24 => ?_)
   refine sr fun K hK => ?_
   refine rn 4 E S ?_; clear E S; intro a w E S
   refine cutG 4 57 (.bool ((!decide (e.model = 0)) || (!decide (e.op = 0)))) E S ?_ ?_
   ·refine bsp E (t := 53) rfl (fun hb26 => ?_) (fun hb26 => ?_)
    ·refine rn 4 E S ?_; clear E S; intro a w E S
     exact ⟨S, E.cutT (by rw [hb26] <;> rfl)⟩
    ·have hk27 := nm hb26
     refine rn 4 E S ?_; clear E S; intro a w E S
     exact ⟨S, E.cutT (by rw [hb26] <;> rfl)⟩
   clear E S; intro a w E S
   refine rn 1 E S ?_; clear E S; intro a w E S
   refine cutG 5 63 (.bool (((!decide (e.model = 0)) || (!decide (e.op = 0))) || (!(decide (e.key.k = 0) && (decide (e.key.n = 0) && (e.key.s == [] && true)))))) E S ?_ ?_
   ·refine bsp E (t := 58) rfl (fun hb28 => ?_) (fun hb28 => ?_)
    ·refine rn 5 E S ?_; clear E S; intro a w E S
     exact ⟨S, E.cutT (by rw [hb28] <;> rfl)⟩
    ·have hk29 := nm hb28
     refine rn 2 E S ?_; clear E S; intro a w E S
     refine op_on E rfl rfl hb28 ?_
     refine o_build (cs := #[.int .i64 0, .int .i64 0, str []]) E rfl rfl (by kernel_rfl) ?_; clear E; intro a E
     refine op_on E rfl rfl hb28 ?_
     refine o_neA (b := decide (e.key.k = 0) && (decide (e.key.n = 0) && (e.key.s == [] && true))) E rfl rfl rfl T.q49 rfl rfl ?_; clear E; intro a E
     refine rn 1 E S ?_; clear E S; intro a w E S
     exact ⟨S, E.cutT (by rw [hb28] <;> rfl)⟩
   clear E S; intro a w E S
   refine rn 1 E S ?_; clear E S; intro a w E S
   refine cutG 5 69 (.bool ((((!decide (e.model = 0)) || (!decide (e.op = 0))) || (!(decide (e.key.k = 0) && (decide (e.key.n = 0) && (e.key.s == [] && true))))) || (decide (0 < (e.args.length : Int))))) E S ?_ ?_
   ·refine bsp E (t := 64) rfl (fun hb30 => ?_) (fun hb30 => ?_)
    ·refine rn 5 E S ?_; clear E S; intro a w E S
     exact ⟨S, E.cutT (by rw [hb30] <;> rfl)⟩
    ·have hk31 := nm hb30
     refine rn 5 E S ?_; clear E S; intro a w E S
     exact ⟨S, E.cutT (by rw [hb30] <;> rfl)⟩
   clear E S; intro a w E S
   apply hK; clear hK K
   refine cond E rfl (fun h33r => ?_) (fun h33r => ?_)
   ·have h33 := nm h33r
    refine sr fun K hK => ?_
    refine rn 1 E S ?_; clear E S; intro a w E S
    apply hK; clear hK K
    refine rt hQ E S ?_
    show _ = _
    simp only [packed, Value.bool.injEq]
    unfold rightE
    rw [if_neg (by simpa using h9)]
    rw [if_neg (by simpa using h14)]
    rw [if_pos (by simpa using h33)]
   ·have h33 := nm h33r
    refine wp_skip ?_
    refine hK24 _ _ ?_; clear hK24
    refine wp_seq_k (fun K36 hK35 => ?_)
    refine sr fun K hK => ?_
    refine rn 4 E S ?_; clear E S; intro a w E S
    apply hK; clear hK K
    refine wp_block ?_
    refine loop (fun (i : Nat) a' w' => St w0 G [] G w' [[(B1, Cells 52 [(0, .int .i64 e.time), (1, .int .i64 e.client.k), (2, .int .i64 e.client.n), (3, str e.client.s), (4, .int .i64 e.type), (5, .int .i64 e.model), (6, .int .i64 e.key.k), (7, .int .i64 e.key.n), (8, str e.key.s), (9, .int .i64 e.op), (10, .slice A1e e.args.length c1e), (11, .slice A2e e.out.length c2e), (12, .bool e.noted), (13, str e.note)])]] ∧ Env a' 100 [] [(1, .pointer (some ⟨B1, 0, none⟩)), (71, .slice A2e e.out.length c2e), (72, .int .i64 (e.out.length : Int)), (73, .int .i64 (i : Int))] ∧ (i ≤ e.out.length ∧ e.out.all rightV = (e.out.drop i).all rightV)) (fun (i : Nat) => e.out.length - i) 0 ⟨S, E.cut ⟨rfl, rfl, rfl, rfl, trivial⟩, ⟨Nat.zero_le _, rfl⟩⟩ ?_
    clear E S; intro i a w ⟨S, E, ⟨hi, hfi⟩⟩
    refine sr fun K hK => ?_
    refine rn 1 E S ?_; clear E S; intro a w E S
    apply hK; clear hK K
    refine wp_seq_k (fun K41 hK40 => ?_)
    refine cond E rfl (fun h42r => ?_) (fun h42r => ?_)
    ·have h42 := nm h42r
     refine wp_skip ?_
     refine hK40 _ _ ?_; clear hK40
     refine wp_seq_k (fun K44 hK43 => ?_)
     refine wp_block ?_
     refine sr fun K hK => ?_
     have hi45 : (i : Int).toNat < e.out.length := by omega
     obtain ⟨eb45, eo45, hA45, el45⟩ := Rd.at hr2e (List.getElem?_eq_getElem hi45); cases hA45
     rw [show e.out[(i : Int).toNat] = (e.out.getD i ⟨0, 0, []⟩) from getD_get (i := i) hi45 _] at el45
     have el45 := kVal_open el45
     refine o_ixL E rfl rfl rfl T.l50 ⟨by omega, by omega⟩ ?_; clear E; intro a E
     refine o_ldIA E rfl S rfl el45 T.a49 ?_; clear E; intro a E
     refine o_allocZ E rfl S ?_; clear E S; intro B6 w a S E
     refine rn 1 E S ?_; clear E S; intro a w E S
     apply hK; clear hK K
     refine sr fun K hK => ?_
     refine rn 1 E S ?_; clear E S; intro a w E S
     have hvw : (e.out.getD i ⟨0, 0, []⟩).Wf := hwe.out _ (val_mem (l := e.out) (i := i) (by omega))
     refine o_callP E rfl S rfl rfl T.g63 (c_right7 (e.out.getD i ⟨0, 0, []⟩) _ _ S.sub hg0 hg1 (by first | assumption | exact hv | (constructor <;> first | assumption | (simp only [I64]; omega) | (simp; omega)))) ?_
     clear E S; rintro _ w a S rfl E
     refine rn 1 E S ?_; clear E S; intro a w E S
     apply hK; clear hK K
     refine cond E rfl (fun h48r => ?_) (fun h48r => ?_)
     ·have h48 := nm h48r
      refine sr fun K hK => ?_
      refine rn 1 E S ?_; clear E S; intro a w E S
      apply hK; clear hK K
      refine rt hQ E S ?_
      show _ = _
      simp only [packed, Value.bool.injEq]
      unfold rightE
      rw [if_neg (by simpa using h9)]
      rw [if_neg (by simpa using h14)]
      rw [if_neg (by simpa using h33)]
      rw [hfi, all_drop (d := ⟨0, 0, []⟩) (by omega), show rightV _ = false from by simpa using h48]
      simp
     ·have h48 := nm h48r
      refine wp_skip ?_
      refine hK43 _ _ ?_; clear hK43
      refine wp_region_lit ?_
      refine rn 2 E S ?_; clear E S; intro a w E S
      replace S := S.drop (M' := [_]) (sub_drop (sub_keep sub_nil))
      have hst := hfi
      rw [all_drop (d := ⟨0, 0, []⟩) (by omega), show rightV _ = true from by simpa using h48, Bool.true_and] at hst
      exact ⟨i + 1, ⟨S, E.cut ⟨rfl, rfl, rfl, rfl, trivial⟩, ⟨by omega, hst⟩⟩, by omega⟩
    ·have h42 := nm h42r
     refine wp_exit ?_
     refine hK35 _ _ ?_; clear hK35
     refine sr fun K hK => ?_
     refine rn 4 E S ?_; clear E S; intro a w E S
     refine cutG 15 99 (.bool ((decide (e.type = 2)) || (((decide (e.type = 3)) || (decide (e.type = 4))) && (decide ((e.out.length : Int) = 0))))) E S ?_ ?_
     ·refine bsp E (t := 84) rfl (fun hb50 => ?_) (fun hb50 => ?_)
      ·refine rn 15 E S ?_; clear E S; intro a w E S
       exact ⟨S, E.cutT (by rw [hb50] <;> rfl)⟩
      ·have hk51 := nm hb50
       refine rn 4 E S ?_; clear E S; intro a w E S
       refine cutG 4 92 (.bool ((decide (e.type = 3)) || (decide (e.type = 4)))) E S ?_ ?_
       ·refine bsp E (t := 88) rfl (fun hb52 => ?_) (fun hb52 => ?_)
        ·refine rn 4 E S ?_; clear E S; intro a w E S
         exact ⟨S, E.cutT (by rw [hb52] <;> rfl)⟩
        ·have hk53 := nm hb52
         refine rn 4 E S ?_; clear E S; intro a w E S
         exact ⟨S, E.cutT (by rw [hb52] <;> rfl)⟩
       clear E S; intro a w E S
       refine rn 1 E S ?_; clear E S; intro a w E S
       refine cutG 5 98 (.bool (((decide (e.type = 3)) || (decide (e.type = 4))) && (decide ((e.out.length : Int) = 0)))) E S ?_ ?_
       ·refine bsp E (t := 93) rfl (fun hb54 => ?_) (fun hb54 => ?_)
        ·have hk55 := nm hb54
         refine rn 5 E S ?_; clear E S; intro a w E S
         exact ⟨S, E.cutT (by rw [hb54] <;> rfl)⟩
        ·refine rn 5 E S ?_; clear E S; intro a w E S
         exact ⟨S, E.cutT (by rw [hb54] <;> rfl)⟩
       clear E S; intro a w E S
       refine rn 1 E S ?_; clear E S; intro a w E S
       exact ⟨S, E.cutT (by rw [hb50] <;> rfl)⟩
     clear E S; intro a w E S
     refine rn 1 E S ?_; clear E S; intro a w E S
     apply hK; clear hK K
     refine rt hQ E S ?_
     show _ = _
     simp only [packed, Value.bool.injEq]
     unfold rightE
     rw [if_neg (by simpa using h9)]
     rw [if_neg (by simpa using h14)]
     rw [if_neg (by simpa using h33)]
     rw [hfi, all_end (by omega)]
     simp

/-! `incognito/incognitoref09.Fits` -/
theorem c_Fits9 (m o : Int) (l : List Val) (Av : Option Addr) (cv : Nat) (w0 : World) (G : Heap) (hG : Sub G w0) (hRv : Rd kVal G Av l) (hll : l.length ≤ 9223372036854775807) (hwl : ∀ v ∈ l, v.Wf):
  Calls Tryd.prog 53 #[.int .i64 m, .int .i64 o, .slice Av l.length cv] w0 (Ret w0 G (fun v _ => v = .bool (fitsR m o l))) := by
 refine enter Tryd.func53 rfl Tryd.ntmps53 rfl ?_
 intro Q hQ a E
 have S := St.start0 hG
 refine sr fun K hK => ?_
 refine rn 1 E S ?_; clear E S; intro a w E S
 apply hK; clear hK K
 refine sr fun K hK => ?_
 refine rn 2 E S ?_; clear E S; intro a w E S
 refine o_call E rfl S rfl rfl T.g45 (c_Find9 m o _ _ S.sub) ?_
 clear E S; rintro _ G2 w a S hle2 ⟨vA2, vc2, rfl, hcp2, hR2⟩ E
 replace hRv := hRv.le hle2
 refine o_allocZ E rfl S ?_; clear E S; intro B7 w a S E
 refine rn 1 E S ?_; clear E S; intro a w E S
 apply hK; clear hK K
 refine wp_seq_k (fun K5 hK4 => ?_)
 refine sr fun K hK => ?_
 refine rn 4 E S ?_; clear E S; intro a w E S
 refine cutG 7 22 (.bool ((!((findS m o).2)) || (!decide ((l.length : Int) = ((doms (findS m o).1.ins).length : Int))))) E S ?_ ?_
 ·refine bsp E (t := 15) rfl (fun hb6 => ?_) (fun hb6 => ?_)
  ·refine rn 7 E S ?_; clear E S; intro a w E S
   exact ⟨S, E.cutT (by rw [hb6] <;> rfl)⟩
  ·have hk7 := nm hb6
   refine rn 7 E S ?_; clear E S; intro a w E S
   exact ⟨S, E.cutT (by rw [hb6] <;> rfl)⟩
 clear E S; intro a w E S
 apply hK; clear hK K
 refine cond E rfl (fun h9r => ?_) (fun h9r => ?_)
 ·have h9 := nm h9r
  refine sr fun K hK => ?_
  refine rn 1 E S ?_; clear E S; intro a w E S
  apply hK; clear hK K
  refine rt hQ E S ?_
  have e : fitsR m o l = false := by
   unfold fitsR
   cases hf : (findS m o).2 with
   | false => rw [argsD_no hf]; rfl
   | true =>
    rw [argsD_yes hf]
    show (true && fitsL (doms (findS m o).1.ins) l) = false
    rw [fitsL_ne (by have := h9; rw [hf] at this; simp at this; omega)]
    rfl
  show _ = _
  rw [e]
  rfl
 ·have h9 := nm h9r
  refine wp_skip ?_
  refine hK4 _ _ ?_; clear hK4
  refine wp_seq_k (fun K12 hK11 => ?_)
  refine sr fun K hK => ?_
  refine rn 1 E S ?_; clear E S; intro a w E S
  apply hK; clear hK K
  refine wp_block ?_
  have hyes : (findS m o).2 = true := h9.1
  have hlen : (doms (findS m o).1.ins).length = l.length := by have := h9.2; omega
  refine loop (fun (i : Nat) a' w' => St w0 G [] G2 w' [[(B7, Cells 99 [(0, .slice vA2 ((doms (findS m o).1.ins).length) vc2), (1, .int .i64 ((findS m o).1.out)), (2, .bool ((findS m o).1.may)), (3, .bool ((findS m o).2))])]] ∧ Env a' 40 [] [(0, .int .i64 m), (1, .int .i64 o), (2, .slice Av l.length cv), (7, .pointer (some ⟨B7, 0, none⟩)), (8, .int .i64 (i : Int))] ∧ (i ≤ l.length ∧ fitsL (doms (findS m o).1.ins) l = fitsL ((doms (findS m o).1.ins).drop i) (l.drop i))) (fun (i : Nat) => l.length - i) 0 ⟨S, E.cut ⟨rfl, rfl, rfl, rfl, rfl, trivial⟩, ⟨Nat.zero_le _, rfl⟩⟩ ?_
  clear E S; intro i a w ⟨S, E, ⟨hi, hfi⟩⟩
  refine wp_seq_k (fun K16 hK15 => ?_)
  refine sr fun K hK => ?_
  refine rn 4 E S ?_; clear E S; intro a w E S
  apply hK; clear hK K
  refine cond E rfl (fun h18r => ?_) (fun h18r => ?_)
  ·have h18 := nm h18r
   refine wp_skip ?_
   refine hK15 _ _ ?_; clear hK15
   refine wp_seq_k (fun K20 hK19 => ?_)
   refine wp_block ?_
   refine wp_seq_k (fun K22 hK21 => ?_)
   have hi23 : (i : Int).toNat < (doms (findS m o).1.ins).length := by omega
   obtain ⟨eb23, eo23, hA23, el23⟩ := Rd.at hR2 (List.getElem?_eq_getElem hi23); cases hA23
   rw [show (doms (findS m o).1.ins)[(i : Int).toNat] = ((doms (findS m o).1.ins).getD i 0) from getD_get (i := i) hi23 _] at el23
   have el23 := kof_open el23
   have hi24 : (i : Int).toNat < l.length := by omega
   obtain ⟨eb24, eo24, hA24, el24⟩ := Rd.at hRv (List.getElem?_eq_getElem hi24); cases hA24
   rw [show l[(i : Int).toNat] = (l.getD i ⟨0, 0, []⟩) from getD_get (i := i) hi24 _] at el24
   have el24 := kVal_open el24
   have hvw : (l.getD i ⟨0, 0, []⟩).Wf := hwl _ (val_mem (l := l) (i := i) (by omega))
   refine drawnP [fun v => v = .pointer (some ⟨B7, 0, none⟩), fun v => v = .slice (some ⟨eb23, eo23, none⟩) ((doms (findS m o).1.ins).length) vc2, fun v => v = .int .i64 (i : Int), fun v => v = .pointer (some ⟨eb23, eo23 + (i : Int).toNat * 1, none⟩), fun v => v = .int .i64 ((doms (findS m o).1.ins).getD i 0), fun v => v = .slice (some ⟨eb24, eo24, none⟩) l.length cv, fun v => v = .int .i64 (i : Int), fun v => v = .pointer (some ⟨eb24, eo24 + (i : Int).toNat * 3, none⟩), fun v => v = .agg #[.int .i64 ((l.getD i ⟨0, 0, []⟩).k), .int .i64 ((l.getD i ⟨0, 0, []⟩).n), str ((l.getD i ⟨0, 0, []⟩).s)], fun v => v = .bool (takesB ((doms (findS m o).1.ins).getD i 0) (l.getD i ⟨0, 0, []⟩)), fun v => v = .bool (!(takesB ((doms (findS m o).1.ins).getD i 0) (l.getD i ⟨0, 0, []⟩)))] T.mix rfl E S rfl ⟨?_, ?_, ?_, ?_, ?_, ?_, ?_, ?_, ?_, ?_, ?_, trivial⟩ ?_
   ·intro a w G1 hl S E hp
    refine o_fld E rfl rfl T.f99_0 ?_; clear E; intro a E
    exact ⟨_, _, S, rfl, E.get _ _ rfl, E.defers, rfl⟩
   ·intro a w G1 hl S E hp
    obtain ⟨_, e0, rfl⟩ := hp 0 29 _ rfl rfl rfl; replace E := E.add e0
    refine o_ld E rfl S rfl T.s59 (.here .here) rfl ?_; clear E; intro a E
    exact ⟨_, _, S, rfl, E.get _ _ rfl, E.defers, rfl⟩
   ·intro a w G1 hl S E hp
    refine o_move E rfl rfl ?_; clear E; intro a E
    exact ⟨_, _, S, rfl, E.get _ _ rfl, E.defers, rfl⟩
   ·intro a w G1 hl S E hp
    obtain ⟨_, e1, rfl⟩ := hp 1 30 _ rfl rfl rfl; replace E := E.add e1
    obtain ⟨_, e2, rfl⟩ := hp 2 31 _ rfl rfl rfl; replace E := E.add e2
    refine o_ixL E rfl rfl rfl T.l59 ⟨by omega, by omega⟩ ?_; clear E; intro a E
    exact ⟨_, _, S, rfl, E.get _ _ rfl, E.defers, rfl⟩
   ·intro a w G1 hl S E hp
    obtain ⟨_, e3, rfl⟩ := hp 3 32 _ rfl rfl rfl; replace E := E.add e3
    refine o_ldI E rfl S rfl T.s3 (el23.le hl) (j := 0) rfl rfl ?_; clear E; intro a E
    exact ⟨_, _, S, rfl, E.get _ _ rfl, E.defers, rfl⟩
   ·intro a w G1 hl S E hp
    refine o_move E rfl rfl ?_; clear E; intro a E
    exact ⟨_, _, S, rfl, E.get _ _ rfl, E.defers, rfl⟩
   ·intro a w G1 hl S E hp
    refine o_move E rfl rfl ?_; clear E; intro a E
    exact ⟨_, _, S, rfl, E.get _ _ rfl, E.defers, rfl⟩
   ·intro a w G1 hl S E hp
    obtain ⟨_, e5, rfl⟩ := hp 5 34 _ rfl rfl rfl; replace E := E.add e5
    obtain ⟨_, e6, rfl⟩ := hp 6 35 _ rfl rfl rfl; replace E := E.add e6
    refine o_ixL E rfl rfl rfl T.l50 ⟨by omega, by omega⟩ ?_; clear E; intro a E
    exact ⟨_, _, S, rfl, E.get _ _ rfl, E.defers, rfl⟩
   ·intro a w G1 hl S E hp
    obtain ⟨_, e7, rfl⟩ := hp 7 36 _ rfl rfl rfl; replace E := E.add e7
    refine o_ldIA E rfl S rfl (el24.le hl) T.a49 ?_; clear E; intro a E
    exact ⟨_, _, S, rfl, E.get _ _ rfl, E.defers, rfl⟩
   ·intro a w G1 hl S E hp
    obtain ⟨_, e4, rfl⟩ := hp 4 33 _ rfl rfl rfl; replace E := E.add e4
    obtain ⟨_, e8, rfl⟩ := hp 8 37 _ rfl rfl rfl; replace E := E.add e8
    refine o_callP E rfl S rfl rfl T.g54 (c_Takes9 ((doms (findS m o).1.ins).getD i 0) (l.getD i ⟨0, 0, []⟩) _ _ S.sub (by first | assumption | exact parse_wf (by omega) | (constructor <;> first | assumption | (simp only [I64]; omega) | (simp; omega)))) ?_
    clear E S; rintro _ w a S rfl E
    exact ⟨_, _, S, rfl, E.get _ _ rfl, E.defers, rfl⟩
   ·intro a w G1 hl S E hp
    obtain ⟨_, e9, rfl⟩ := hp 9 38 _ rfl rfl rfl; replace E := E.add e9
    refine o_not E rfl rfl ?_; clear E; intro a E
    exact ⟨_, _, S, rfl, E.get _ _ rfl, E.defers, rfl⟩
   clear E S; intro a w S E hp
   obtain ⟨_, e10, rfl⟩ := hp 10 39 _ rfl rfl; replace E := E.add e10
   clear hp
   refine hK21 _ _ ?_; clear hK21
   refine cond E rfl (fun h25r => ?_) (fun h25r => ?_)
   ·have h25 := nm h25r
    refine sr fun K hK => ?_
    refine rn 1 E S ?_; clear E S; intro a w E S
    apply hK; clear hK K
    refine rt hQ E S ?_
    have hst := fitsL_step hlen (i := i) (by omega)
    rw [show takesB _ _ = false from by simpa using h25, Bool.false_and] at hst
    have e : fitsR m o l = false := by
     unfold fitsR
     rw [argsD_yes hyes]
     show fitsL (doms (findS m o).1.ins) l = _
     exact hfi.trans hst
    show _ = _
    rw [e]
    rfl
   ·have h25 := nm h25r
    refine wp_skip ?_
    refine hK19 _ _ ?_; clear hK19
    refine wp_region_lit ?_
    refine rn 3 E S ?_; clear E S; intro a w E S
    have hst := fitsL_step hlen (i := i) (by omega)
    rw [show takesB _ _ = true from by simpa using h25, Bool.true_and] at hst
    exact ⟨i + 1, ⟨S, E.cut ⟨rfl, rfl, rfl, rfl, rfl, trivial⟩, ⟨by omega, hfi.trans hst⟩⟩, by omega⟩
  ·have h18 := nm h18r
   refine wp_exit ?_
   refine hK11 _ _ ?_; clear hK11
   refine sr fun K hK => ?_
   refine rn 1 E S ?_; clear E S; intro a w E S
   apply hK; clear hK K
   refine rt hQ E S ?_
   have e : fitsR m o l = true := by
    unfold fitsR
    rw [argsD_yes hyes]
    show fitsL (doms (findS m o).1.ins) l = _
    exact hfi.trans (fitsL_end hlen (by omega))
   show _ = _
   rw [e]
   rfl

/-! `incognito/incognitoref10.Great` -/
theorem c_Great (e : Evt) (A1e : Option Addr) (c1e : Nat) (A2e : Option Addr) (c2e : Nat) (w0 : World) (G : Heap) (hG : Sub G w0) (hr1e : Rd kVal G A1e e.args) (hr2e : Rd kVal G A2e e.out) (hwe : e.Wf):
  Calls Tryd.prog 13 #[.agg #[.int .i64 e.time, .int .i64 e.client.k, .int .i64 e.client.n, str e.client.s, .int .i64 e.type, .int .i64 e.model, .int .i64 e.key.k, .int .i64 e.key.n, str e.key.s, .int .i64 e.op, .slice A1e e.args.length c1e, .slice A2e e.out.length c2e, .bool e.noted, str e.note]] w0 (Ret w0 G (fun v _ => v = .bool (greatE e))) := by
 have hla := hwe.argsLen
 have hlo := hwe.outLen
 refine enter Tryd.func13 rfl Tryd.ntmps13 rfl ?_
 intro Q hQ a E
 have S := St.start0 hG
 refine sr fun K hK => ?_
 refine o_bx14 E rfl S rfl ?_; clear E S; intro B1 w a S E
 refine rn 1 E S ?_; clear E S; intro a w E S
 apply hK; clear hK K
 refine sr fun K hK => ?_
 refine rn 8 E S ?_; clear E S; intro a w E S
 refine o_addW E rfl rfl rfl ?_; clear E; intro a E
 refine rn 3 E S ?_; clear E S; intro a w E S
 refine o_addW E rfl rfl rfl ?_; clear E; intro a E
 refine rn 1 E S ?_; clear E S; intro a w E S
 apply hK; clear hK K
 refine wp_seq_k (fun K4 hK3 => ?_)
 refine sr fun K hK => ?_
 refine rn 1 E S ?_; clear E S; intro a w E S
 apply hK; clear hK K
 refine wp_block ?_
 refine loop (fun (p : Nat × Int) a' w' => St w0 G [] G w' [[(B1, Cells 52 [(0, .int .i64 e.time), (1, .int .i64 e.client.k), (2, .int .i64 e.client.n), (3, str e.client.s), (4, .int .i64 e.type), (5, .int .i64 e.model), (6, .int .i64 e.key.k), (7, .int .i64 e.key.n), (8, str e.key.s), (9, .int .i64 e.op), (10, .slice A1e e.args.length c1e), (11, .slice A2e e.out.length c2e), (12, .bool e.noted), (13, str e.note)])]] ∧ Env a' 63 [] [(1, .pointer (some ⟨B1, 0, none⟩)), (3, .int .i64 p.2), (4, .int .i64 ((p.1 : Nat) : Int))] ∧ (p.1 ≤ e.args.length ∧ (-9223372036854775808 ≤ p.2 ∧ p.2 ≤ 9223372036854775807) ∧ accG (startG e) e.args = accG p.2 (e.args.drop p.1))) (fun (p : Nat × Int) => e.args.length - p.1) (0, (startG e)) ⟨S, E.cut ⟨rfl, rfl, rfl, trivial⟩, ⟨Nat.zero_le _, wr64 _, rfl⟩⟩ ?_
 clear E S; intro p a w ⟨S, E, ⟨hp1, hp2, hp3⟩⟩
 refine wp_seq_k (fun K8 hK7 => ?_)
 refine sr fun K hK => ?_
 refine rn 6 E S ?_; clear E S; intro a w E S
 refine cutG 3 27 (.bool ((decide (((p.1 : Nat) : Int) < (e.args.length : Int))) && (decide (p.2 ≤ 2000)))) E S ?_ ?_
 ·refine bsp E (t := 24) rfl (fun hb9 => ?_) (fun hb9 => ?_)
  ·have hk10 := nm hb9
   refine rn 3 E S ?_; clear E S; intro a w E S
   exact ⟨S, E.cutT (by rw [hb9] <;> rfl)⟩
  ·refine rn 3 E S ?_; clear E S; intro a w E S
   exact ⟨S, E.cutT (by rw [hb9] <;> rfl)⟩
 clear E S; intro a w E S
 apply hK; clear hK K
 refine cond E rfl (fun h12r => ?_) (fun h12r => ?_)
 ·have h12 := nm h12r
  refine wp_skip ?_
  refine hK7 _ _ ?_; clear hK7
  refine wp_seq_k (fun K14 hK13 => ?_)
  refine wp_block ?_
  refine wp_region_lit ?_
  refine rn 5 E S ?_; clear E S; intro a w E S
  have hi15 : ((p.1 : Nat) : Int).toNat < e.args.length := by omega
  obtain ⟨eb15, eo15, hA15, el15⟩ := Rd.at hr1e (List.getElem?_eq_getElem hi15); cases hA15
  rw [show e.args[((p.1 : Nat) : Int).toNat] = (e.args.getD p.1 ⟨0, 0, []⟩) from getD_get (i := p.1) hi15 _] at el15
  have el15 := kVal_open el15
  refine o_ixL E rfl rfl rfl T.l50 ⟨by omega, by omega⟩ ?_; clear E; intro a E
  refine rn 1 E S ?_; clear E S; intro a w E S
  refine o_ldI E rfl S rfl T.s9 el15 (j := 2) rfl rfl ?_; clear E; intro a E
  refine rn 1 E S ?_; clear E S; intro a w E S
  refine o_addW E rfl rfl rfl ?_; clear E; intro a E
  refine rn 1 E S ?_; clear E S; intro a w E S
  refine hK13 _ _ ?_; clear hK13
  refine wp_region_lit ?_
  refine rn 3 E S ?_; clear E S; intro a w E S
  have hst := hp3.trans (accG_step (l := e.args) (i := p.1) (by omega) (by omega))
  exact ⟨(p.1 + 1, IntKind.i64.wrap ((p.2 + 1) + (((e.args.getD p.1 ⟨0, 0, []⟩).s).length : Int))), ⟨S, E.cut ⟨rfl, rfl, rfl, trivial⟩, ⟨by show p.1 + 1 ≤ _; omega, wr64 _, hst⟩⟩, by show e.args.length - (p.1 + 1) < _; omega⟩
 ·have h12 := nm h12r
  refine wp_exit ?_
  refine hK3 _ _ ?_; clear hK3
  refine wp_seq_k (fun K17 hK16 => ?_)
  refine sr fun K hK => ?_
  refine rn 1 E S ?_; clear E S; intro a w E S
  apply hK; clear hK K
  refine wp_block ?_
  refine loop (fun (q : Nat × Int) a' w' => St w0 G [] G w' [[(B1, Cells 52 [(0, .int .i64 e.time), (1, .int .i64 e.client.k), (2, .int .i64 e.client.n), (3, str e.client.s), (4, .int .i64 e.type), (5, .int .i64 e.model), (6, .int .i64 e.key.k), (7, .int .i64 e.key.n), (8, str e.key.s), (9, .int .i64 e.op), (10, .slice A1e e.args.length c1e), (11, .slice A2e e.out.length c2e), (12, .bool e.noted), (13, str e.note)])]] ∧ Env a' 63 [] [(1, .pointer (some ⟨B1, 0, none⟩)), (3, .int .i64 q.2), (5, .int .i64 ((q.1 : Nat) : Int))] ∧ (q.1 ≤ e.out.length ∧ (-9223372036854775808 ≤ q.2 ∧ q.2 ≤ 9223372036854775807) ∧ accG p.2 e.out = accG q.2 (e.out.drop q.1))) (fun (q : Nat × Int) => e.out.length - q.1) (0, p.2) ⟨S, E.cut ⟨rfl, rfl, rfl, trivial⟩, ⟨Nat.zero_le _, hp2, rfl⟩⟩ ?_
  clear E S; intro q a w ⟨S, E, ⟨hq1, hq2, hq3⟩⟩
  refine wp_seq_k (fun K21 hK20 => ?_)
  refine sr fun K hK => ?_
  refine rn 6 E S ?_; clear E S; intro a w E S
  refine cutG 3 48 (.bool ((decide (((q.1 : Nat) : Int) < (e.out.length : Int))) && (decide (q.2 ≤ 2000)))) E S ?_ ?_
  ·refine bsp E (t := 45) rfl (fun hb22 => ?_) (fun hb22 => ?_)
   ·have hk23 := nm hb22
    refine rn 3 E S ?_; clear E S; intro a w E S
    exact ⟨S, E.cutT (by rw [hb22] <;> rfl)⟩
   ·refine rn 3 E S ?_; clear E S; intro a w E S
    exact ⟨S, E.cutT (by rw [hb22] <;> rfl)⟩
  clear E S; intro a w E S
  apply hK; clear hK K
  refine cond E rfl (fun h25r => ?_) (fun h25r => ?_)
  ·have h25 := nm h25r
   refine wp_skip ?_
   refine hK20 _ _ ?_; clear hK20
   refine wp_seq_k (fun K27 hK26 => ?_)
   refine wp_block ?_
   refine wp_region_lit ?_
   refine rn 5 E S ?_; clear E S; intro a w E S
   have hi28 : ((q.1 : Nat) : Int).toNat < e.out.length := by omega
   obtain ⟨eb28, eo28, hA28, el28⟩ := Rd.at hr2e (List.getElem?_eq_getElem hi28); cases hA28
   rw [show e.out[((q.1 : Nat) : Int).toNat] = (e.out.getD q.1 ⟨0, 0, []⟩) from getD_get (i := q.1) hi28 _] at el28
   have el28 := kVal_open el28
   refine o_ixL E rfl rfl rfl T.l50 ⟨by omega, by omega⟩ ?_; clear E; intro a E
   refine rn 1 E S ?_; clear E S; intro a w E S
   refine o_ldI E rfl S rfl T.s9 el28 (j := 2) rfl rfl ?_; clear E; intro a E
   refine rn 1 E S ?_; clear E S; intro a w E S
   refine o_addW E rfl rfl rfl ?_; clear E; intro a E
   refine rn 1 E S ?_; clear E S; intro a w E S
   refine hK26 _ _ ?_; clear hK26
   refine wp_region_lit ?_
   refine rn 3 E S ?_; clear E S; intro a w E S
   have hst := hq3.trans (accG_step (l := e.out) (i := q.1) (by omega) (by omega))
   exact ⟨(q.1 + 1, IntKind.i64.wrap ((q.2 + 1) + (((e.out.getD q.1 ⟨0, 0, []⟩).s).length : Int))), ⟨S, E.cut ⟨rfl, rfl, rfl, trivial⟩, ⟨by show q.1 + 1 ≤ _; omega, wr64 _, hst⟩⟩, by show e.out.length - (q.1 + 1) < _; omega⟩
  ·have h25 := nm h25r
   refine wp_exit ?_
   refine hK16 _ _ ?_; clear hK16
   refine sr fun K hK => ?_
   refine rn 3 E S ?_; clear E S; intro a w E S
   apply hK; clear hK K
   refine rt hQ E S ?_
   show _ = _
   simp only [packed, Value.bool.injEq]
   have e1 : accG (startG e) e.args = p.2 := hp3.trans (accG_end (by have := h12; simp at this; omega))
   have e2 : accG p.2 e.out = q.2 := hq3.trans (accG_end (by have := h25; simp at this; omega))
   unfold greatE
   rw [e1, e2]

/-! `incognito/incognitoref10.Right` -/
theorem c_RightR (e : Evt) (A1e : Option Addr) (c1e : Nat) (A2e : Option Addr) (c2e : Nat) (w0 : World) (G : Heap) (hG : Sub G w0) (hr1e : Rd kVal G A1e e.args) (hr2e : Rd kVal G A2e e.out) (hwe : e.Wf):
  Calls Tryd.prog 40 #[.agg #[.int .i64 e.time, .int .i64 e.client.k, .int .i64 e.client.n, str e.client.s, .int .i64 e.type, .int .i64 e.model, .int .i64 e.key.k, .int .i64 e.key.n, str e.key.s, .int .i64 e.op, .slice A1e e.args.length c1e, .slice A2e e.out.length c2e, .bool e.noted, str e.note]] w0 (Ret w0 G (fun v _ => v = .bool (rightE e))) := by
 have hwc := hwe.client
 have hwk := hwe.key
 have hla := hwe.argsLen
 have hlo := hwe.outLen
 have hlt := hwe.note
 refine enter Tryd.func40 rfl Tryd.ntmps40 rfl ?_
 intro Q hQ a E
 have S := St.start0 hG
 refine sr fun K hK => ?_
 refine o_bx14 E rfl S rfl ?_; clear E S; intro B1 w a S E
 refine rn 1 E S ?_; clear E S; intro a w E S
 apply hK; clear hK K
 refine sr fun K hK => ?_
 refine o_build (cs := #[.int .i64 0, .int .i64 0, str []]) E rfl rfl (by kernel_rfl) ?_; clear E; intro a E
 refine o_allocZ E rfl S ?_; clear E S; intro B3 w a S E
 refine rn 1 E S ?_; clear E S; intro a w E S
 apply hK; clear hK K
 refine wp_seq_k (fun K4 hK3 => ?_)
 refine sr fun K hK => ?_
 refine rn 4 E S ?_; clear E S; intro a w E S
 refine cutG 5 15 (.bool ((decide (e.time < 0)) || (!(nameB e.client)))) E S ?_ ?_
 ·refine bsp E (t := 10) rfl (fun hb5 => ?_) (fun hb5 => ?_)
  ·refine rn 5 E S ?_; clear E S; intro a w E S
   exact ⟨S, E.cutT (by rw [hb5] <;> rfl)⟩
  ·have hk6 := nm hb5
   refine rn 2 E S ?_; clear E S; intro a w E S
   refine op_on E rfl rfl hb5 ?_
   refine o_callP E rfl S rfl rfl T.g24 (c_Name7 e.client _ _ S.sub (by first | assumption | exact parse_wf (by omega) | (constructor <;> first | assumption | (simp only [I64]; omega) | (simp; omega)))) ?_
   clear E S; rintro _ w a S rfl E
   refine rn 2 E S ?_; clear E S; intro a w E S
   exact ⟨S, E.cutT (by rw [hb5] <;> rfl)⟩
 clear E S; intro a w E S
 refine rn 1 E S ?_; clear E S; intro a w E S
 refine cutG 5 21 (.bool (((decide (e.time < 0)) || (!(nameB e.client))) || (decide (100 < (e.note.length : Int))))) E S ?_ ?_
 ·refine bsp E (t := 16) rfl (fun hb7 => ?_) (fun hb7 => ?_)
  ·refine rn 5 E S ?_; clear E S; intro a w E S
   exact ⟨S, E.cutT (by rw [hb7] <;> rfl)⟩
  ·have hk8 := nm hb7
   refine rn 5 E S ?_; clear E S; intro a w E S
   exact ⟨S, E.cutT (by rw [hb7] <;> rfl)⟩
 clear E S; intro a w E S
 refine rn 1 E S ?_; clear E S; intro a w E S
 refine cutG 9 31 (.bool ((((decide (e.time < 0)) || (!(nameB e.client))) || (decide (100 < (e.note.length : Int)))) || ((!e.noted) && (!(e.note == []))))) E S ?_ ?_
 ·refine bsp E (t := 22) rfl (fun hb9 => ?_) (fun hb9 => ?_)
  ·refine rn 9 E S ?_; clear E S; intro a w E S
   exact ⟨S, E.cutT (by rw [hb9] <;> rfl)⟩
  ·have hk10 := nm hb9
   refine rn 4 E S ?_; clear E S; intro a w E S
   refine cutG 4 30 (.bool ((!e.noted) && (!(e.note == [])))) E S ?_ ?_
   ·refine bsp E (t := 26) rfl (fun hb11 => ?_) (fun hb11 => ?_)
    ·have hk12 := nm hb11
     refine rn 4 E S ?_; clear E S; intro a w E S
     exact ⟨S, E.cutT (by rw [hb11] <;> rfl)⟩
    ·refine rn 4 E S ?_; clear E S; intro a w E S
     exact ⟨S, E.cutT (by rw [hb11] <;> rfl)⟩
   clear E S; intro a w E S
   refine rn 1 E S ?_; clear E S; intro a w E S
   exact ⟨S, E.cutT (by rw [hb9] <;> rfl)⟩
 clear E S; intro a w E S
 apply hK; clear hK K
 refine cond E rfl (fun h14r => ?_) (fun h14r => ?_)
 ·have h14 := nm h14r
  refine sr fun K hK => ?_
  refine rn 1 E S ?_; clear E S; intro a w E S
  apply hK; clear hK K
  refine rt hQ E S ?_
  have e1 := head_bad h14r
  show _ = _
  rw [e1]
  rfl
 ·have h14 := nm h14r
  refine wp_skip ?_
  refine hK3 _ _ ?_; clear hK3
  refine wp_seq_k (fun K17 hK16 => ?_)
  refine sr fun K hK => ?_
  refine rn 1 E S ?_; clear E S; intro a w E S
  apply hK; clear hK K
  refine wp_block ?_
  refine loop (fun (i : Nat) a' w' => St w0 G [] G w' [[(B3, Cells 49 [(0, .int .i64 0), (1, .int .i64 0), (2, str [])])], [(B1, Cells 52 [(0, .int .i64 e.time), (1, .int .i64 e.client.k), (2, .int .i64 e.client.n), (3, str e.client.s), (4, .int .i64 e.type), (5, .int .i64 e.model), (6, .int .i64 e.key.k), (7, .int .i64 e.key.n), (8, str e.key.s), (9, .int .i64 e.op), (10, .slice A1e e.args.length c1e), (11, .slice A2e e.out.length c2e), (12, .bool e.noted), (13, str e.note)])]] ∧ Env a' 118 [] [(1, .pointer (some ⟨B1, 0, none⟩)), (3, .pointer (some ⟨B3, 0, none⟩)), (4, .int .i64 (i : Int))] ∧ (∃ hi : i ≤ e.note.length, ∀ j (hj : j < i), ¬ e.note[j]'(by omega) = 10)) (fun (i : Nat) => e.note.length - i) 0 ⟨S, E.cut ⟨rfl, rfl, rfl, trivial⟩, ⟨Nat.zero_le _, fun j hj => absurd hj (Nat.not_lt_zero _)⟩⟩ ?_
  clear E S; intro i a w ⟨S, E, ⟨hi, ha⟩⟩
  refine wp_seq_k (fun K21 hK20 => ?_)
  refine sr fun K hK => ?_
  refine rn 5 E S ?_; clear E S; intro a w E S
  apply hK; clear hK K
  refine cond E rfl (fun h23r => ?_) (fun h23r => ?_)
  ·have h23 := nm h23r
   refine wp_skip ?_
   refine hK20 _ _ ?_; clear hK20
   refine wp_seq_k (fun K25 hK24 => ?_)
   refine wp_block ?_
   refine sr fun K hK => ?_
   refine rn 3 E S ?_; clear E S; intro a w E S
   refine o_index E rfl rfl rfl Tryd.underlying9 (by omega) ?_; clear E; intro a E
   refine rn 1 E S ?_; clear E S; intro a w E S
   apply hK; clear hK K
   refine cond E rfl (fun h27r => ?_) (fun h27r => ?_)
   ·have h27 := nm h27r
    refine sr fun K hK => ?_
    refine rn 1 E S ?_; clear E S; intro a w E S
    apply hK; clear hK K
    refine rt hQ E S ?_
    have e1 : rightE e = false := note_bad (i := i) (by omega) (bAt8 (c := 10) (by omega) (by simpa using h27))
    show _ = _
    rw [e1]
    rfl
   ·have h27 := nm h27r
    refine wp_skip ?_
    refine hK24 _ _ ?_; clear hK24
    refine wp_region_lit ?_
    refine rn 3 E S ?_; clear E S; intro a w E S
    have hb := bNo8 (c := 10) (n := i) (s := e.note) (by omega) (by simpa using h27)
    have ha2 : ∀ j (hj : j < i + 1), ¬ e.note[j]'(by omega) = 10 := by
     intro j hj
     rcases Nat.lt_or_ge j i with h_9 | h_9
     ·exact ha j h_9
     ·obtain rfl : j = i := by omega
      exact hb
    exact ⟨i + 1, ⟨S, E.cut ⟨rfl, rfl, rfl, trivial⟩, ⟨by omega, ha2⟩⟩, by omega⟩
  ·have h23 := nm h23r
   refine wp_exit ?_
   refine hK16 _ _ ?_; clear hK16
   refine wp_seq_k (fun K30 hK29 => ?_)
   refine sr fun K hK => ?_
   refine rn 3 E S ?_; clear E S; intro a w E S
   apply hK; clear hK K
   refine cond E rfl (fun h32r => ?_) (fun h32r => ?_)
   ·have h32 := nm h32r
    refine sr fun K hK => ?_
    refine rn 6 E S ?_; clear E S; intro a w E S
    refine o_callP E rfl S rfl rfl T.g53 (c_Fits9 e.model e.op e.args _ _ _ _ S.sub hr1e hwe.argsLen hwe.args) ?_
    clear E S; rintro _ w a S rfl E
    refine rn 1 E S ?_; clear E S; intro a w E S
    refine cutG 4 58 (.bool ((fitsR e.model e.op e.args) && (nameB e.key))) E S ?_ ?_
    ·refine bsp E (t := 54) rfl (fun hb33 => ?_) (fun hb33 => ?_)
     ·have hk34 := nm hb33
      refine rn 2 E S ?_; clear E S; intro a w E S
      refine op_on E rfl rfl hb33 ?_
      refine o_callP E rfl S rfl rfl T.g24 (c_Name7 e.key _ _ S.sub (by first | assumption | exact parse_wf (by omega) | (constructor <;> first | assumption | (simp only [I64]; omega) | (simp; omega)))) ?_
      clear E S; rintro _ w a S rfl E
      refine rn 1 E S ?_; clear E S; intro a w E S
      exact ⟨S, E.cutT (by rw [hb33] <;> rfl)⟩
     ·refine rn 4 E S ?_; clear E S; intro a w E S
      exact ⟨S, E.cutT (by rw [hb33] <;> rfl)⟩
    clear E S; intro a w E S
    refine rn 1 E S ?_; clear E S; intro a w E S
    refine cutG 5 64 (.bool (((fitsR e.model e.op e.args) && (nameB e.key)) && (decide ((e.out.length : Int) = 0)))) E S ?_ ?_
    ·refine bsp E (t := 59) rfl (fun hb35 => ?_) (fun hb35 => ?_)
     ·have hk36 := nm hb35
      refine rn 5 E S ?_; clear E S; intro a w E S
      exact ⟨S, E.cutT (by rw [hb35] <;> rfl)⟩
     ·refine rn 5 E S ?_; clear E S; intro a w E S
      exact ⟨S, E.cutT (by rw [hb35] <;> rfl)⟩
    clear E S; intro a w E S
    refine rn 1 E S ?_; clear E S; intro a w E S
    apply hK; clear hK K
    refine rt hQ E S ?_
    have hd := head_good h14r (fun j hj => ha j (by omega))
    show _ = _
    simp only [packed, Value.bool.injEq]
    exact (right_one hd (by simpa using h32)).symm
   ·have h32 := nm h32r
    refine wp_skip ?_
    refine hK29 _ _ ?_; clear hK29
    refine wp_seq_k (fun K39 hK38 => ?_)
    refine sr fun K hK => ?_
    refine rn 4 E S ?_; clear E S; intro a w E S
    refine cutG 4 72 (.bool ((decide (e.type < 2)) || (decide (4 < e.type)))) E S ?_ ?_
    ·refine bsp E (t := 68) rfl (fun hb40 => ?_) (fun hb40 => ?_)
     ·refine rn 4 E S ?_; clear E S; intro a w E S
      exact ⟨S, E.cutT (by rw [hb40] <;> rfl)⟩
     ·have hk41 := nm hb40
      refine rn 4 E S ?_; clear E S; intro a w E S
      exact ⟨S, E.cutT (by rw [hb40] <;> rfl)⟩
    clear E S; intro a w E S
    refine rn 1 E S ?_; clear E S; intro a w E S
    refine cutG 4 77 (.bool (((decide (e.type < 2)) || (decide (4 < e.type))) || (!decide (e.model = 0)))) E S ?_ ?_
    ·refine bsp E (t := 73) rfl (fun hb42 => ?_) (fun hb42 => ?_)
     ·refine rn 4 E S ?_; clear E S; intro a w E S
      exact ⟨S, E.cutT (by rw [hb42] <;> rfl)⟩
     ·have hk43 := nm hb42
      refine rn 4 E S ?_; clear E S; intro a w E S
      exact ⟨S, E.cutT (by rw [hb42] <;> rfl)⟩
    clear E S; intro a w E S
    refine rn 1 E S ?_; clear E S; intro a w E S
    refine cutG 4 82 (.bool ((((decide (e.type < 2)) || (decide (4 < e.type))) || (!decide (e.model = 0))) || (!decide (e.op = 0)))) E S ?_ ?_
    ·refine bsp E (t := 78) rfl (fun hb44 => ?_) (fun hb44 => ?_)
     ·refine rn 4 E S ?_; clear E S; intro a w E S
      exact ⟨S, E.cutT (by rw [hb44] <;> rfl)⟩
     ·have hk45 := nm hb44
      refine rn 4 E S ?_; clear E S; intro a w E S
      exact ⟨S, E.cutT (by rw [hb44] <;> rfl)⟩
    clear E S; intro a w E S
    refine rn 1 E S ?_; clear E S; intro a w E S
    refine cutG 5 88 (.bool (((((decide (e.type < 2)) || (decide (4 < e.type))) || (!decide (e.model = 0))) || (!decide (e.op = 0))) || (!(decide (e.key.k = 0) && (decide (e.key.n = 0) && (e.key.s == [] && true)))))) E S ?_ ?_
    ·refine bsp E (t := 83) rfl (fun hb46 => ?_) (fun hb46 => ?_)
     ·refine rn 5 E S ?_; clear E S; intro a w E S
      exact ⟨S, E.cutT (by rw [hb46] <;> rfl)⟩
     ·have hk47 := nm hb46
      refine rn 3 E S ?_; clear E S; intro a w E S
      refine op_on E rfl rfl hb46 ?_
      refine o_neA (b := decide (e.key.k = 0) && (decide (e.key.n = 0) && (e.key.s == [] && true))) E rfl rfl rfl T.q49 rfl rfl ?_; clear E; intro a E
      refine rn 1 E S ?_; clear E S; intro a w E S
      exact ⟨S, E.cutT (by rw [hb46] <;> rfl)⟩
    clear E S; intro a w E S
    refine rn 1 E S ?_; clear E S; intro a w E S
    refine cutG 5 94 (.bool ((((((decide (e.type < 2)) || (decide (4 < e.type))) || (!decide (e.model = 0))) || (!decide (e.op = 0))) || (!(decide (e.key.k = 0) && (decide (e.key.n = 0) && (e.key.s == [] && true))))) || (decide (0 < (e.args.length : Int))))) E S ?_ ?_
    ·refine bsp E (t := 89) rfl (fun hb48 => ?_) (fun hb48 => ?_)
     ·refine rn 5 E S ?_; clear E S; intro a w E S
      exact ⟨S, E.cutT (by rw [hb48] <;> rfl)⟩
     ·have hk49 := nm hb48
      refine rn 5 E S ?_; clear E S; intro a w E S
      exact ⟨S, E.cutT (by rw [hb48] <;> rfl)⟩
    clear E S; intro a w E S
    apply hK; clear hK K
    refine cond E rfl (fun h51r => ?_) (fun h51r => ?_)
    ·have h51 := nm h51r
     refine sr fun K hK => ?_
     refine rn 1 E S ?_; clear E S; intro a w E S
     apply hK; clear hK K
     refine rt hQ E S ?_
     have hd := head_good h14r (fun j hj => ha j (by omega))
     have e1 := right_bad hd (by simpa using h32) h51r
     show _ = _
     rw [e1]
     rfl
    ·have h51 := nm h51r
     refine wp_skip ?_
     refine hK38 _ _ ?_; clear hK38
     refine wp_seq_k (fun K54 hK53 => ?_)
     refine sr fun K hK => ?_
     refine rn 1 E S ?_; clear E S; intro a w E S
     apply hK; clear hK K
     refine wp_block ?_
     replace S := S.drop (M' := [_]) (sub_drop (sub_keep sub_nil))
     refine loop (fun (k : Nat) a' w' => St w0 G [] G w' [[(B1, Cells 52 [(0, .int .i64 e.time), (1, .int .i64 e.client.k), (2, .int .i64 e.client.n), (3, str e.client.s), (4, .int .i64 e.type), (5, .int .i64 e.model), (6, .int .i64 e.key.k), (7, .int .i64 e.key.n), (8, str e.key.s), (9, .int .i64 e.op), (10, .slice A1e e.args.length c1e), (11, .slice A2e e.out.length c2e), (12, .bool e.noted), (13, str e.note)])]] ∧ Env a' 118 [] [(1, .pointer (some ⟨B1, 0, none⟩)), (5, .int .i64 (k : Int))] ∧ (k ≤ e.out.length ∧ e.out.all rightV = (e.out.drop k).all rightV)) (fun (k : Nat) => e.out.length - k) 0 ⟨S, E.cut ⟨rfl, rfl, trivial⟩, ⟨Nat.zero_le _, rfl⟩⟩ ?_
     clear E S; intro k a w ⟨S, E, ⟨hk, hfi⟩⟩
     refine wp_seq_k (fun K58 hK57 => ?_)
     refine sr fun K hK => ?_
     refine rn 5 E S ?_; clear E S; intro a w E S
     apply hK; clear hK K
     refine cond E rfl (fun h60r => ?_) (fun h60r => ?_)
     ·have h60 := nm h60r
      refine wp_skip ?_
      refine hK57 _ _ ?_; clear hK57
      refine wp_seq_k (fun K62 hK61 => ?_)
      refine wp_block ?_
      refine sr fun K hK => ?_
      refine rn 3 E S ?_; clear E S; intro a w E S
      have hi63 : (k : Int).toNat < e.out.length := by omega
      obtain ⟨eb63, eo63, hA63, el63⟩ := Rd.at hr2e (List.getElem?_eq_getElem hi63); cases hA63
      rw [show e.out[(k : Int).toNat] = (e.out.getD k ⟨0, 0, []⟩) from getD_get (i := k) hi63 _] at el63
      have el63 := kVal_open el63
      refine o_ixL E rfl rfl rfl T.l50 ⟨by omega, by omega⟩ ?_; clear E; intro a E
      refine o_ldIA E rfl S rfl el63 T.a49 ?_; clear E; intro a E
      have hvw : (e.out.getD k ⟨0, 0, []⟩).Wf := hwe.out _ (val_mem (l := e.out) (i := k) (by omega))
      refine o_callP E rfl S rfl rfl T.g44 (c_Right7 (e.out.getD k ⟨0, 0, []⟩) _ _ S.sub (by first | assumption | exact hv | (constructor <;> first | assumption | (simp only [I64]; omega) | (simp; omega)))) ?_
      clear E S; rintro _ w a S rfl E
      refine rn 1 E S ?_; clear E S; intro a w E S
      apply hK; clear hK K
      refine cond E rfl (fun h65r => ?_) (fun h65r => ?_)
      ·have h65 := nm h65r
       refine sr fun K hK => ?_
       refine rn 1 E S ?_; clear E S; intro a w E S
       apply hK; clear hK K
       refine rt hQ E S ?_
       have hd := head_good h14r (fun j hj => ha j (by omega))
       have e1 := right_rest hd (by simpa using h32) h51r
       rw [hfi, all_drop (d := ⟨0, 0, []⟩) (by omega), show rightV _ = false from by simpa using h65, Bool.false_and, Bool.false_and] at e1
       show _ = _
       rw [e1]
       rfl
      ·have h65 := nm h65r
       refine wp_skip ?_
       refine hK61 _ _ ?_; clear hK61
       refine wp_region_lit ?_
       refine rn 3 E S ?_; clear E S; intro a w E S
       have hst := hfi
       rw [all_drop (d := ⟨0, 0, []⟩) (by omega), show rightV _ = true from by simpa using h65, Bool.true_and] at hst
       exact ⟨k + 1, ⟨S, E.cut ⟨rfl, rfl, trivial⟩, ⟨by omega, hst⟩⟩, by omega⟩
     ·have h60 := nm h60r
      refine wp_exit ?_
      refine hK53 _ _ ?_; clear hK53
      refine sr fun K hK => ?_
      refine rn 4 E S ?_; clear E S; intro a w E S
      refine cutG 5 117 (.bool ((decide (e.type = 2)) || (decide ((e.out.length : Int) = 0)))) E S ?_ ?_
      ·refine bsp E (t := 112) rfl (fun hb67 => ?_) (fun hb67 => ?_)
       ·refine rn 5 E S ?_; clear E S; intro a w E S
        exact ⟨S, E.cutT (by rw [hb67] <;> rfl)⟩
       ·have hk68 := nm hb67
        refine rn 5 E S ?_; clear E S; intro a w E S
        exact ⟨S, E.cutT (by rw [hb67] <;> rfl)⟩
      clear E S; intro a w E S
      refine rn 1 E S ?_; clear E S; intro a w E S
      apply hK; clear hK K
      refine rt hQ E S ?_
      have hd := head_good h14r (fun j hj => ha j (by omega))
      have e1 := right_rest hd (by simpa using h32) h51r
      rw [hfi, all_end (by omega), Bool.true_and] at e1
      show _ = _
      simp only [packed, Value.bool.injEq]
      exact e1.symm
end Go.Proofs.YtnfadpkhjfillaaDoor.T28
