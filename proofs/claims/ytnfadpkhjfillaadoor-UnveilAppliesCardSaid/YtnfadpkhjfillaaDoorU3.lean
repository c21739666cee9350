/- Own text. -/
import Derived.Test.YtnfadpkhjfillaaDoorU2
set_option linter.unusedVariables false
set_option linter.unusedSimpArgs false
set_option maxRecDepth 100000
set_option maxHeartbeats 4000000
namespace Go.Proofs.YtnfadpkhjfillaaDoor.T28
open Go Go.Proofs.YtnfadpkhjfillaaDoor.X
instance : LZ Tryd.prog 52 [(0, .int .i64 0), (1, .int .i64 0), (2, .int .i64 0), (3, str []), (4, .int .i64 0), (5, .int .i64 0), (6, .int .i64 0), (7, .int .i64 0), (8, str []), (9, .int .i64 0), (10, .slice none 0 0), (11, .slice none 0 0), (12, .bool false), (13, str [])] := ⟨⟨.agg #[.int .i64 0, .int .i64 0, .int .i64 0, str [], .int .i64 0, .int .i64 0, .int .i64 0, .int .i64 0, str [], .int .i64 0, .slice none 0 0, .slice none 0 0, .bool false, str []], by kernel_rfl, ⟨rfl, rfl, rfl, rfl, rfl, rfl, rfl, rfl, rfl, rfl, rfl, rfl, rfl, rfl, trivial⟩⟩⟩
theorem T.f99_1 : fieldOff Tryd.prog 99 1 = some 1 := by kernel_rfl
instance : FO Tryd.prog 99 1 1 := ⟨T.f99_1⟩
theorem T.f99_2 : fieldOff Tryd.prog 99 2 = some 2 := by kernel_rfl
instance : FO Tryd.prog 99 2 2 := ⟨T.f99_2⟩
theorem T.g22 : goFn Tryd.prog 22 = true := by kernel_rfl
theorem T.g40 : goFn Tryd.prog 40 = true := by kernel_rfl
theorem T.g41 : goFn Tryd.prog 41 = true := by kernel_rfl
theorem T.g42 : goFn Tryd.prog 42 = true := by kernel_rfl

theorem altD_eq (i : Nat) : altD i = 4 - (((i : Nat) : Int) % 2) * 2 := by unfold altD; split <;> omega
theorem outs_no {m o : Int} {l : List Val} (h : (findS m o).2 = false ∨ (findS m o).1.out < 0) : outsS m o l = ([], (findS m o).2 && decide ((l.length : Int) = 0)) := by
  unfold outsS
  cases e : (findS m o).2 with
  | false => simp
  | true =>
    rcases h with h | h
    · rw [e] at h; cases h
    · simp [h]
theorem outs_pair {m o : Int} {l : List Val} (h1 : (findS m o).2 = true) (h2 : ¬ (findS m o).1.out < 0) (h3 : (findS m o).1.out = 99) : outsS m o l = pairS l := by
  unfold outsS
  rw [if_neg (by simp [h1]), if_neg h2, if_pos h3]
theorem outs_one {m o : Int} {l : List Val} (h1 : (findS m o).2 = true) (h2 : ¬ (findS m o).1.out < 0) (h3 : ¬ (findS m o).1.out = 99) : outsS m o l = if oneB m o l = true then ([(findS m o).1.out], true) else ([], false) := by
  unfold outsS
  rw [if_neg (by simp [h1]), if_neg h2, if_neg h3]
/-! Histories that are well-formed. -/
theorem evm {h : List Evt} {i : Nat} (hi : i < h.length) : h.getD i E0 ∈ h := by
  rw [List.getD_eq_getElem?_getD, List.getElem?_eq_getElem hi]
  exact List.getElem_mem hi
def lastI (h : List Evt) (c : Val) : Nat → Option Nat
  | 0 => none
  | n + 1 => if (h.getD n E0).client = c then some n else lastI h c n
theorem lastI_lt {h : List Evt} {c : Val} : ∀ {n j : Nat}, lastI h c n = some j → j < n
  | 0, _, e => by cases e
  | n + 1, j, e => by
    unfold lastI at e
    split at e
    · cases e; omega
    · have := lastI_lt e; omega
def lastS (h : List Evt) (i : Nat) : Int := match lastI h (h.getD i E0).client i with
  | some j => ((j : Nat) : Int)
  | none => -1
theorem lastS_rng (h : List Evt) (i : Nat) : -1 ≤ lastS h i ∧ lastS h i < (i : Int) := by
  unfold lastS
  split
  · rename_i j e; have := lastI_lt e; omega
  · omega
def busyB (h : List Evt) (i : Nat) : Bool := decide (0 ≤ lastS h i) && decide ((h.getD (lastS h i).toNat E0).type = 1)
def lostB (h : List Evt) (i : Nat) : Bool := decide (0 ≤ lastS h i) && decide ((h.getD (lastS h i).toNat E0).type = 4)
def outOk (h : List Evt) (i : Nat) : Bool := (outsS (h.getD (lastS h i).toNat E0).model (h.getD (lastS h i).toNat E0).op (h.getD i E0).out).2
def backB (h : List Evt) (i : Nat) : Bool := decide (0 < ((i : Nat) : Int)) && decide ((h.getD i E0).time < (h.getD (((i : Nat) : Int) - 1).toNat E0).time)
def wrongS (h : List Evt) (i : Nat) : Int :=
  if 4096 ≤ ((i : Nat) : Int) then 5
  else if rightE (h.getD i E0) = false then 2
  else if backB h i = true then 4
  else if (h.getD i E0).type = 1 then (if (busyB h i || lostB h i) = true then 4 else 0)
  else if busyB h i = false then 4
  else if (h.getD i E0).type = 2 then (if outOk h i = false then 4 else 0)
  else 0
def checkS (h : List Evt) : Int × Int := match (List.range h.length).find? (fun i => !decide (wrongS h i = 0)) with
  | some i => (wrongS h i, ((i : Nat) : Int) + 1)
  | none => (0, 0)
theorem check_bad {h : List Evt} {i : Nat} (hi : i < h.length) (h1 : ∀ j, j < i → wrongS h j = 0) (h2 : ¬ wrongS h i = 0) : checkS h = (wrongS h i, ((i : Nat) : Int) + 1) := by
  unfold checkS
  rw [List.find?_range_eq_some.2 ⟨by simp [h2], List.mem_range.2 hi, fun j hj => by simp [h1 j hj]⟩]
theorem check_good {h : List Evt} (h1 : ∀ j, j < h.length → wrongS h j = 0) : checkS h = (0, 0) := by
  unfold checkS
  rw [List.find?_range_eq_none.2 fun j hj => by simp [h1 j hj]]
/-! `incognito/incognitoref09.Outs` -/
theorem c_Outs9 (m o : Int) (l : List Val) (A : Option Addr) (c : Nat) (w0 : World) (G : Heap) (hG : Sub G w0) (hR : Rd kVal G A l) (hl : l.length ≤ 1000000) (hw : ∀ v ∈ l, v.Wf):
  Calls Tryd.prog 42 #[.int .i64 m, .int .i64 o, .slice A l.length c] w0 (Ret w0 G (fun v G' => ∃ A c, v = .tuple #[.slice A (outsS m o l).1.length c, .bool (outsS m o l).2] ∧ (outsS m o l).1.length ≤ c ∧ Rd (Knd.int .i64) G' A (outsS m o l).1)) := by
 refine enter Tryd.func42 rfl Tryd.ntmps42 rfl ?_
 intro Q hQ a E
 have S := St.start0 hG
 refine sr fun K hK => ?_
 refine rn 2 E S ?_; clear E S; intro a w E S
 apply hK; clear hK K
 refine sr fun K hK => ?_
 refine rn 2 E S ?_; clear E S; intro a w E S
 refine o_call E rfl S rfl rfl T.g45 (c_Find9 m o _ _ S.sub) ?_
 clear E S; rintro _ G2 w a S hle2 ⟨vA2, vc2, rfl, hcp2, hR2⟩ E
 replace hR := hR.le hle2
 refine o_allocZ E rfl S ?_; clear E S; intro B8 w a S E
 refine rn 1 E S ?_; clear E S; intro a w E S
 apply hK; clear hK K
 refine wp_seq_k (fun K5 hK4 => ?_)
 refine sr fun K hK => ?_
 refine rn 4 E S ?_; clear E S; intro a w E S
 refine cutG 4 23 (.bool ((!((findS m o).2)) || (decide (((findS m o).1.out) < 0)))) E S ?_ ?_
 ·refine bsp E (t := 19) rfl (fun hb6 => ?_) (fun hb6 => ?_)
  ·refine rn 4 E S ?_; clear E S; intro a w E S
   exact ⟨S, E.cutT (by rw [hb6] <;> rfl)⟩
  ·have hk7 := nm hb6
   refine rn 4 E S ?_; clear E S; intro a w E S
   exact ⟨S, E.cutT (by rw [hb6] <;> rfl)⟩
 clear E S; intro a w E S
 apply hK; clear hK K
 refine cond E rfl (fun h9r => ?_) (fun h9r => ?_)
 ·have h9 := nm h9r
  refine sr fun K hK => ?_
  refine rn 3 E S ?_; clear E S; intro a w E S
  refine cutG 4 30 (.bool (((findS m o).2) && (decide ((l.length : Int) = 0)))) E S ?_ ?_
  ·refine bsp E (t := 26) rfl (fun hb10 => ?_) (fun hb10 => ?_)
   ·have hk11 := nm hb10
    refine rn 4 E S ?_; clear E S; intro a w E S
    exact ⟨S, E.cutT (by rw [hb10] <;> rfl)⟩
   ·refine rn 4 E S ?_; clear E S; intro a w E S
    exact ⟨S, E.cutT (by rw [hb10] <;> rfl)⟩
  clear E S; intro a w E S
  refine rn 2 E S ?_; clear E S; intro a w E S
  apply hK; clear hK K
  refine rt hQ E S ?_
  have he := outs_no (l := l) (by simpa using h9)
  rw [he]
  exact ⟨_, _, rfl, Nat.le_refl _, .nil⟩
 ·have h9 := nm h9r
  refine wp_skip ?_
  refine hK4 _ _ ?_; clear hK4
  refine sr fun K hK => ?_
  refine rn 1 E S ?_; clear E S; intro a w E S
  apply hK; clear hK K
  refine wp_seq_k (fun K15 hK14 => ?_)
  refine sr fun K hK => ?_
  refine rn 3 E S ?_; clear E S; intro a w E S
  apply hK; clear hK K
  refine cond E rfl (fun h17r => ?_) (fun h17r => ?_)
  ·have h17 := nm h17r
   refine wp_seq_k (fun K19 hK18 => ?_)
   refine sr fun K hK => ?_
   refine rn 1 E S ?_; clear E S; intro a w E S
   apply hK; clear hK K
   refine wp_block ?_
   replace S := S.nilChunk
   have oH22 : X.Own (Knd.int .i64) 3 G2 none 0 ([] : List Int) [] := X.Own.nil
   refine loop (fun (i : Nat) a' w' => ∃ (oA9_1 : Option Addr) (oc9_1 : Nat) (oC9_1 : Chunk), St w0 G [] G2 w' [oC9_1, [(B8, Cells 99 [(0, .slice vA2 ((doms (findS m o).1.ins).length) vc2), (1, .int .i64 ((findS m o).1.out)), (2, .bool ((findS m o).1.may)), (3, .bool ((findS m o).2))])]] ∧ Env a' 84 [] [(2, .slice A l.length c), (8, .pointer (some ⟨B8, 0, none⟩)), (9, .slice oA9_1 ((altL i).length) oc9_1), (10, .int .i64 (i : Int))] ∧ X.Own (Knd.int .i64) 3 G2 oA9_1 oc9_1 (altL i) oC9_1 ∧ (i ≤ l.length ∧ altOk l i = true)) (fun (i : Nat) => l.length - i) 0 ⟨_, _, _, S, E.cut ⟨rfl, rfl, rfl, rfl, trivial⟩, X.Own.nil (K := Knd.int .i64), ⟨Nat.zero_le _, rfl⟩⟩ ?_
   clear E S; intro i a w ⟨oA9_1, oc9_1, oC9_1, S, E, oH9_1, ⟨hi, hok⟩⟩
   refine wp_seq_k (fun K25 hK24 => ?_)
   refine sr fun K hK => ?_
   refine rn 4 E S ?_; clear E S; intro a w E S
   apply hK; clear hK K
   refine cond E rfl (fun h27r => ?_) (fun h27r => ?_)
   ·have h27 := nm h27r
    refine wp_skip ?_
    refine hK24 _ _ ?_; clear hK24
    refine wp_seq_k (fun K29 hK28 => ?_)
    refine wp_block ?_
    refine sr fun K hK => ?_
    refine rn 1 E S ?_; clear E S; intro a w E S
    refine o_remF E rfl rfl rfl (by decide) (Int.tmod_eq_emod_of_nonneg (by omega)) ?_; clear E; intro a E
    refine rn 3 E S ?_; clear E S; intro a w E S
    apply hK; clear hK K
    refine wp_seq_k (fun K32 hK31 => ?_)
    refine sr fun K hK => ?_
    refine rn 2 E S ?_; clear E S; intro a w E S
    have hvw : (l.getD i ⟨0, 0, []⟩).Wf := wf_get0 hw
    refine rn 1 E S ?_; clear E S; intro a w E S
    have hi33 : (i : Int).toNat < l.length := by omega
    obtain ⟨eb33, eo33, hA33, el33⟩ := Rd.at hR (List.getElem?_eq_getElem hi33); cases hA33
    rw [show l[(i : Int).toNat] = (l.getD i ⟨0, 0, []⟩) from getD_get (i := i) hi33 _] at el33
    have el33 := kVal_open el33
    refine o_ixL E rfl rfl rfl T.l50 ⟨by omega, by omega⟩ ?_; clear E; intro a E
    refine o_ldIA E rfl S rfl el33 T.a49 ?_; clear E; intro a E
    refine o_callP E rfl S rfl rfl T.g54 (c_Takes9 (4 - (((i : Int) % 2) * 2)) (l.getD i ⟨0, 0, []⟩) _ _ S.sub (by first | assumption | exact parse_wf (by omega) | (constructor <;> first | assumption | (simp only [I64]; omega) | (simp; omega)))) ?_
    clear E S; rintro _ w a S rfl E
    refine rn 1 E S ?_; clear E S; intro a w E S
    apply hK; clear hK K
    refine cond E rfl (fun h35r => ?_) (fun h35r => ?_)
    ·have h35 := nm h35r
     refine sr fun K hK => ?_
     refine rn 2 E S ?_; clear E S; intro a w E S
     apply hK; clear hK K
     refine rt hQ E S ?_
     have hz := h9r
     rw [Bool.or_eq_false_iff] at hz
     have h_1 : (findS m o).2 = true := by simpa using hz.1
     have h_2 : ¬ (findS m o).1.out < 0 := by simpa using hz.2
     have he := outs_pair (l := l) h_1 h_2 (by simpa using h17)
     rw [pair_bad (l := l) (altOk_bad (n := i) (by omega) (by rw [altD_eq]; simpa using h35))] at he
     rw [he]
     exact ⟨_, _, rfl, Nat.le_refl _, .nil⟩
    ·have h35 := nm h35r
     refine wp_skip ?_
     refine hK31 _ _ ?_; clear hK31
     refine wp_region_lit ?_
     refine rn 2 E S ?_; clear E S; intro a w E S
     refine o_buildSl (cs := #[.int .i64 (4 - (((i : Int) % 2) * 2))]) [(0, _)] E rfl S rfl T.l59 (by kernel_rfl) ⟨rfl, trivial⟩ ?_; clear E S; intro B53 w a S E
     refine o_appendL (K := (Knd.int .i64)) (ys := [4 - (((i : Int) % 2) * 2)]) (n := 1) E rfl S (.there .here) oH9_1 rfl rfl T.p59 (.here .here) rfl ⟨rfl, rfl⟩ rfl rfl (by (have := altL_len i; first | omega | (simp; omega))) (by (have := altL_len i; first | omega | (simp; omega))) ?_
     clear E S; intro oA37 oc37 oC37 w a S oH37 E
     refine rn 1 E S ?_; clear E S; intro a w E S
     refine hK28 _ _ ?_; clear hK28
     refine wp_region_lit ?_
     refine rn 3 E S ?_; clear E S; intro a w E S
     replace S := S.drop (M' := [_, _]) (sub_keep (sub_drop (sub_keep sub_nil)))
     have hok2 := altOk_step hok (by rw [altD_eq]; simpa using h35)
     have hxs : ((altL i) ++ [4 - (((i : Int) % 2) * 2)]) = altL (i + 1) := by rw [← altD_eq]; exact altL_step i
     rw [hxs] at E oH37; clear hxs
     exact ⟨i + 1, ⟨_, _, _, S, E.cut ⟨rfl, rfl, rfl, rfl, trivial⟩, oH37, ⟨by omega, hok2⟩⟩, by omega⟩
   ·have h27 := nm h27r
    refine wp_exit ?_
    refine hK18 _ _ ?_; clear hK18
    refine wp_seq_k (fun K39 hK38 => ?_)
    refine sr fun K hK => ?_
    refine rn 2 E S ?_; clear E S; intro a w E S
    have hal9 := altL_len i
    refine o_remF E rfl rfl rfl (by decide) (Int.tmod_eq_emod_of_nonneg (by omega)) ?_; clear E; intro a E
    refine rn 1 E S ?_; clear E S; intro a w E S
    apply hK; clear hK K
    refine cond E rfl (fun h41r => ?_) (fun h41r => ?_)
    ·have h41 := nm h41r
     refine sr fun K hK => ?_
     refine rn 2 E S ?_; clear E S; intro a w E S
     apply hK; clear hK K
     refine rt hQ E S ?_
     have hz := h9r
     rw [Bool.or_eq_false_iff] at hz
     have h_1 : (findS m o).2 = true := by simpa using hz.1
     have h_2 : ¬ (findS m o).1.out < 0 := by simpa using hz.2
     have he := outs_pair (l := l) h_1 h_2 (by simpa using h17)
     have hi9 : i = l.length := by omega
     have hal := altL_len i
     rw [pair_odd (l := l) (by have := h41; omega)] at he
     rw [he]
     exact ⟨_, _, rfl, Nat.le_refl _, .nil⟩
    ·have h41 := nm h41r
     refine wp_skip ?_
     refine hK38 _ _ ?_; clear hK38
     refine sr fun K hK => ?_
     refine rn 3 E S ?_; clear E S; intro a w E S
     apply hK; clear hK K
     have hcphR45 := oH9_1.cap
     obtain ⟨G44, hle46, S', hR45⟩ := X.Own.still S .here oH9_1; clear S; have S := S'; clear S'
     replace hR := hR.le hle46
     replace hR2 := hR2.le hle46
     refine rt hQ E S ?_
     have hz := h9r
     rw [Bool.or_eq_false_iff] at hz
     have h_1 : (findS m o).2 = true := by simpa using hz.1
     have h_2 : ¬ (findS m o).1.out < 0 := by simpa using hz.2
     have he := outs_pair (l := l) h_1 h_2 (by simpa using h17)
     have hi9 : i = l.length := by omega
     subst hi9
     have hal := altL_len l.length
     rw [pair_yes (l := l) (by have := h41; omega) hok] at he
     rw [he]
     exact ⟨_, _, rfl, by assumption, by assumption⟩
  ·have h17 := nm h17r
   refine wp_skip ?_
   refine hK14 _ _ ?_; clear hK14
   refine wp_seq_k (fun K48 hK47 => ?_)
   refine sr fun K hK => ?_
   refine rn 3 E S ?_; clear E S; intro a w E S
   apply hK; clear hK K
   refine cond E rfl (fun h50r => ?_) (fun h50r => ?_)
   ·have h50 := nm h50r
    refine sr fun K hK => ?_
    refine rn 2 E S ?_; clear E S; intro a w E S
    apply hK; clear hK K
    refine rt hQ E S ?_
    have hz := h9r
    rw [Bool.or_eq_false_iff] at hz
    have h_1 : (findS m o).2 = true := by simpa using hz.1
    have h_2 : ¬ (findS m o).1.out < 0 := by simpa using hz.2
    have he := outs_one (l := l) h_1 h_2 (by simpa using h17)
    have h1 : oneB m o l = false := by unfold oneB; rw [decide_eq_false (by simpa using h50)]; rfl
    rw [if_neg (by rw [h1]; decide)] at he
    rw [he]
    exact ⟨_, _, rfl, Nat.le_refl _, .nil⟩
   ·have h50 := nm h50r
    refine wp_skip ?_
    refine hK47 _ _ ?_; clear hK47
    refine sr fun K hK => ?_
    refine o_build (cs := #[.int .i64 0, .int .i64 0, str []]) E rfl rfl (by kernel_rfl) ?_; clear E; intro a E
    refine o_allocZ E rfl S ?_; clear E S; intro B12 w a S E
    refine rn 1 E S ?_; clear E S; intro a w E S
    apply hK; clear hK K
    refine wp_seq_k (fun K54 hK53 => ?_)
    refine wp_seq_k (fun K56 hK55 => ?_)
    have hvw : (l.getD 0 ⟨0, 0, []⟩).Wf := wf_get0 hw
    have hi57 : (0 : Int).toNat < l.length := by omega
    obtain ⟨eb57, eo57, hA57, el57⟩ := Rd.at hR (List.getElem?_eq_getElem hi57); cases hA57
    rw [show l[(0 : Int).toNat] = (l.getD 0 ⟨0, 0, []⟩) from getD_get (i := 0) hi57 _] at el57
    have el57 := kVal_open el57
    replace E := E.cut (L' := [(0, .int .i64 m), (1, .int .i64 o), (2, .slice (some ⟨eb57, eo57, none⟩) l.length c), (6, .slice none 0 0), (7, .bool false), (8, .pointer (some ⟨B8, 0, none⟩)), (9, .slice none 0 0), (12, .pointer (some ⟨B12, 0, none⟩)), (13, .int .i64 m), (14, .int .i64 o), (15, .agg #[.slice vA2 ((doms (findS m o).1.ins).length) vc2, .int .i64 ((findS m o).1.out), .bool ((findS m o).1.may), .bool ((findS m o).2)]), (16, .pointer (some ⟨B8, 3, none⟩)), (17, .bool ((findS m o).2)), (18, .bool (!((findS m o).2))), (19, .bool (!((findS m o).2))), (23, .bool ((!((findS m o).2)) || (decide (((findS m o).1.out) < 0)))), (31, .pointer (some ⟨B8, 1, none⟩)), (32, .int .i64 ((findS m o).1.out)), (33, .bool (decide (((findS m o).1.out) = 99))), (60, .slice (some ⟨eb57, eo57, none⟩) l.length c), (61, .int .i64 (l.length : Int)), (62, .bool (!decide ((l.length : Int) = 1))), (63, .agg #[.int .i64 0, .int .i64 0, str []])]) ⟨rfl, rfl, rfl, rfl, rfl, rfl, rfl, rfl, rfl, rfl, rfl, rfl, rfl, rfl, rfl, rfl, rfl, rfl, rfl, rfl, rfl, rfl, rfl, trivial⟩
    refine drawnP [fun v => v = .pointer (some ⟨B8, 1, none⟩), fun v => v = .int .i64 ((findS m o).1.out), fun v => v = .slice (some ⟨eb57, eo57, none⟩) l.length c, fun v => v = .pointer (some ⟨eb57, eo57 + (0 : Int).toNat * 3, none⟩), fun v => v = .agg #[.int .i64 ((l.getD 0 ⟨0, 0, []⟩).k), .int .i64 ((l.getD 0 ⟨0, 0, []⟩).n), str ((l.getD 0 ⟨0, 0, []⟩).s)], fun v => v = .bool (takesB ((findS m o).1.out) (l.getD 0 ⟨0, 0, []⟩)), fun v => v = .bool (takesB ((findS m o).1.out) (l.getD 0 ⟨0, 0, []⟩)), fun v => (takesB ((findS m o).1.out) (l.getD 0 ⟨0, 0, []⟩)) = false → v = .pointer (some ⟨B8, 2, none⟩), fun v => (takesB ((findS m o).1.out) (l.getD 0 ⟨0, 0, []⟩)) = false → v = .bool ((findS m o).1.may), fun v => ((takesB ((findS m o).1.out) (l.getD 0 ⟨0, 0, []⟩)) = false → v = .bool ((findS m o).1.may)) ∧ ((takesB ((findS m o).1.out) (l.getD 0 ⟨0, 0, []⟩)) = true → v = undef), fun v => (takesB ((findS m o).1.out) (l.getD 0 ⟨0, 0, []⟩)) = false → ((findS m o).1.may) = true → v = .slice (some ⟨eb57, eo57, none⟩) l.length c, fun v => (takesB ((findS m o).1.out) (l.getD 0 ⟨0, 0, []⟩)) = false → ((findS m o).1.may) = true → v = .pointer (some ⟨eb57, eo57 + (0 : Int).toNat * 3, none⟩), fun v => (takesB ((findS m o).1.out) (l.getD 0 ⟨0, 0, []⟩)) = false → ((findS m o).1.may) = true → v = .agg #[.int .i64 ((l.getD 0 ⟨0, 0, []⟩).k), .int .i64 ((l.getD 0 ⟨0, 0, []⟩).n), str ((l.getD 0 ⟨0, 0, []⟩).s)], fun v => (takesB ((findS m o).1.out) (l.getD 0 ⟨0, 0, []⟩)) = false → ((findS m o).1.may) = true → v = .agg #[.int .i64 0, .int .i64 0, str []], fun v => (takesB ((findS m o).1.out) (l.getD 0 ⟨0, 0, []⟩)) = false → ((findS m o).1.may) = true → v = .bool (decide (((l.getD 0 ⟨0, 0, []⟩).k) = 0) && (decide (((l.getD 0 ⟨0, 0, []⟩).n) = 0) && (((l.getD 0 ⟨0, 0, []⟩).s) == [] && true))), fun v => (takesB ((findS m o).1.out) (l.getD 0 ⟨0, 0, []⟩)) = false → v = .bool (((findS m o).1.may) && (decide (((l.getD 0 ⟨0, 0, []⟩).k) = 0) && (decide (((l.getD 0 ⟨0, 0, []⟩).n) = 0) && (((l.getD 0 ⟨0, 0, []⟩).s) == [] && true)))), fun v => v = .bool ((takesB ((findS m o).1.out) (l.getD 0 ⟨0, 0, []⟩)) || (((findS m o).1.may) && (decide (((l.getD 0 ⟨0, 0, []⟩).k) = 0) && (decide (((l.getD 0 ⟨0, 0, []⟩).n) = 0) && (((l.getD 0 ⟨0, 0, []⟩).s) == [] && true)))))] T.mix rfl E S rfl ⟨?_, ?_, ?_, ?_, ?_, ?_, ?_, ?_, ?_, ?_, ?_, ?_, ?_, ?_, ?_, ?_, ?_, trivial⟩ ?_
    ·intro a w G1 hl S E hp
     refine o_fld E rfl rfl T.f99_1 ?_; clear E; intro a E
     exact ⟨_, _, S, rfl, E.get _ _ rfl, E.defers, rfl⟩
    ·intro a w G1 hl S E hp
     obtain ⟨_, e0, rfl⟩ := hp 0 64 _ rfl rfl rfl; replace E := E.add e0
     refine o_ld E rfl S rfl T.s3 (.there (.here .here)) rfl ?_; clear E; intro a E
     exact ⟨_, _, S, rfl, E.get _ _ rfl, E.defers, rfl⟩
    ·intro a w G1 hl S E hp
     refine o_move E rfl rfl ?_; clear E; intro a E
     exact ⟨_, _, S, rfl, E.get _ _ rfl, E.defers, rfl⟩
    ·intro a w G1 hl S E hp
     obtain ⟨_, e2, rfl⟩ := hp 2 66 _ rfl rfl rfl; replace E := E.add e2
     refine o_ixL E rfl rfl rfl T.l50 ⟨by omega, by omega⟩ ?_; clear E; intro a E
     exact ⟨_, _, S, rfl, E.get _ _ rfl, E.defers, rfl⟩
    ·intro a w G1 hl S E hp
     obtain ⟨_, e3, rfl⟩ := hp 3 67 _ rfl rfl rfl; replace E := E.add e3
     refine o_ldIA E rfl S rfl (el57.le hl) T.a49 ?_; clear E; intro a E
     exact ⟨_, _, S, rfl, E.get _ _ rfl, E.defers, rfl⟩
    ·intro a w G1 hl S E hp
     obtain ⟨_, e1, rfl⟩ := hp 1 65 _ rfl rfl rfl; replace E := E.add e1
     obtain ⟨_, e4, rfl⟩ := hp 4 68 _ rfl rfl rfl; replace E := E.add e4
     refine o_callP E rfl S rfl rfl T.g54 (c_Takes9 ((findS m o).1.out) (l.getD 0 ⟨0, 0, []⟩) _ _ S.sub (by first | assumption | exact parse_wf (by omega) | (constructor <;> first | assumption | (simp only [I64]; omega) | (simp; omega)))) ?_
     clear E S; rintro _ w a S rfl E
     exact ⟨_, _, S, rfl, E.get _ _ rfl, E.defers, rfl⟩
    ·intro a w G1 hl S E hp
     obtain ⟨_, e5, rfl⟩ := hp 5 69 _ rfl rfl rfl; replace E := E.add e5
     refine o_move E rfl rfl ?_; clear E; intro a E
     exact ⟨_, _, S, rfl, E.get _ _ rfl, E.defers, rfl⟩
    ·intro a w G1 hl S E hp
     refine (Bool.eq_false_or_eq_true (takesB ((findS m o).1.out) (l.getD 0 ⟨0, 0, []⟩))).elim (fun hgd0 => ?_) (fun hgd0 => ?_)
     ·obtain ⟨_, e6, rfl⟩ := hp 6 70 _ rfl rfl rfl; replace E := E.add e6
      refine g_off E rfl rfl rfl hgd0 ?_; clear E; intro a E
      exact ⟨_, _, S, rfl, E.get _ _ rfl, E.defers, fun x0 => absurd (hgd0.symm.trans x0) (by decide)⟩
     ·obtain ⟨_, e6, rfl⟩ := hp 6 70 _ rfl rfl rfl; replace E := E.add e6
      refine op_on E rfl rfl hgd0 ?_
      refine o_fld E rfl rfl T.f99_2 ?_; clear E; intro a E
      exact ⟨_, _, S, rfl, E.get _ _ rfl, E.defers, fun x0 => rfl⟩
    ·intro a w G1 hl S E hp
     refine (Bool.eq_false_or_eq_true (takesB ((findS m o).1.out) (l.getD 0 ⟨0, 0, []⟩))).elim (fun hgd0 => ?_) (fun hgd0 => ?_)
     ·obtain ⟨_, e6, rfl⟩ := hp 6 70 _ rfl rfl rfl; replace E := E.add e6
      refine g_off E rfl rfl rfl hgd0 ?_; clear E; intro a E
      exact ⟨_, _, S, rfl, E.get _ _ rfl, E.defers, fun x0 => absurd (hgd0.symm.trans x0) (by decide)⟩
     ·obtain ⟨_, e6, rfl⟩ := hp 6 70 _ rfl rfl rfl; replace E := E.add e6
      obtain ⟨_, e7, h7v⟩ := hp 7 71 _ rfl rfl rfl; cases h7v hgd0; replace E := E.add e7
      refine op_on E rfl rfl hgd0 ?_
      refine o_ld E rfl S rfl T.s4 (.there (.here .here)) rfl ?_; clear E; intro a E
      exact ⟨_, _, S, rfl, E.get _ _ rfl, E.defers, fun x0 => rfl⟩
    ·intro a w G1 hl S E hp
     refine (Bool.eq_false_or_eq_true (takesB ((findS m o).1.out) (l.getD 0 ⟨0, 0, []⟩))).elim (fun hgd0 => ?_) (fun hgd0 => ?_)
     ·obtain ⟨_, e6, rfl⟩ := hp 6 70 _ rfl rfl rfl; replace E := E.add e6
      refine g_off E rfl rfl rfl hgd0 ?_; clear E; intro a E
      exact ⟨_, _, S, rfl, E.get _ _ rfl, E.defers, ⟨fun x0 => absurd (hgd0.symm.trans x0) (by decide), fun x0 => rfl⟩⟩
     ·obtain ⟨_, e6, rfl⟩ := hp 6 70 _ rfl rfl rfl; replace E := E.add e6
      obtain ⟨_, e8, h8v⟩ := hp 8 72 _ rfl rfl rfl; cases h8v hgd0; replace E := E.add e8
      refine op_on E rfl rfl hgd0 ?_
      refine o_move E rfl rfl ?_; clear E; intro a E
      exact ⟨_, _, S, rfl, E.get _ _ rfl, E.defers, ⟨fun x0 => rfl, fun x0 => absurd (hgd0.symm.trans x0) (by decide)⟩⟩
    ·intro a w G1 hl S E hp
     refine (Bool.eq_false_or_eq_true (takesB ((findS m o).1.out) (l.getD 0 ⟨0, 0, []⟩))).elim (fun hgd0 => ?_) (fun hgd0 => ?_)
     ·obtain ⟨_, eg, hgv⟩ := hp 9 73 _ rfl rfl rfl; cases hgv.2 hgd0; replace E := E.add eg
      refine g_offu E rfl rfl rfl ?_; clear E; intro a E
      exact ⟨_, _, S, rfl, E.get _ _ rfl, E.defers, fun x0 x1 => absurd (hgd0.symm.trans x0) (by decide)⟩
     ·refine (Bool.eq_false_or_eq_true ((findS m o).1.may)).elim (fun hgd1 => ?_) (fun hgd1 => ?_)
      ·obtain ⟨_, e9, h9v⟩ := hp 9 73 _ rfl rfl rfl; cases h9v.1 hgd0; replace E := E.add e9
       refine op_on E rfl rfl hgd1 ?_
       refine o_move E rfl rfl ?_; clear E; intro a E
       exact ⟨_, _, S, rfl, E.get _ _ rfl, E.defers, fun x0 x1 => rfl⟩
      ·obtain ⟨_, e9, h9v⟩ := hp 9 73 _ rfl rfl rfl; cases h9v.1 hgd0; replace E := E.add e9
       refine g_off E rfl rfl rfl hgd1 ?_; clear E; intro a E
       exact ⟨_, _, S, rfl, E.get _ _ rfl, E.defers, fun x0 x1 => absurd (hgd1.symm.trans x1) (by decide)⟩
    ·intro a w G1 hl S E hp
     refine (Bool.eq_false_or_eq_true (takesB ((findS m o).1.out) (l.getD 0 ⟨0, 0, []⟩))).elim (fun hgd0 => ?_) (fun hgd0 => ?_)
     ·obtain ⟨_, eg, hgv⟩ := hp 9 73 _ rfl rfl rfl; cases hgv.2 hgd0; replace E := E.add eg
      refine g_offu E rfl rfl rfl ?_; clear E; intro a E
      exact ⟨_, _, S, rfl, E.get _ _ rfl, E.defers, fun x0 x1 => absurd (hgd0.symm.trans x0) (by decide)⟩
     ·refine (Bool.eq_false_or_eq_true ((findS m o).1.may)).elim (fun hgd1 => ?_) (fun hgd1 => ?_)
      ·obtain ⟨_, e9, h9v⟩ := hp 9 73 _ rfl rfl rfl; cases h9v.1 hgd0; replace E := E.add e9
       obtain ⟨_, e10, h10v⟩ := hp 10 74 _ rfl rfl rfl; cases h10v hgd0 hgd1; replace E := E.add e10
       refine op_on E rfl rfl hgd1 ?_
       refine o_ixL E rfl rfl rfl T.l50 ⟨by omega, by omega⟩ ?_; clear E; intro a E
       exact ⟨_, _, S, rfl, E.get _ _ rfl, E.defers, fun x0 x1 => rfl⟩
      ·obtain ⟨_, e9, h9v⟩ := hp 9 73 _ rfl rfl rfl; cases h9v.1 hgd0; replace E := E.add e9
       refine g_off E rfl rfl rfl hgd1 ?_; clear E; intro a E
       exact ⟨_, _, S, rfl, E.get _ _ rfl, E.defers, fun x0 x1 => absurd (hgd1.symm.trans x1) (by decide)⟩
    ·intro a w G1 hl S E hp
     refine (Bool.eq_false_or_eq_true (takesB ((findS m o).1.out) (l.getD 0 ⟨0, 0, []⟩))).elim (fun hgd0 => ?_) (fun hgd0 => ?_)
     ·obtain ⟨_, eg, hgv⟩ := hp 9 73 _ rfl rfl rfl; cases hgv.2 hgd0; replace E := E.add eg
      refine g_offu E rfl rfl rfl ?_; clear E; intro a E
      exact ⟨_, _, S, rfl, E.get _ _ rfl, E.defers, fun x0 x1 => absurd (hgd0.symm.trans x0) (by decide)⟩
     ·refine (Bool.eq_false_or_eq_true ((findS m o).1.may)).elim (fun hgd1 => ?_) (fun hgd1 => ?_)
      ·obtain ⟨_, e9, h9v⟩ := hp 9 73 _ rfl rfl rfl; cases h9v.1 hgd0; replace E := E.add e9
       obtain ⟨_, e11, h11v⟩ := hp 11 75 _ rfl rfl rfl; cases h11v hgd0 hgd1; replace E := E.add e11
       refine op_on E rfl rfl hgd1 ?_
       refine o_ldIA E rfl S rfl (el57.le hl) T.a49 ?_; clear E; intro a E
       exact ⟨_, _, S, rfl, E.get _ _ rfl, E.defers, fun x0 x1 => rfl⟩
      ·obtain ⟨_, e9, h9v⟩ := hp 9 73 _ rfl rfl rfl; cases h9v.1 hgd0; replace E := E.add e9
       refine g_off E rfl rfl rfl hgd1 ?_; clear E; intro a E
       exact ⟨_, _, S, rfl, E.get _ _ rfl, E.defers, fun x0 x1 => absurd (hgd1.symm.trans x1) (by decide)⟩
    ·intro a w G1 hl S E hp
     refine (Bool.eq_false_or_eq_true (takesB ((findS m o).1.out) (l.getD 0 ⟨0, 0, []⟩))).elim (fun hgd0 => ?_) (fun hgd0 => ?_)
     ·obtain ⟨_, eg, hgv⟩ := hp 9 73 _ rfl rfl rfl; cases hgv.2 hgd0; replace E := E.add eg
      refine g_offu E rfl rfl rfl ?_; clear E; intro a E
      exact ⟨_, _, S, rfl, E.get _ _ rfl, E.defers, fun x0 x1 => absurd (hgd0.symm.trans x0) (by decide)⟩
     ·refine (Bool.eq_false_or_eq_true ((findS m o).1.may)).elim (fun hgd1 => ?_) (fun hgd1 => ?_)
      ·obtain ⟨_, e9, h9v⟩ := hp 9 73 _ rfl rfl rfl; cases h9v.1 hgd0; replace E := E.add e9
       refine op_on E rfl rfl hgd1 ?_
       refine o_ldA E rfl S rfl T.a49 (.here .here) rfl ?_; clear E; intro a E
       exact ⟨_, _, S, rfl, E.get _ _ rfl, E.defers, fun x0 x1 => rfl⟩
      ·obtain ⟨_, e9, h9v⟩ := hp 9 73 _ rfl rfl rfl; cases h9v.1 hgd0; replace E := E.add e9
       refine g_off E rfl rfl rfl hgd1 ?_; clear E; intro a E
       exact ⟨_, _, S, rfl, E.get _ _ rfl, E.defers, fun x0 x1 => absurd (hgd1.symm.trans x1) (by decide)⟩
    ·intro a w G1 hl S E hp
     refine (Bool.eq_false_or_eq_true (takesB ((findS m o).1.out) (l.getD 0 ⟨0, 0, []⟩))).elim (fun hgd0 => ?_) (fun hgd0 => ?_)
     ·obtain ⟨_, eg, hgv⟩ := hp 9 73 _ rfl rfl rfl; cases hgv.2 hgd0; replace E := E.add eg
      refine g_offu E rfl rfl rfl ?_; clear E; intro a E
      exact ⟨_, _, S, rfl, E.get _ _ rfl, E.defers, fun x0 x1 => absurd (hgd0.symm.trans x0) (by decide)⟩
     ·refine (Bool.eq_false_or_eq_true ((findS m o).1.may)).elim (fun hgd1 => ?_) (fun hgd1 => ?_)
      ·obtain ⟨_, e9, h9v⟩ := hp 9 73 _ rfl rfl rfl; cases h9v.1 hgd0; replace E := E.add e9
       obtain ⟨_, e12, h12v⟩ := hp 12 76 _ rfl rfl rfl; cases h12v hgd0 hgd1; replace E := E.add e12
       obtain ⟨_, e13, h13v⟩ := hp 13 77 _ rfl rfl rfl; cases h13v hgd0 hgd1; replace E := E.add e13
       refine op_on E rfl rfl hgd1 ?_
       refine o_eqA (b := decide (((l.getD 0 ⟨0, 0, []⟩).k) = 0) && (decide (((l.getD 0 ⟨0, 0, []⟩).n) = 0) && (((l.getD 0 ⟨0, 0, []⟩).s) == [] && true))) E rfl rfl rfl T.q49 rfl rfl ?_; clear E; intro a E
       exact ⟨_, _, S, rfl, E.get _ _ rfl, E.defers, fun x0 x1 => rfl⟩
      ·obtain ⟨_, e9, h9v⟩ := hp 9 73 _ rfl rfl rfl; cases h9v.1 hgd0; replace E := E.add e9
       refine g_off E rfl rfl rfl hgd1 ?_; clear E; intro a E
       exact ⟨_, _, S, rfl, E.get _ _ rfl, E.defers, fun x0 x1 => absurd (hgd1.symm.trans x1) (by decide)⟩
    ·intro a w G1 hl S E hp
     refine (Bool.eq_false_or_eq_true (takesB ((findS m o).1.out) (l.getD 0 ⟨0, 0, []⟩))).elim (fun hgd0 => ?_) (fun hgd0 => ?_)
     ·obtain ⟨_, e6, rfl⟩ := hp 6 70 _ rfl rfl rfl; replace E := E.add e6
      refine g_off E rfl rfl rfl hgd0 ?_; clear E; intro a E
      exact ⟨_, _, S, rfl, E.get _ _ rfl, E.defers, fun x0 => absurd (hgd0.symm.trans x0) (by decide)⟩
     ·obtain ⟨_, e6, rfl⟩ := hp 6 70 _ rfl rfl rfl; replace E := E.add e6
      refine op_on E rfl rfl hgd0 ?_
      obtain ⟨_, e9, h9v⟩ := hp 9 73 _ rfl rfl rfl; cases h9v.1 hgd0; replace E := E.add e9
      refine (Bool.eq_false_or_eq_true ((findS m o).1.may)).elim (fun hgd1 => ?_) (fun hgd1 => ?_)
      ·obtain ⟨_, e14, h14v⟩ := hp 14 78 _ rfl rfl rfl; cases h14v hgd0 hgd1; replace E := E.add e14
       refine o_pick_t E rfl rfl hgd1 rfl ?_; clear E; intro a E
       exact ⟨_, _, S, rfl, E.get _ _ rfl, E.defers, fun x0 => (by rw [hgd1]; rfl)⟩
      ·refine o_pick_f E rfl rfl hgd1 rfl ?_; clear E; intro a E
       exact ⟨_, _, S, rfl, E.get _ _ rfl, E.defers, fun x0 => (by rw [hgd1]; rfl)⟩
    ·intro a w G1 hl S E hp
     obtain ⟨_, e6, rfl⟩ := hp 6 70 _ rfl rfl rfl; replace E := E.add e6
     refine (Bool.eq_false_or_eq_true (takesB ((findS m o).1.out) (l.getD 0 ⟨0, 0, []⟩))).elim (fun hgd0 => ?_) (fun hgd0 => ?_)
     ·refine o_pick_t E rfl rfl hgd0 rfl ?_; clear E; intro a E
      exact ⟨_, _, S, rfl, E.get _ _ rfl, E.defers, (by rw [hgd0]; rfl)⟩
     ·obtain ⟨_, e15, h15v⟩ := hp 15 79 _ rfl rfl rfl; cases h15v hgd0; replace E := E.add e15
      refine o_pick_f E rfl rfl hgd0 rfl ?_; clear E; intro a E
      exact ⟨_, _, S, rfl, E.get _ _ rfl, E.defers, (by rw [hgd0]; rfl)⟩
    clear E S; intro a w S E hp
    obtain ⟨_, e16, rfl⟩ := hp 16 80 _ rfl rfl; replace E := E.add e16
    clear hp
    refine hK55 _ _ ?_; clear hK55
    refine cond E rfl (fun h58r => ?_) (fun h58r => ?_)
    ·have h58 := nm h58r
     refine sr fun K hK => ?_
     refine rn 2 E S ?_; clear E S; intro a w E S
     refine o_buildSl (cs := #[.int .i64 ((findS m o).1.out)]) [(0, _)] E rfl S rfl T.l59 (by kernel_rfl) ⟨rfl, trivial⟩ ?_; clear E S; intro B83 w a S E
     obtain ⟨G59, hle61, hC60, S'⟩ := S.stillHead (n := 1) rfl; clear S; have S := S'; clear S'
     replace hR := hR.le hle61
     replace hR2 := hR2.le hle61
     have hW62 := Rd.ofCells (K := Knd.int .i64) (xs := [(findS m o).1.out]) hC60 ⟨rfl, rfl⟩
     refine rn 2 E S ?_; clear E S; intro a w E S
     apply hK; clear hK K
     refine rt hQ E S ?_
     have hz := h9r
     rw [Bool.or_eq_false_iff] at hz
     have h_1 : (findS m o).2 = true := by simpa using hz.1
     have h_2 : ¬ (findS m o).1.out < 0 := by simpa using hz.2
     have he := outs_one (l := l) h_1 h_2 (by simpa using h17)
     have h1 : oneB m o l = true := by
      have hz := h58r
      unfold oneB
      rw [same_nil] at hz
      have h_c : (l.length : Int) = 1 := by simpa using h50
      rw [decide_eq_true h_c, Bool.true_and]
      exact hz
     rw [if_pos h1] at he
     rw [he]
     exact ⟨_, _, rfl, Nat.le_refl _, hW62⟩
    ·have h58 := nm h58r
     refine wp_skip ?_
     refine hK53 _ _ ?_; clear hK53
     refine sr fun K hK => ?_
     refine rn 2 E S ?_; clear E S; intro a w E S
     apply hK; clear hK K
     refine rt hQ E S ?_
     have hz := h9r
     rw [Bool.or_eq_false_iff] at hz
     have h_1 : (findS m o).2 = true := by simpa using hz.1
     have h_2 : ¬ (findS m o).1.out < 0 := by simpa using hz.2
     have he := outs_one (l := l) h_1 h_2 (by simpa using h17)
     have h1 : oneB m o l = false := by
      have hz := h58r
      unfold oneB
      rw [same_nil] at hz
      have h_c : (l.length : Int) = 1 := by simpa using h50
      rw [decide_eq_true h_c, Bool.true_and]
      exact hz
     rw [if_neg (by rw [h1]; decide)] at he
     rw [he]
     exact ⟨_, _, rfl, Nat.le_refl _, .nil⟩

/-! `incognito/incognitoref12.last` -/
theorem c_last12 (h : List Evt) (A : Option Addr) (c : Nat) (i : Nat) (w0 : World) (G : Heap) (hG : Sub G w0) (hR : Rd kEvt G A h) (hl : h.length ≤ 9223372036854775807) (hi : i < h.length):
  Calls Tryd.prog 41 #[.slice A h.length c, .int .i64 (i : Int)] w0 (Ret w0 G (fun v _ => v = .int .i64 (lastS h i))) := by
 refine enter Tryd.func41 rfl Tryd.ntmps41 rfl ?_
 intro Q hQ a E
 have S := St.start0 hG
 refine sr fun K hK => ?_
 refine rn 1 E S ?_; clear E S; intro a w E S
 apply hK; clear hK K
 refine wp_seq_k (fun K3 hK2 => ?_)
 refine sr fun K hK => ?_
 refine rn 3 E S ?_; clear E S; intro a w E S
 apply hK; clear hK K
 refine wp_block ?_
 refine loop (fun (j : Nat) a' w' => St w0 G [] G w' [] ∧ Env a' 24 [] [(0, .slice A h.length c), (1, .int .i64 (i : Int)), (5, .int .i64 ((j : Int) - 1))] ∧ (j ≤ i ∧ lastI h (h.getD i E0).client i = lastI h (h.getD i E0).client j)) (fun (j : Nat) => j) i ⟨S, E.cut ⟨rfl, rfl, rfl, trivial⟩, ⟨Nat.le_refl _, rfl⟩⟩ ?_
 clear E S; intro j a w ⟨S, E, ⟨hj, hla⟩⟩
 refine wp_seq_k (fun K7 hK6 => ?_)
 refine sr fun K hK => ?_
 refine rn 2 E S ?_; clear E S; intro a w E S
 apply hK; clear hK K
 refine cond E rfl (fun h9r => ?_) (fun h9r => ?_)
 ·have h9 := nm h9r
  refine wp_skip ?_
  refine hK6 _ _ ?_; clear hK6
  refine wp_seq_k (fun K11 hK10 => ?_)
  refine wp_block ?_
  refine wp_seq_k (fun K13 hK12 => ?_)
  have hi14 : ((j : Int) - 1).toNat < h.length := by omega
  obtain ⟨eb14, eo14, hA14, el14⟩ := Rd.at hR (List.getElem?_eq_getElem hi14); cases hA14
  rw [show h[((j : Int) - 1).toNat] = (h.getD ((j : Int) - 1).toNat E0) from getD_get (i := ((j : Int) - 1).toNat) hi14 _] at el14
  obtain ⟨A1_14, c1_14, A2_14, c2_14, el14, ha1_14, hr1_14, ha2_14, hr2_14⟩ := kEvt_open el14
  have hi15 : (i : Int).toNat < h.length := by omega
  obtain ⟨eb15, eo15, hA15, el15⟩ := Rd.at hR (List.getElem?_eq_getElem hi15); cases hA15
  rw [show h[(i : Int).toNat] = (h.getD i E0) from getD_get (i := i) hi15 _] at el15
  obtain ⟨A1_15, c1_15, A2_15, c2_15, el15, ha1_15, hr1_15, ha2_15, hr2_15⟩ := kEvt_open el15
  refine drawnP [fun v => v = .slice (some ⟨eb14, eo14, none⟩) h.length c, fun v => v = .int .i64 ((j : Int) - 1), fun v => v = .pointer (some ⟨eb14, eo14 + ((j : Int) - 1).toNat * 14, none⟩), fun v => v = .pointer (some ⟨eb14, eo14 + ((j : Int) - 1).toNat * 14 + 1, none⟩), fun v => v = .agg #[.int .i64 ((h.getD ((j : Int) - 1).toNat E0).client.k), .int .i64 ((h.getD ((j : Int) - 1).toNat E0).client.n), str ((h.getD ((j : Int) - 1).toNat E0).client.s)], fun v => v = .slice (some ⟨eb14, eo14, none⟩) h.length c, fun v => v = .int .i64 (i : Int), fun v => v = .pointer (some ⟨eb14, eo14 + (i : Int).toNat * 14, none⟩), fun v => v = .pointer (some ⟨eb14, eo14 + (i : Int).toNat * 14 + 1, none⟩), fun v => v = .agg #[.int .i64 ((h.getD i E0).client.k), .int .i64 ((h.getD i E0).client.n), str ((h.getD i E0).client.s)], fun v => v = .bool (decide (((h.getD ((j : Int) - 1).toNat E0).client.k) = ((h.getD i E0).client.k)) && (decide (((h.getD ((j : Int) - 1).toNat E0).client.n) = ((h.getD i E0).client.n)) && (((h.getD ((j : Int) - 1).toNat E0).client.s) == ((h.getD i E0).client.s) && true)))] T.mix rfl E S rfl ⟨?_, ?_, ?_, ?_, ?_, ?_, ?_, ?_, ?_, ?_, ?_, trivial⟩ ?_
  ·intro a w G1 hl S E hp
   refine o_move E rfl rfl ?_; clear E; intro a E
   exact ⟨_, _, S, rfl, E.get _ _ rfl, E.defers, rfl⟩
  ·intro a w G1 hl S E hp
   refine o_move E rfl rfl ?_; clear E; intro a E
   exact ⟨_, _, S, rfl, E.get _ _ rfl, E.defers, rfl⟩
  ·intro a w G1 hl S E hp
   obtain ⟨_, e0, rfl⟩ := hp 0 12 _ rfl rfl rfl; replace E := E.add e0
   obtain ⟨_, e1, rfl⟩ := hp 1 13 _ rfl rfl rfl; replace E := E.add e1
   refine o_ixL E rfl rfl rfl T.l22 ⟨by omega, by omega⟩ ?_; clear E; intro a E
   exact ⟨_, _, S, rfl, E.get _ _ rfl, E.defers, rfl⟩
  ·intro a w G1 hl S E hp
   obtain ⟨_, e2, rfl⟩ := hp 2 14 _ rfl rfl rfl; replace E := E.add e2
   refine o_fld E rfl rfl T.f52_1 ?_; clear E; intro a E
   exact ⟨_, _, S, rfl, E.get _ _ rfl, E.defers, rfl⟩
  ·intro a w G1 hl S E hp
   obtain ⟨_, e3, rfl⟩ := hp 3 15 _ rfl rfl rfl; replace E := E.add e3
   refine o_ldIA E rfl S rfl ((el14.le hl).part 1 3) T.a49 ?_; clear E; intro a E
   exact ⟨_, _, S, rfl, E.get _ _ rfl, E.defers, rfl⟩
  ·intro a w G1 hl S E hp
   refine o_move E rfl rfl ?_; clear E; intro a E
   exact ⟨_, _, S, rfl, E.get _ _ rfl, E.defers, rfl⟩
  ·intro a w G1 hl S E hp
   refine o_move E rfl rfl ?_; clear E; intro a E
   exact ⟨_, _, S, rfl, E.get _ _ rfl, E.defers, rfl⟩
  ·intro a w G1 hl S E hp
   obtain ⟨_, e5, rfl⟩ := hp 5 17 _ rfl rfl rfl; replace E := E.add e5
   obtain ⟨_, e6, rfl⟩ := hp 6 18 _ rfl rfl rfl; replace E := E.add e6
   refine o_ixL E rfl rfl rfl T.l22 ⟨by omega, by omega⟩ ?_; clear E; intro a E
   exact ⟨_, _, S, rfl, E.get _ _ rfl, E.defers, rfl⟩
  ·intro a w G1 hl S E hp
   obtain ⟨_, e7, rfl⟩ := hp 7 19 _ rfl rfl rfl; replace E := E.add e7
   refine o_fld E rfl rfl T.f52_1 ?_; clear E; intro a E
   exact ⟨_, _, S, rfl, E.get _ _ rfl, E.defers, rfl⟩
  ·intro a w G1 hl S E hp
   obtain ⟨_, e8, rfl⟩ := hp 8 20 _ rfl rfl rfl; replace E := E.add e8
   refine o_ldIA E rfl S rfl ((el15.le hl).part 1 3) T.a49 ?_; clear E; intro a E
   exact ⟨_, _, S, rfl, E.get _ _ rfl, E.defers, rfl⟩
  ·intro a w G1 hl S E hp
   obtain ⟨_, e4, rfl⟩ := hp 4 16 _ rfl rfl rfl; replace E := E.add e4
   obtain ⟨_, e9, rfl⟩ := hp 9 21 _ rfl rfl rfl; replace E := E.add e9
   refine o_eqA (b := decide (((h.getD ((j : Int) - 1).toNat E0).client.k) = ((h.getD i E0).client.k)) && (decide (((h.getD ((j : Int) - 1).toNat E0).client.n) = ((h.getD i E0).client.n)) && (((h.getD ((j : Int) - 1).toNat E0).client.s) == ((h.getD i E0).client.s) && true))) E rfl rfl rfl T.q49 rfl rfl ?_; clear E; intro a E
   exact ⟨_, _, S, rfl, E.get _ _ rfl, E.defers, rfl⟩
  clear E S; intro a w S E hp
  obtain ⟨_, e10, rfl⟩ := hp 10 22 _ rfl rfl; replace E := E.add e10
  clear hp
  refine hK12 _ _ ?_; clear hK12
  refine cond E rfl (fun h16r => ?_) (fun h16r => ?_)
  ·have h16 := nm h16r
   refine sr fun K hK => ?_
   refine rn 2 E S ?_; clear E S; intro a w E S
   apply hK; clear hK K
   refine rt hQ E S ?_
   have hj9 : ((j : Int) - 1).toNat = j - 1 := by omega
   have hq := h16r
   rw [same_val] at hq
   have hq2 := of_decide_eq_true hq
   rw [hj9] at hq2
   have he : lastS h i = (j : Int) - 1 := by
    unfold lastS
    rw [hla, show j = (j - 1) + 1 by omega]
    unfold lastI
    rw [if_pos hq2]
    show (((j - 1 : Nat)) : Int) = _
    omega
   show _ = _
   rw [he]
   rfl
  ·have h16 := nm h16r
   refine wp_skip ?_
   refine hK10 _ _ ?_; clear hK10
   refine wp_region_lit ?_
   refine rn 3 E S ?_; clear E S; intro a w E S
   have hj9 : ((j : Int) - 1).toNat = j - 1 := by omega
   have hq := h16r
   rw [same_val] at hq
   have hq2 := of_decide_eq_false hq
   rw [hj9] at hq2
   have hla2 : lastI h (h.getD i E0).client i = lastI h (h.getD i E0).client (j - 1) := by
    rw [hla, show j = (j - 1) + 1 by omega]
    conv => lhs; unfold lastI
    rw [if_neg hq2]
    rfl
   have hv9 : ((j : Int) - 1) - 1 = (((j - 1 : Nat)) : Int) - 1 := by omega
   rw [hv9] at E
   exact ⟨j - 1, ⟨S, E.cut ⟨rfl, rfl, rfl, trivial⟩, ⟨by omega, hla2⟩⟩, by omega⟩
 ·have h9 := nm h9r
  refine wp_exit ?_
  refine hK2 _ _ ?_; clear hK2
  refine sr fun K hK => ?_
  refine rn 1 E S ?_; clear E S; intro a w E S
  apply hK; clear hK K
  refine rt hQ E S ?_
  have hj9 : j = 0 := by omega
  subst hj9
  have he : lastS h i = -1 := by unfold lastS; rw [hla]; rfl
  show _ = _
  rw [he]
  rfl

/-! `incognito/incognitoref12.wrong` -/
theorem c_wrong12 (h : List Evt) (A : Option Addr) (c : Nat) (i : Nat) (w0 : World) (G : Heap) (hG : Sub G w0) (hR : Rd kEvt G A h) (hl : h.length ≤ 9223372036854775807) (hi : i < h.length) (hok : ∀ x ∈ h, x.Wf ∧ (rightE x = true → x.out.length ≤ 1000000)):
  Calls Tryd.prog 22 #[.slice A h.length c, .int .i64 (i : Int)] w0 (Ret w0 G (fun v _ => v = .int .i64 (wrongS h i))) := by
 refine enter Tryd.func22 rfl Tryd.ntmps22 rfl ?_
 intro Q hQ a E
 have S := St.start0 hG
 refine sr fun K hK => ?_
 refine rn 1 E S ?_; clear E S; intro a w E S
 apply hK; clear hK K
 refine wp_seq_k (fun K3 hK2 => ?_)
 refine sr fun K hK => ?_
 refine rn 2 E S ?_; clear E S; intro a w E S
 apply hK; clear hK K
 refine cond E rfl (fun h5r => ?_) (fun h5r => ?_)
 ·have h5 := nm h5r
  refine sr fun K hK => ?_
  refine rn 1 E S ?_; clear E S; intro a w E S
  apply hK; clear hK K
  refine rt hQ E S ?_
  have he : wrongS h i = 5 := by
   unfold wrongS
   rw [if_pos (by simpa using h5)]
  show _ = _
  rw [he]
  rfl
 ·have h5 := nm h5r
  refine wp_skip ?_
  refine hK2 _ _ ?_; clear hK2
  refine sr fun K hK => ?_
  refine rn 2 E S ?_; clear E S; intro a w E S
  have hwe : (h.getD i E0).Wf := (hok _ (evm hi)).1
  have hi7 : (i : Int).toNat < h.length := by omega
  obtain ⟨eb7, eo7, hA7, el7⟩ := Rd.at hR (List.getElem?_eq_getElem hi7); cases hA7
  rw [show h[(i : Int).toNat] = (h.getD i E0) from getD_get (i := i) hi7 _] at el7
  obtain ⟨A1_7, c1_7, A2_7, c2_7, el7, ha1_7, hr1_7, ha2_7, hr2_7⟩ := kEvt_open el7
  refine o_ixL E rfl rfl rfl T.l22 ⟨by omega, by omega⟩ ?_; clear E; intro a E
  refine o_ldIA E rfl S rfl el7 T.a52 ?_; clear E; intro a E
  refine o_allocZ E rfl S ?_; clear E S; intro B5 w a S E
  refine rn 1 E S ?_; clear E S; intro a w E S
  apply hK; clear hK K
  refine wp_seq_k (fun K10 hK9 => ?_)
  refine sr fun K hK => ?_
  refine rn 1 E S ?_; clear E S; intro a w E S
  refine o_callP E rfl S rfl rfl T.g40 (c_RightR (h.getD i E0) _ _ _ _ _ _ S.sub hr1_7 hr2_7 (by first | assumption | exact hwe)) ?_
  clear E S; rintro _ w a S rfl E
  refine rn 1 E S ?_; clear E S; intro a w E S
  apply hK; clear hK K
  refine cond E rfl (fun h12r => ?_) (fun h12r => ?_)
  ·have h12 := nm h12r
   refine sr fun K hK => ?_
   refine rn 1 E S ?_; clear E S; intro a w E S
   apply hK; clear hK K
   refine rt hQ E S ?_
   have he : wrongS h i = 2 := by
    unfold wrongS
    rw [if_neg (by simpa using h5)]
    rw [if_pos (by simpa using h12)]
   show _ = _
   rw [he]
   rfl
  ·have h12 := nm h12r
   refine wp_skip ?_
   refine hK9 _ _ ?_; clear hK9
   refine wp_seq_k (fun K15 hK14 => ?_)
   refine wp_seq_k (fun K17 hK16 => ?_)
   obtain ⟨eb18, eo18, hc18⟩ : ∃ eb eo, ((decide (0 < (i : Int))) = true → ((some ⟨eb7, eo7, none⟩) : Option Addr) = some ⟨eb, eo, none⟩ ∧ ElAt kEvt G eb (eo + ((i : Int) - 1).toNat * 14) (h.getD ((i : Int) - 1).toNat E0)) := by
    by_cases hg : (decide (0 < (i : Int))) = true
    ·have hg2 := hg; try simp only [Bool.not_eq_true', Bool.not_eq_false', Bool.and_eq_true, Bool.or_eq_false_iff, decide_eq_true_eq, decide_eq_false_iff_not] at hg2; have hi : ((i : Int) - 1).toNat < h.length := by omega
     obtain ⟨eb, eo, hA, el⟩ := Rd.at hR (List.getElem?_eq_getElem hi)
     exact ⟨eb, eo, fun _ => ⟨hA, by rw [show h[((i : Int) - 1).toNat] = (h.getD ((i : Int) - 1).toNat E0) from getD_get (i := ((i : Int) - 1).toNat) hi _] at el; exact el⟩⟩
    ·exact ⟨0, 0, fun h => absurd h hg⟩
   refine drawnP [fun v => v = .int .i64 (i : Int), fun v => v = .bool (decide (0 < (i : Int))), fun v => v = .bool (decide (0 < (i : Int))), fun v => (decide (0 < (i : Int))) = true → v = .pointer (some ⟨B5, 0, none⟩), fun v => (decide (0 < (i : Int))) = true → v = .int .i64 ((h.getD i E0).time), fun v => (decide (0 < (i : Int))) = true → v = .slice (some ⟨eb7, eo7, none⟩) h.length c, fun v => (decide (0 < (i : Int))) = true → v = .int .i64 (i : Int), fun v => (decide (0 < (i : Int))) = true → v = .int .i64 ((i : Int) - 1), fun v => (decide (0 < (i : Int))) = true → v = .pointer (some ⟨eb18, eo18 + ((i : Int) - 1).toNat * 14, none⟩), fun v => (decide (0 < (i : Int))) = true → v = .pointer (some ⟨eb18, eo18 + ((i : Int) - 1).toNat * 14 + 0, none⟩), fun v => (decide (0 < (i : Int))) = true → v = .int .i64 ((h.getD ((i : Int) - 1).toNat E0).time), fun v => (decide (0 < (i : Int))) = true → v = .bool (decide (((h.getD i E0).time) < ((h.getD ((i : Int) - 1).toNat E0).time))), fun v => v = .bool ((decide (0 < (i : Int))) && (decide (((h.getD i E0).time) < ((h.getD ((i : Int) - 1).toNat E0).time))))] T.mix rfl E S rfl ⟨?_, ?_, ?_, ?_, ?_, ?_, ?_, ?_, ?_, ?_, ?_, ?_, ?_, trivial⟩ ?_
   ·intro a w G1 hl S E hp
    refine o_move E rfl rfl ?_; clear E; intro a E
    exact ⟨_, _, S, rfl, E.get _ _ rfl, E.defers, rfl⟩
   ·intro a w G1 hl S E hp
    obtain ⟨_, e0, rfl⟩ := hp 0 20 _ rfl rfl rfl; replace E := E.add e0
    refine o_gtr E rfl rfl rfl ?_; clear E; intro a E
    exact ⟨_, _, S, rfl, E.get _ _ rfl, E.defers, rfl⟩
   ·intro a w G1 hl S E hp
    obtain ⟨_, e1, rfl⟩ := hp 1 21 _ rfl rfl rfl; replace E := E.add e1
    refine o_move E rfl rfl ?_; clear E; intro a E
    exact ⟨_, _, S, rfl, E.get _ _ rfl, E.defers, rfl⟩
   ·intro a w G1 hl S E hp
    obtain ⟨_, eg, rfl⟩ := hp 2 22 _ rfl rfl rfl; replace E := E.add eg
    refine (Bool.eq_false_or_eq_true (decide (0 < (i : Int)))).elim (fun hb => ?_) (fun hb => ?_)
    ·refine op_on E rfl rfl hb ?_
     refine o_fld E rfl rfl T.f52_0 ?_; clear E; intro a E
     exact ⟨_, _, S, rfl, E.get _ _ rfl, E.defers, fun _ => rfl⟩
    ·refine g_off E rfl rfl rfl hb ?_; clear E; intro a E
     exact ⟨_, _, S, rfl, E.get _ _ rfl, E.defers, fun h => absurd (hb.symm.trans h) (by decide)⟩
   ·intro a w G1 hl S E hp
    obtain ⟨_, eg, rfl⟩ := hp 2 22 _ rfl rfl rfl; replace E := E.add eg
    refine (Bool.eq_false_or_eq_true (decide (0 < (i : Int)))).elim (fun hb => ?_) (fun hb => ?_)
    ·obtain ⟨_, e3, h3v⟩ := hp 3 23 _ rfl rfl rfl; cases h3v hb; replace E := E.add e3
     refine op_on E rfl rfl hb ?_
     refine o_ld E rfl S rfl T.s2 (.here .here) rfl ?_; clear E; intro a E
     exact ⟨_, _, S, rfl, E.get _ _ rfl, E.defers, fun _ => rfl⟩
    ·refine g_off E rfl rfl rfl hb ?_; clear E; intro a E
     exact ⟨_, _, S, rfl, E.get _ _ rfl, E.defers, fun h => absurd (hb.symm.trans h) (by decide)⟩
   ·intro a w G1 hl S E hp
    obtain ⟨_, eg, rfl⟩ := hp 2 22 _ rfl rfl rfl; replace E := E.add eg
    refine (Bool.eq_false_or_eq_true (decide (0 < (i : Int)))).elim (fun hb => ?_) (fun hb => ?_)
    ·refine op_on E rfl rfl hb ?_
     refine o_move E rfl rfl ?_; clear E; intro a E
     exact ⟨_, _, S, rfl, E.get _ _ rfl, E.defers, fun _ => rfl⟩
    ·refine g_off E rfl rfl rfl hb ?_; clear E; intro a E
     exact ⟨_, _, S, rfl, E.get _ _ rfl, E.defers, fun h => absurd (hb.symm.trans h) (by decide)⟩
   ·intro a w G1 hl S E hp
    obtain ⟨_, eg, rfl⟩ := hp 2 22 _ rfl rfl rfl; replace E := E.add eg
    refine (Bool.eq_false_or_eq_true (decide (0 < (i : Int)))).elim (fun hb => ?_) (fun hb => ?_)
    ·refine op_on E rfl rfl hb ?_
     refine o_move E rfl rfl ?_; clear E; intro a E
     exact ⟨_, _, S, rfl, E.get _ _ rfl, E.defers, fun _ => rfl⟩
    ·refine g_off E rfl rfl rfl hb ?_; clear E; intro a E
     exact ⟨_, _, S, rfl, E.get _ _ rfl, E.defers, fun h => absurd (hb.symm.trans h) (by decide)⟩
   ·intro a w G1 hl S E hp
    obtain ⟨_, eg, rfl⟩ := hp 2 22 _ rfl rfl rfl; replace E := E.add eg
    refine (Bool.eq_false_or_eq_true (decide (0 < (i : Int)))).elim (fun hb => ?_) (fun hb => ?_)
    ·obtain ⟨_, e6, h6v⟩ := hp 6 26 _ rfl rfl rfl; cases h6v hb; replace E := E.add e6
     refine op_on E rfl rfl hb ?_
     refine o_sub E rfl rfl rfl (by omega) ?_; clear E; intro a E
     exact ⟨_, _, S, rfl, E.get _ _ rfl, E.defers, fun _ => rfl⟩
    ·refine g_off E rfl rfl rfl hb ?_; clear E; intro a E
     exact ⟨_, _, S, rfl, E.get _ _ rfl, E.defers, fun h => absurd (hb.symm.trans h) (by decide)⟩
   ·intro a w G1 hl S E hp
    obtain ⟨_, eg, rfl⟩ := hp 2 22 _ rfl rfl rfl; replace E := E.add eg
    refine (Bool.eq_false_or_eq_true (decide (0 < (i : Int)))).elim (fun hb => ?_) (fun hb => ?_)
    ·obtain ⟨_, e5, h5v⟩ := hp 5 25 _ rfl rfl rfl; cases h5v hb; replace E := E.add e5
     obtain ⟨_, e7, h7v⟩ := hp 7 27 _ rfl rfl rfl; cases h7v hb; replace E := E.add e7
     refine op_on E rfl rfl hb ?_
     have hbk := hb; try simp only [Bool.not_eq_true', Bool.not_eq_false', Bool.and_eq_true, Bool.or_eq_false_iff, decide_eq_true_eq, decide_eq_false_iff_not] at hbk
     obtain ⟨hA18, el18⟩ := hc18 (hb); cases hA18
     refine o_ixL E rfl rfl rfl T.l22 ⟨by omega, by omega⟩ ?_; clear E; intro a E
     exact ⟨_, _, S, rfl, E.get _ _ rfl, E.defers, fun _ => rfl⟩
    ·refine g_off E rfl rfl rfl hb ?_; clear E; intro a E
     exact ⟨_, _, S, rfl, E.get _ _ rfl, E.defers, fun h => absurd (hb.symm.trans h) (by decide)⟩
   ·intro a w G1 hl S E hp
    obtain ⟨_, eg, rfl⟩ := hp 2 22 _ rfl rfl rfl; replace E := E.add eg
    refine (Bool.eq_false_or_eq_true (decide (0 < (i : Int)))).elim (fun hb => ?_) (fun hb => ?_)
    ·obtain ⟨_, e8, h8v⟩ := hp 8 28 _ rfl rfl rfl; cases h8v hb; replace E := E.add e8
     refine op_on E rfl rfl hb ?_
     refine o_fld E rfl rfl T.f52_0 ?_; clear E; intro a E
     exact ⟨_, _, S, rfl, E.get _ _ rfl, E.defers, fun _ => rfl⟩
    ·refine g_off E rfl rfl rfl hb ?_; clear E; intro a E
     exact ⟨_, _, S, rfl, E.get _ _ rfl, E.defers, fun h => absurd (hb.symm.trans h) (by decide)⟩
   ·intro a w G1 hl S E hp
    obtain ⟨_, eg, rfl⟩ := hp 2 22 _ rfl rfl rfl; replace E := E.add eg
    refine (Bool.eq_false_or_eq_true (decide (0 < (i : Int)))).elim (fun hb => ?_) (fun hb => ?_)
    ·obtain ⟨_, e9, h9v⟩ := hp 9 29 _ rfl rfl rfl; cases h9v hb; replace E := E.add e9
     refine op_on E rfl rfl hb ?_
     obtain ⟨_, el18⟩ := hc18 (hb)
     obtain ⟨A1_18, c1_18, A2_18, c2_18, el18, ha1_18, hr1_18, ha2_18, hr2_18⟩ := kEvt_open el18
     refine o_ldI E rfl S rfl T.s2 (el18.le hl) (j := 0) rfl rfl ?_; clear E; intro a E
     exact ⟨_, _, S, rfl, E.get _ _ rfl, E.defers, fun _ => rfl⟩
    ·refine g_off E rfl rfl rfl hb ?_; clear E; intro a E
     exact ⟨_, _, S, rfl, E.get _ _ rfl, E.defers, fun h => absurd (hb.symm.trans h) (by decide)⟩
   ·intro a w G1 hl S E hp
    obtain ⟨_, eg, rfl⟩ := hp 2 22 _ rfl rfl rfl; replace E := E.add eg
    refine (Bool.eq_false_or_eq_true (decide (0 < (i : Int)))).elim (fun hb => ?_) (fun hb => ?_)
    ·obtain ⟨_, e4, h4v⟩ := hp 4 24 _ rfl rfl rfl; cases h4v hb; replace E := E.add e4
     obtain ⟨_, e10, h10v⟩ := hp 10 30 _ rfl rfl rfl; cases h10v hb; replace E := E.add e10
     refine op_on E rfl rfl hb ?_
     refine o_lss E rfl rfl rfl ?_; clear E; intro a E
     exact ⟨_, _, S, rfl, E.get _ _ rfl, E.defers, fun _ => rfl⟩
    ·refine g_off E rfl rfl rfl hb ?_; clear E; intro a E
     exact ⟨_, _, S, rfl, E.get _ _ rfl, E.defers, fun h => absurd (hb.symm.trans h) (by decide)⟩
   ·intro a w G1 hl S E hp
    obtain ⟨_, e2, rfl⟩ := hp 2 22 _ rfl rfl rfl; replace E := E.add e2
    refine (Bool.eq_false_or_eq_true (decide (0 < (i : Int)))).elim (fun hb => ?_) (fun hb => ?_)
    ·obtain ⟨_, e11, h11v⟩ := hp 11 31 _ rfl rfl rfl; cases h11v hb; replace E := E.add e11
     refine o_pick_t E rfl rfl hb rfl ?_; clear E; intro a E
     exact ⟨_, _, S, rfl, E.get _ _ rfl, E.defers, by rw [hb]; rfl⟩
    ·refine o_pick_f E rfl rfl hb rfl ?_; clear E; intro a E
     exact ⟨_, _, S, rfl, E.get _ _ rfl, E.defers, by rw [hb]; rfl⟩
   clear E S; intro a w S E hp
   obtain ⟨_, e12, rfl⟩ := hp 12 32 _ rfl rfl; replace E := E.add e12
   clear hp
   refine hK16 _ _ ?_; clear hK16
   refine cond E rfl (fun h19r => ?_) (fun h19r => ?_)
   ·have h19 := nm h19r
    refine sr fun K hK => ?_
    refine rn 1 E S ?_; clear E S; intro a w E S
    apply hK; clear hK K
    refine rt hQ E S ?_
    have he : wrongS h i = 4 := by
     unfold wrongS
     rw [if_neg (by simpa using h5)]
     rw [if_neg (by simpa using h12)]
     rw [if_pos (by have := h19r; unfold backB; simpa using this)]
    show _ = _
    rw [he]
    rfl
   ·have h19 := nm h19r
    refine wp_skip ?_
    refine hK14 _ _ ?_; clear hK14
    refine sr fun K hK => ?_
    refine rn 2 E S ?_; clear E S; intro a w E S
    refine o_callP E rfl S rfl rfl T.g41 (c_last12 h _ _ i _ _ S.sub hR (by omega) (by omega)) ?_
    clear E S; rintro _ w a S rfl E
    refine rn 1 E S ?_; clear E S; intro a w E S
    apply hK; clear hK K
    refine sr fun K hK => ?_
    refine rn 1 E S ?_; clear E S; intro a w E S
    have hlr := lastS_rng h i
    refine rn 2 E S ?_; clear E S; intro a w E S
    refine cutG 7 45 (.bool ((decide (0 ≤ (lastS h i))) && (decide (((h.getD (lastS h i).toNat E0).type) = 1)))) E S ?_ ?_
    ·refine bsp E (t := 38) rfl (fun hb22 => ?_) (fun hb22 => ?_)
     ·have hk23 := nm hb22
      refine rn 2 E S ?_; clear E S; intro a w E S
      refine op_on E rfl rfl hb22 ?_
      have hi24 : (lastS h i).toNat < h.length := by omega
      obtain ⟨eb24, eo24, hA24, el24⟩ := Rd.at hR (List.getElem?_eq_getElem hi24); cases hA24
      rw [show h[(lastS h i).toNat] = (h.getD (lastS h i).toNat E0) from getD_get (i := (lastS h i).toNat) hi24 _] at el24
      obtain ⟨A1_24, c1_24, A2_24, c2_24, el24, ha1_24, hr1_24, ha2_24, hr2_24⟩ := kEvt_open el24
      refine o_ixL E rfl rfl rfl T.l22 ⟨by omega, by omega⟩ ?_; clear E; intro a E
      refine rn 1 E S ?_; clear E S; intro a w E S
      refine op_on E rfl rfl hb22 ?_
      refine o_ldI E rfl S rfl T.s3 el24 (j := 4) rfl rfl ?_; clear E; intro a E
      refine rn 2 E S ?_; clear E S; intro a w E S
      exact ⟨S, E.cutT (by rw [hb22] <;> rfl)⟩
     ·refine rn 7 E S ?_; clear E S; intro a w E S
      exact ⟨S, E.cutT (by rw [hb22] <;> rfl)⟩
    clear E S; intro a w E S
    refine rn 1 E S ?_; clear E S; intro a w E S
    apply hK; clear hK K
    refine sr fun K hK => ?_
    refine rn 3 E S ?_; clear E S; intro a w E S
    refine cutG 7 55 (.bool ((decide (0 ≤ (lastS h i))) && (decide (((h.getD (lastS h i).toNat E0).type) = 4)))) E S ?_ ?_
    ·refine bsp E (t := 48) rfl (fun hb26 => ?_) (fun hb26 => ?_)
     ·have hk27 := nm hb26
      refine rn 2 E S ?_; clear E S; intro a w E S
      refine op_on E rfl rfl hb26 ?_
      have hi28 : (lastS h i).toNat < h.length := by omega
      obtain ⟨eb28, eo28, hA28, el28⟩ := Rd.at hR (List.getElem?_eq_getElem hi28); cases hA28
      rw [show h[(lastS h i).toNat] = (h.getD (lastS h i).toNat E0) from getD_get (i := (lastS h i).toNat) hi28 _] at el28
      obtain ⟨A1_28, c1_28, A2_28, c2_28, el28, ha1_28, hr1_28, ha2_28, hr2_28⟩ := kEvt_open el28
      refine o_ixL E rfl rfl rfl T.l22 ⟨by omega, by omega⟩ ?_; clear E; intro a E
      refine rn 1 E S ?_; clear E S; intro a w E S
      refine op_on E rfl rfl hb26 ?_
      refine o_ldI E rfl S rfl T.s3 el28 (j := 4) rfl rfl ?_; clear E; intro a E
      refine rn 2 E S ?_; clear E S; intro a w E S
      exact ⟨S, E.cutT (by rw [hb26] <;> rfl)⟩
     ·refine rn 7 E S ?_; clear E S; intro a w E S
      exact ⟨S, E.cutT (by rw [hb26] <;> rfl)⟩
    clear E S; intro a w E S
    refine rn 1 E S ?_; clear E S; intro a w E S
    apply hK; clear hK K
    refine wp_seq_k (fun K31 hK30 => ?_)
    refine sr fun K hK => ?_
    refine rn 3 E S ?_; clear E S; intro a w E S
    apply hK; clear hK K
    refine cond E rfl (fun h33r => ?_) (fun h33r => ?_)
    ·have h33 := nm h33r
     refine wp_seq_k (fun K35 hK34 => ?_)
     refine sr fun K hK => ?_
     refine rn 2 E S ?_; clear E S; intro a w E S
     refine cutG 2 62 (.bool (((decide (0 ≤ (lastS h i))) && (decide (((h.getD (lastS h i).toNat E0).type) = 1))) || ((decide (0 ≤ (lastS h i))) && (decide (((h.getD (lastS h i).toNat E0).type) = 4))))) E S ?_ ?_
     ·refine bsp E (t := 60) rfl (fun hb36 => ?_) (fun hb36 => ?_)
      ·refine rn 2 E S ?_; clear E S; intro a w E S
       exact ⟨S, E.cutT (by rw [hb36] <;> rfl)⟩
      ·have hk37 := nm hb36
       refine rn 2 E S ?_; clear E S; intro a w E S
       exact ⟨S, E.cutT (by rw [hb36] <;> rfl)⟩
     clear E S; intro a w E S
     apply hK; clear hK K
     refine cond E rfl (fun h39r => ?_) (fun h39r => ?_)
     ·have h39 := nm h39r
      refine sr fun K hK => ?_
      refine rn 1 E S ?_; clear E S; intro a w E S
      apply hK; clear hK K
      refine rt hQ E S ?_
      have he : wrongS h i = 4 := by
       unfold wrongS
       rw [if_neg (by simpa using h5)]
       rw [if_neg (by simpa using h12)]
       rw [if_neg (by have := h19r; unfold backB; simpa using this)]
       rw [if_pos (by simpa using h33)]
       rw [if_pos (by have := h39r; unfold busyB lostB; simpa using this)]
      show _ = _
      rw [he]
      rfl
     ·have h39 := nm h39r
      refine wp_skip ?_
      refine hK34 _ _ ?_; clear hK34
      refine sr fun K hK => ?_
      refine rn 1 E S ?_; clear E S; intro a w E S
      apply hK; clear hK K
      refine rt hQ E S ?_
      have he : wrongS h i = 0 := by
       unfold wrongS
       rw [if_neg (by simpa using h5)]
       rw [if_neg (by simpa using h12)]
       rw [if_neg (by have := h19r; unfold backB; simpa using this)]
       rw [if_pos (by simpa using h33)]
       rw [if_neg (by have := h39r; unfold busyB lostB; simpa using this)]
      show _ = _
      rw [he]
      rfl
    ·have h33 := nm h33r
     refine wp_skip ?_
     refine hK30 _ _ ?_; clear hK30
     refine wp_seq_k (fun K43 hK42 => ?_)
     refine sr fun K hK => ?_
     refine rn 2 E S ?_; clear E S; intro a w E S
     apply hK; clear hK K
     refine cond E rfl (fun h45r => ?_) (fun h45r => ?_)
     ·have h45 := nm h45r
      refine sr fun K hK => ?_
      refine rn 1 E S ?_; clear E S; intro a w E S
      apply hK; clear hK K
      refine rt hQ E S ?_
      have he : wrongS h i = 4 := by
       unfold wrongS
       rw [if_neg (by simpa using h5)]
       rw [if_neg (by simpa using h12)]
       rw [if_neg (by have := h19r; unfold backB; simpa using this)]
       rw [if_neg (by simpa using h33)]
       rw [if_pos (by have := h45r; rw [Bool.not_eq_true'] at this; unfold busyB; exact this)]
      show _ = _
      rw [he]
      rfl
     ·have h45 := nm h45r
      refine wp_skip ?_
      refine hK42 _ _ ?_; clear hK42
      refine wp_seq_k (fun K48 hK47 => ?_)
      refine sr fun K hK => ?_
      refine rn 3 E S ?_; clear E S; intro a w E S
      apply hK; clear hK K
      refine cond E rfl (fun h50r => ?_) (fun h50r => ?_)
      ·have h50 := nm h50r
       refine wp_seq_k (fun K52 hK51 => ?_)
       have hlo : (h.getD i E0).out.length ≤ 1000000 := (hok _ (evm hi)).2 (by simpa using h12)
       have hwo := hwe.out
       have hlr0 : 0 ≤ lastS h i := by have := h45; simp at this; omega
       have hi53 : (lastS h i).toNat < h.length := by omega
       obtain ⟨eb53, eo53, hA53, el53⟩ := Rd.at hR (List.getElem?_eq_getElem hi53); cases hA53
       rw [show h[(lastS h i).toNat] = (h.getD (lastS h i).toNat E0) from getD_get (i := (lastS h i).toNat) hi53 _] at el53
       obtain ⟨A1_53, c1_53, A2_53, c2_53, el53, ha1_53, hr1_53, ha2_53, hr2_53⟩ := kEvt_open el53
       refine drawnW [fun v _ => v = .slice (some ⟨eb7, eo7, none⟩) h.length c, fun v _ => v = .int .i64 (lastS h i), fun v _ => v = .pointer (some ⟨eb7, eo7 + (lastS h i).toNat * 14, none⟩), fun v _ => v = .pointer (some ⟨eb7, eo7 + (lastS h i).toNat * 14 + 5, none⟩), fun v _ => v = .int .i64 ((h.getD (lastS h i).toNat E0).model), fun v _ => v = .slice (some ⟨eb7, eo7, none⟩) h.length c, fun v _ => v = .int .i64 (lastS h i), fun v _ => v = .pointer (some ⟨eb7, eo7 + (lastS h i).toNat * 14, none⟩), fun v _ => v = .pointer (some ⟨eb7, eo7 + (lastS h i).toNat * 14 + 9, none⟩), fun v _ => v = .int .i64 ((h.getD (lastS h i).toNat E0).op), fun v _ => v = .pointer (some ⟨B5, 11, none⟩), fun v _ => v = .slice A2_7 ((h.getD i E0).out.length) c2_7, fun v G' => ∃ A c, v = .tuple #[.slice A (outsS ((h.getD (lastS h i).toNat E0).model) ((h.getD (lastS h i).toNat E0).op) ((h.getD i E0).out)).1.length c, .bool (outsS ((h.getD (lastS h i).toNat E0).model) ((h.getD (lastS h i).toNat E0).op) ((h.getD i E0).out)).2] ∧ (outsS ((h.getD (lastS h i).toNat E0).model) ((h.getD (lastS h i).toNat E0).op) ((h.getD i E0).out)).1.length ≤ c ∧ Rd (Knd.int .i64) G' A (outsS ((h.getD (lastS h i).toNat E0).model) ((h.getD (lastS h i).toNat E0).op) ((h.getD i E0).out)).1, fun v _ => ∃ vA12 vc12, v = .tuple #[.slice vA12 ((outsS ((h.getD (lastS h i).toNat E0).model) ((h.getD (lastS h i).toNat E0).op) ((h.getD i E0).out)).1.length) vc12, .bool ((outsS ((h.getD (lastS h i).toNat E0).model) ((h.getD (lastS h i).toNat E0).op) ((h.getD i E0).out)).2)], fun v _ => ∃ vA12 vc12, v = .slice vA12 ((outsS ((h.getD (lastS h i).toNat E0).model) ((h.getD (lastS h i).toNat E0).op) ((h.getD i E0).out)).1.length) vc12, fun v _ => v = .bool ((outsS ((h.getD (lastS h i).toNat E0).model) ((h.getD (lastS h i).toNat E0).op) ((h.getD i E0).out)).2), fun v _ => ∃ vA12 vc12, v = .slice vA12 ((outsS ((h.getD (lastS h i).toNat E0).model) ((h.getD (lastS h i).toNat E0).op) ((h.getD i E0).out)).1.length) vc12, fun v _ => v = .bool ((outsS ((h.getD (lastS h i).toNat E0).model) ((h.getD (lastS h i).toNat E0).op) ((h.getD i E0).out)).2)] T.mix rfl E S rfl ⟨fun _ _ _ _ h => h, fun _ _ _ _ h => h, fun _ _ _ _ h => h, fun _ _ _ _ h => h, fun _ _ _ _ h => h, fun _ _ _ _ h => h, fun _ _ _ _ h => h, fun _ _ _ _ h => h, fun _ _ _ _ h => h, fun _ _ _ _ h => h, fun _ _ _ _ h => h, fun _ _ _ _ h => h, fun _ _ _ h hx => (let ⟨A2, c2, h1, h2, h3⟩ := hx; ⟨A2, c2, h1, h2, h3.le h⟩), fun _ _ _ _ h => h, fun _ _ _ _ h => h, fun _ _ _ _ h => h, fun _ _ _ _ h => h, fun _ _ _ _ h => h, trivial⟩ ⟨?_, ?_, ?_, ?_, ?_, ?_, ?_, ?_, ?_, ?_, ?_, ?_, ?_, ?_, ?_, ?_, ?_, ?_, trivial⟩ ?_
       ·intro a w G1 hl S E hp
        refine o_move E rfl rfl ?_; clear E; intro a E
        exact ⟨_, _, _, Heap.le.refl _, S, rfl, E.get _ _ rfl, E.defers, rfl⟩
       ·intro a w G1 hl S E hp
        refine o_move E rfl rfl ?_; clear E; intro a E
        exact ⟨_, _, _, Heap.le.refl _, S, rfl, E.get _ _ rfl, E.defers, rfl⟩
       ·intro a w G1 hl S E hp
        obtain ⟨_, e0, rfl⟩ := hp 0 69 _ rfl rfl rfl; replace E := E.add e0
        obtain ⟨_, e1, rfl⟩ := hp 1 70 _ rfl rfl rfl; replace E := E.add e1
        refine o_ixL E rfl rfl rfl T.l22 ⟨by omega, by omega⟩ ?_; clear E; intro a E
        exact ⟨_, _, _, Heap.le.refl _, S, rfl, E.get _ _ rfl, E.defers, rfl⟩
       ·intro a w G1 hl S E hp
        obtain ⟨_, e2, rfl⟩ := hp 2 71 _ rfl rfl rfl; replace E := E.add e2
        refine o_fld E rfl rfl T.f52_3 ?_; clear E; intro a E
        exact ⟨_, _, _, Heap.le.refl _, S, rfl, E.get _ _ rfl, E.defers, rfl⟩
       ·intro a w G1 hl S E hp
        obtain ⟨_, e3, rfl⟩ := hp 3 72 _ rfl rfl rfl; replace E := E.add e3
        refine o_ldI E rfl S rfl T.s3 (el53.le hl) (j := 5) rfl rfl ?_; clear E; intro a E
        exact ⟨_, _, _, Heap.le.refl _, S, rfl, E.get _ _ rfl, E.defers, rfl⟩
       ·intro a w G1 hl S E hp
        refine o_move E rfl rfl ?_; clear E; intro a E
        exact ⟨_, _, _, Heap.le.refl _, S, rfl, E.get _ _ rfl, E.defers, rfl⟩
       ·intro a w G1 hl S E hp
        refine o_move E rfl rfl ?_; clear E; intro a E
        exact ⟨_, _, _, Heap.le.refl _, S, rfl, E.get _ _ rfl, E.defers, rfl⟩
       ·intro a w G1 hl S E hp
        obtain ⟨_, e5, rfl⟩ := hp 5 74 _ rfl rfl rfl; replace E := E.add e5
        obtain ⟨_, e6, rfl⟩ := hp 6 75 _ rfl rfl rfl; replace E := E.add e6
        refine o_ixL E rfl rfl rfl T.l22 ⟨by omega, by omega⟩ ?_; clear E; intro a E
        exact ⟨_, _, _, Heap.le.refl _, S, rfl, E.get _ _ rfl, E.defers, rfl⟩
       ·intro a w G1 hl S E hp
        obtain ⟨_, e7, rfl⟩ := hp 7 76 _ rfl rfl rfl; replace E := E.add e7
        refine o_fld E rfl rfl T.f52_5 ?_; clear E; intro a E
        exact ⟨_, _, _, Heap.le.refl _, S, rfl, E.get _ _ rfl, E.defers, rfl⟩
       ·intro a w G1 hl S E hp
        obtain ⟨_, e8, rfl⟩ := hp 8 77 _ rfl rfl rfl; replace E := E.add e8
        refine o_ldI E rfl S rfl T.s3 (el53.le hl) (j := 9) rfl rfl ?_; clear E; intro a E
        exact ⟨_, _, _, Heap.le.refl _, S, rfl, E.get _ _ rfl, E.defers, rfl⟩
       ·intro a w G1 hl S E hp
        refine o_fld E rfl rfl T.f52_7 ?_; clear E; intro a E
        exact ⟨_, _, _, Heap.le.refl _, S, rfl, E.get _ _ rfl, E.defers, rfl⟩
       ·intro a w G1 hl S E hp
        obtain ⟨_, e10, rfl⟩ := hp 10 79 _ rfl rfl rfl; replace E := E.add e10
        refine o_ld E rfl S rfl T.s50 (.here .here) rfl ?_; clear E; intro a E
        exact ⟨_, _, _, Heap.le.refl _, S, rfl, E.get _ _ rfl, E.defers, rfl⟩
       ·intro a w G1 hl S E hp
        obtain ⟨_, e4, rfl⟩ := hp 4 73 _ rfl rfl rfl; replace E := E.add e4
        obtain ⟨_, e9, rfl⟩ := hp 9 78 _ rfl rfl rfl; replace E := E.add e9
        obtain ⟨_, e11, rfl⟩ := hp 11 80 _ rfl rfl rfl; replace E := E.add e11
        refine o_call E rfl S rfl rfl T.g42 (c_Outs9 ((h.getD (lastS h i).toNat E0).model) ((h.getD (lastS h i).toNat E0).op) ((h.getD i E0).out) _ _ _ _ S.sub (hr2_7.le hl) (by omega) hwo) ?_; clear E S; rintro _ G2 w a S hle2 ⟨A2, c2, rfl, hc2, hR2⟩ E
        exact ⟨_, G2, _, hle2, S, rfl, E.get _ _ rfl, E.defers, ⟨_, _, rfl, hc2, hR2⟩⟩
       ·intro a w G1 hl S E hp
        obtain ⟨_, e12, vA12, vc12, rfl, hcp12, hQ12⟩ := hp 12 81 _ rfl rfl rfl; replace E := E.add e12
        refine o_move E rfl rfl ?_; clear E; intro a E
        exact ⟨_, _, _, Heap.le.refl _, S, rfl, E.get _ _ rfl, E.defers, ⟨_, _, rfl⟩⟩
       ·intro a w G1 hl S E hp
        obtain ⟨_, e13, vA12, vc12, rfl⟩ := hp 13 68 _ rfl rfl rfl; replace E := E.add e13
        refine o_extract E rfl rfl rfl ?_; clear E; intro a E
        exact ⟨_, _, _, Heap.le.refl _, S, rfl, E.get _ _ rfl, E.defers, ⟨_, _, rfl⟩⟩
       ·intro a w G1 hl S E hp
        obtain ⟨_, e13, vA12, vc12, rfl⟩ := hp 13 68 _ rfl rfl rfl; replace E := E.add e13
        refine o_extract E rfl rfl rfl ?_; clear E; intro a E
        exact ⟨_, _, _, Heap.le.refl _, S, rfl, E.get _ _ rfl, E.defers, rfl⟩
       ·intro a w G1 hl S E hp
        obtain ⟨_, e14, vA12, vc12, rfl⟩ := hp 14 82 _ rfl rfl rfl; replace E := E.add e14
        refine o_assign E rfl rfl ?_; clear E; intro a E
        exact ⟨_, _, _, Heap.le.refl _, S, rfl, E.get _ _ rfl, E.defers, ⟨_, _, rfl⟩⟩
       ·intro a w G1 hl S E hp
        obtain ⟨_, e15, rfl⟩ := hp 15 83 _ rfl rfl rfl; replace E := E.add e15
        refine o_assign E rfl rfl ?_; clear E; intro a E
        exact ⟨_, _, _, Heap.le.refl _, S, rfl, E.get _ _ rfl, E.defers, rfl⟩
       clear E S; intro a w G54 hle55 S E hp
       replace hR := hR.le hle55
       obtain ⟨_, e17, rfl⟩ := hp 17 10 _ rfl rfl; replace E := E.add e17
       clear hp
       refine hK51 _ _ ?_; clear hK51
       refine sr fun K hK => ?_
       refine rn 2 E S ?_; clear E S; intro a w E S
       apply hK; clear hK K
       refine cond E rfl (fun h57r => ?_) (fun h57r => ?_)
       ·have h57 := nm h57r
        refine sr fun K hK => ?_
        refine rn 1 E S ?_; clear E S; intro a w E S
        apply hK; clear hK K
        refine rt hQ E S ?_
        have he : wrongS h i = 4 := by
         unfold wrongS
         rw [if_neg (by simpa using h5)]
         rw [if_neg (by simpa using h12)]
         rw [if_neg (by have := h19r; unfold backB; simpa using this)]
         rw [if_neg (by simpa using h33)]
         rw [if_neg (by have := h45r; rw [Bool.not_eq_false'] at this; unfold busyB; rw [this]; decide)]
         rw [if_pos (by simpa using h50)]
         rw [if_pos (by have := h57r; unfold outOk; simpa using this)]
        show _ = _
        rw [he]
        rfl
       ·have h57 := nm h57r
        refine wp_skip ?_
        refine hK47 _ _ ?_; clear hK47
        refine sr fun K hK => ?_
        refine rn 1 E S ?_; clear E S; intro a w E S
        apply hK; clear hK K
        refine rt hQ E S ?_
        have he : wrongS h i = 0 := by
         unfold wrongS
         rw [if_neg (by simpa using h5)]
         rw [if_neg (by simpa using h12)]
         rw [if_neg (by have := h19r; unfold backB; simpa using this)]
         rw [if_neg (by simpa using h33)]
         rw [if_neg (by have := h45r; rw [Bool.not_eq_false'] at this; unfold busyB; rw [this]; decide)]
         rw [if_pos (by simpa using h50)]
         rw [if_neg (by have := h57r; unfold outOk; simpa using this)]
        show _ = _
        rw [he]
        rfl
      ·have h50 := nm h50r
       refine wp_skip ?_
       refine hK47 _ _ ?_; clear hK47
       refine sr fun K hK => ?_
       refine rn 1 E S ?_; clear E S; intro a w E S
       apply hK; clear hK K
       refine rt hQ E S ?_
       have he : wrongS h i = 0 := by
        unfold wrongS
        rw [if_neg (by simpa using h5)]
        rw [if_neg (by simpa using h12)]
        rw [if_neg (by have := h19r; unfold backB; simpa using this)]
        rw [if_neg (by simpa using h33)]
        rw [if_neg (by have := h45r; rw [Bool.not_eq_false'] at this; unfold busyB; rw [this]; decide)]
        rw [if_neg (by simpa using h50)]
       show _ = _
       rw [he]
       rfl

/-! `incognito/incognitoref12.Check` -/
theorem c_Check12 (h : List Evt) (A : Option Addr) (c : Nat) (w0 : World) (G : Heap) (hG : Sub G w0) (hR : Rd kEvt G A h) (hl : h.length ≤ 9223372036854775807) (hok : ∀ x ∈ h, x.Wf ∧ (rightE x = true → x.out.length ≤ 1000000)):
  Calls Tryd.prog 10 #[.slice A h.length c] w0 (Ret w0 G (fun v _ => v = .tuple #[.int .i64 (checkS h).1, .int .i64 (checkS h).2])) := by
 refine enter Tryd.func10 rfl Tryd.ntmps10 rfl ?_
 intro Q hQ a E
 have S := St.start0 hG
 refine sr fun K hK => ?_
 refine rn 2 E S ?_; clear E S; intro a w E S
 apply hK; clear hK K
 refine wp_seq_k (fun K3 hK2 => ?_)
 refine sr fun K hK => ?_
 refine rn 1 E S ?_; clear E S; intro a w E S
 apply hK; clear hK K
 refine wp_block ?_
 refine loop (fun (i : Nat) a' w' => St w0 G [] G w' [] ∧ Env a' 20 [] [(0, .slice A h.length c), (4, .int .i64 (i : Int))] ∧ (i ≤ h.length ∧ ∀ j, j < i → wrongS h j = 0)) (fun (i : Nat) => h.length - i) 0 ⟨S, E.cut ⟨rfl, rfl, trivial⟩, ⟨Nat.zero_le _, fun j hj => absurd hj (Nat.not_lt_zero _)⟩⟩ ?_
 clear E S; intro i a w ⟨S, E, ⟨hi, hall⟩⟩
 refine wp_seq_k (fun K7 hK6 => ?_)
 refine sr fun K hK => ?_
 refine rn 4 E S ?_; clear E S; intro a w E S
 apply hK; clear hK K
 refine cond E rfl (fun h9r => ?_) (fun h9r => ?_)
 ·have h9 := nm h9r
  refine wp_skip ?_
  refine hK6 _ _ ?_; clear hK6
  refine wp_seq_k (fun K11 hK10 => ?_)
  refine wp_block ?_
  refine sr fun K hK => ?_
  refine rn 2 E S ?_; clear E S; intro a w E S
  refine o_callP E rfl S rfl rfl T.g22 (c_wrong12 h _ _ i _ _ S.sub hR (by omega) (by omega) hok) ?_
  clear E S; rintro _ w a S rfl E
  refine rn 1 E S ?_; clear E S; intro a w E S
  apply hK; clear hK K
  refine sr fun K hK => ?_
  refine rn 2 E S ?_; clear E S; intro a w E S
  apply hK; clear hK K
  refine cond E rfl (fun h14r => ?_) (fun h14r => ?_)
  ·have h14 := nm h14r
   refine sr fun K hK => ?_
   refine rn 5 E S ?_; clear E S; intro a w E S
   apply hK; clear hK K
   refine rt hQ E S ?_
   have he := check_bad (h := h) (i := i) (by omega) hall h14
   show _ = _
   rw [he]
   rfl
  ·have h14 := nm h14r
   refine wp_skip ?_
   refine hK10 _ _ ?_; clear hK10
   refine wp_region_lit ?_
   refine rn 3 E S ?_; clear E S; intro a w E S
   have hall2 : ∀ j, j < i + 1 → wrongS h j = 0 := by
    intro j hj
    rcases Nat.lt_or_ge j i with h_9 | h_9
    ·exact hall j h_9
    ·obtain rfl : j = i := by omega
     simpa using h14
   exact ⟨i + 1, ⟨S, E.cut ⟨rfl, rfl, trivial⟩, ⟨by omega, hall2⟩⟩, by omega⟩
 ·have h9 := nm h9r
  refine wp_exit ?_
  refine hK2 _ _ ?_; clear hK2
  refine sr fun K hK => ?_
  refine rn 2 E S ?_; clear E S; intro a w E S
  apply hK; clear hK K
  refine rt hQ E S ?_
  have he := check_good (h := h) (fun j hj => hall j (by omega))
  show _ = _
  rw [he]
  rfl
end Go.Proofs.YtnfadpkhjfillaaDoor.T28
