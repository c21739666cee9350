/- Own text. -/
import Derived.Test.YtnfadpkhjfillaaDoorU11
set_option linter.unusedVariables false
set_option linter.unusedSimpArgs false
set_option maxRecDepth 100000
set_option maxHeartbeats 4000000
namespace Go.Proofs.YtnfadpkhjfillaaDoor.T28
open Go Go.Proofs.YtnfadpkhjfillaaDoor.X
instance : LZ Tryd.prog 74 [(0, .int .i64 0), (1, .int .i64 0)] := ⟨⟨.agg #[.int .i64 0, .int .i64 0], by kernel_rfl, ⟨rfl, rfl, trivial⟩⟩⟩
theorem T.a27 : aggSz Tryd.prog 27 = some 14 := by kernel_rfl
instance : AG Tryd.prog 27 14 := ⟨T.a27⟩
theorem T.a32 : aggSz Tryd.prog 32 = some 17 := by kernel_rfl
instance : AG Tryd.prog 32 17 := ⟨T.a32⟩
theorem T.g23 : goFn Tryd.prog 23 = true := by kernel_rfl
theorem T.g25 : goFn Tryd.prog 25 = true := by kernel_rfl
theorem T.g32 : goFn Tryd.prog 32 = true := by kernel_rfl
theorem T.g33 : goFn Tryd.prog 33 = true := by kernel_rfl

theorem book_bad1 {b : Book} (h : (((!rightB b.pol || !enteredB b) || (decide (0 < (b.ms.length : Int)) && !decide (b.pol.time = 3))) || (decide (0 < (b.rs.length : Int)) && !decide (b.pol.note = 4))) = true) : bookB b = false := by
  simp only [Bool.or_eq_true, Bool.and_eq_true, Bool.not_eq_true', decide_eq_true_eq, decide_eq_false_iff_not] at h
  rcases h with ((h | h) | h) | h
  · exact book_r h
  · exact book_e h
  · exact book_m (moms_time (by omega) h.2)
  · exact book_n (rems_note (by omega) h.2)
theorem book_ok1 {b : Book} (h : (((!rightB b.pol || !enteredB b) || (decide (0 < (b.ms.length : Int)) && !decide (b.pol.time = 3))) || (decide (0 < (b.rs.length : Int)) && !decide (b.pol.note = 4))) = false) : rightB b.pol = true ∧ enteredB b = true ∧ (b.ms.length = 0 ∨ b.pol.time = 3) ∧ (b.rs.length = 0 ∨ b.pol.note = 4) := by
  simp only [Bool.or_eq_false_iff, Bool.not_eq_false', Bool.and_eq_false_iff, decide_eq_false_iff_not, decide_eq_true_eq] at h
  obtain ⟨⟨⟨h1, h2⟩, h3⟩, h4⟩ := h
  refine ⟨h1, h2, ?_, ?_⟩
  · rcases h3 with h | h
    · exact .inl (by omega)
    · exact .inr h
  · rcases h4 with h | h
    · exact .inl (by omega)
    · exact .inr h
theorem rem_prog {b : Book} {i : Nat} : ((((decide ((b.rs.getD i REM0).ev < 1) || decide (4096 < (b.rs.getD i REM0).ev)) || (decide (0 < ((i : Nat) : Int)) && decide ((b.rs.getD i REM0).ev ≤ (b.rs.getD (((i : Nat) : Int) - 1).toNat REM0).ev))) || decide (100 < ((b.rs.getD i REM0).note.length : Int))) || decide (0 ≤ Lib.indexByte (b.rs.getD i REM0).note 10)) = !remOk b i := by
  unfold remOk plainB
  rw [Bool.not_not]
  have e : decide (100 < ((b.rs.getD i REM0).note.length : Int)) = !decide (((b.rs.getD i REM0).note.length : Int) ≤ 100) := by
    by_cases h : ((b.rs.getD i REM0).note.length : Int) ≤ 100
    · rw [decide_eq_true h, decide_eq_false (by omega)]; rfl
    · rw [decide_eq_false h, decide_eq_true (by omega)]; rfl
  rw [e, Bool.or_assoc]
  congr 1
  cases decide (0 ≤ Lib.indexByte (b.rs.getD i REM0).note 10) <;> cases decide (((b.rs.getD i REM0).note.length : Int) ≤ 100) <;> rfl
theorem mom_fail {b : Book} {i : Nat} (hi : i < b.ms.length) (h : (((!decide (b.pol.time = 3) || !decide ((b.ms.getD i MOM0).rank = ((i : Nat) : Int) + 1)) || decide ((b.ms.getD i MOM0).time < 0)) || (decide (0 < ((i : Nat) : Int)) && decide ((b.ms.getD i MOM0).time ≤ (b.ms.getD (((i : Nat) : Int) - 1).toNat MOM0).time))) = true) : momsB b = false := by
  by_cases ht : b.pol.time = 3
  · refine moms_bad hi ?_
    rw [decide_eq_true ht] at h
    unfold momOk
    rw [show (!true) = false from rfl, Bool.false_or] at h
    rw [h]
    rfl
  · exact moms_time (by omega) ht
theorem mom_pass {b : Book} {i : Nat} (h : (((!decide (b.pol.time = 3) || !decide ((b.ms.getD i MOM0).rank = ((i : Nat) : Int) + 1)) || decide ((b.ms.getD i MOM0).time < 0)) || (decide (0 < ((i : Nat) : Int)) && decide ((b.ms.getD i MOM0).time ≤ (b.ms.getD (((i : Nat) : Int) - 1).toNat MOM0).time))) = false) : b.pol.time = 3 ∧ momOk b i = true := by
  by_cases ht : b.pol.time = 3
  · refine ⟨ht, ?_⟩
    rw [decide_eq_true ht] at h
    unfold momOk
    rw [show (!true) = false from rfl, Bool.false_or] at h
    rw [h]
    rfl
  · rw [decide_eq_false ht] at h
    simp at h
theorem rem_fail {b : Book} {i : Nat} (hi : i < b.rs.length) (h : ((((!decide (b.pol.note = 4) || decide ((b.rs.getD i REM0).ev < 1)) || decide (4096 < (b.rs.getD i REM0).ev)) || (decide (0 < ((i : Nat) : Int)) && decide ((b.rs.getD i REM0).ev ≤ (b.rs.getD (((i : Nat) : Int) - 1).toNat REM0).ev))) || !plainB (b.rs.getD i REM0).note) = true) : remsB b = false := by
  by_cases ht : b.pol.note = 4
  · refine rems_bad hi ?_
    rw [decide_eq_true ht] at h
    unfold remOk
    rw [show (!true) = false from rfl, Bool.false_or] at h
    rw [h]
    rfl
  · exact rems_note (by omega) ht
theorem rem_pass {b : Book} {i : Nat} (h : ((((!decide (b.pol.note = 4) || decide ((b.rs.getD i REM0).ev < 1)) || decide (4096 < (b.rs.getD i REM0).ev)) || (decide (0 < ((i : Nat) : Int)) && decide ((b.rs.getD i REM0).ev ≤ (b.rs.getD (((i : Nat) : Int) - 1).toNat REM0).ev))) || !plainB (b.rs.getD i REM0).note) = false) : b.pol.note = 4 ∧ remOk b i = true := by
  by_cases ht : b.pol.note = 4
  · refine ⟨ht, ?_⟩
    rw [decide_eq_true ht] at h
    unfold remOk
    rw [show (!true) = false from rfl, Bool.false_or] at h
    rw [h]
    rfl
  · rw [decide_eq_false ht] at h
    simp at h
theorem remm {b : Book} {i : Nat} (hi : i < b.rs.length) : b.rs.getD i REM0 ∈ b.rs := by
  rw [List.getD_eq_getElem?_getD, List.getElem?_eq_getElem hi]
  exact List.getElem_mem hi
/-! `incognito/book.Right` -/
theorem c_bookright (b : Book) (Ae : Option Addr) (ce : Nat) (Am : Option Addr) (cm : Nat) (Ar : Option Addr) (cr : Nat) (w0 : World) (G : Heap) (hG : Sub G w0) (hg0 : CellsAt G 0 0 [.int .i64 3, .int .i64 1, str []]) (hg1 : CellsAt G 1 0 [.int .i64 3, .int .i64 0, str []]) (hRe : Rd kEnt G Ae b.es) (hRm : Rd kMom G Am b.ms) (hRr : Rd kRem G Ar b.rs) (hle : b.es.length ≤ 1000000000) (hlm : b.ms.length ≤ 9223372036854775807) (hlr : b.rs.length ≤ 9223372036854775807) (hew : ∀ x ∈ b.es, I64 x.dom ∧ x.name.Wf ∧ x.real.Wf) (hrw : ∀ x ∈ b.rs, x.note.length ≤ 9223372036854775807):
  Calls Tryd.prog 16 #[.agg #[.int .i64 b.pol.r0.way, .int .i64 b.pol.r0.size, .int .i64 b.pol.r1.way, .int .i64 b.pol.r1.size, .int .i64 b.pol.r2.way, .int .i64 b.pol.r2.size, .int .i64 b.pol.r3.way, .int .i64 b.pol.r3.size, .int .i64 b.pol.r4.way, .int .i64 b.pol.r4.size, .int .i64 b.pol.time, .int .i64 b.pol.note, .bool b.pol.loose, .bool b.pol.force, .slice Ae b.es.length ce, .slice Am b.ms.length cm, .slice Ar b.rs.length cr]] w0 (Ret w0 G (fun v _ => v = .bool (bookB b))) := by
 refine enter Tryd.func16 rfl Tryd.ntmps16 rfl ?_
 intro Q hQ a E
 have S := St.start0 hG
 refine sr fun K hK => ?_
 refine o_boxL [(0, _), (1, _), (2, _), (3, _), (4, _), (5, _), (6, _), (7, _), (8, _), (9, _), (10, _), (11, _), (12, _), (13, _), (14, _), (15, _), (16, _)] E rfl S rfl ⟨rfl, rfl, rfl, rfl, rfl, rfl, rfl, rfl, rfl, rfl, rfl, rfl, rfl, rfl, rfl, rfl, rfl, trivial⟩ ?_; clear E S; intro B1 w a S E
 refine rn 1 E S ?_; clear E S; intro a w E S
 apply hK; clear hK K
 refine wp_seq_k (fun K3 hK2 => ?_)
 refine sr fun K hK => ?_
 refine rn 2 E S ?_; clear E S; intro a w E S
 refine o_callP E rfl S rfl rfl T.g32 (c_right b.pol _ _ S.sub) ?_
 clear E S; rintro _ w a S rfl E
 refine rn 2 E S ?_; clear E S; intro a w E S
 refine cutG 4 15 (.bool ((!(rightB b.pol)) || (!(enteredB b)))) E S ?_ ?_
 ·refine bsp E (t := 11) rfl (fun hb4 => ?_) (fun hb4 => ?_)
  ·refine rn 4 E S ?_; clear E S; intro a w E S
   exact ⟨S, E.cutT (by rw [hb4] <;> rfl)⟩
  ·have hk5 := nm hb4
   refine rn 1 E S ?_; clear E S; intro a w E S
   refine op_on E rfl rfl hb4 ?_
   refine o_callP E rfl S rfl rfl T.g33 (c_entered b _ _ _ _ _ _ _ _ S.sub hg0 hg1 hRe hRm hRr hle hlm hlr hew) ?_
   clear E S; rintro _ w a S rfl E
   refine rn 2 E S ?_; clear E S; intro a w E S
   exact ⟨S, E.cutT (by rw [hb4] <;> rfl)⟩
 clear E S; intro a w E S
 refine rn 1 E S ?_; clear E S; intro a w E S
 refine cutG 11 27 (.bool (((!(rightB b.pol)) || (!(enteredB b))) || ((decide (0 < (b.ms.length : Int))) && (!decide (b.pol.time = 3))))) E S ?_ ?_
 ·refine bsp E (t := 16) rfl (fun hb6 => ?_) (fun hb6 => ?_)
  ·refine rn 11 E S ?_; clear E S; intro a w E S
   exact ⟨S, E.cutT (by rw [hb6] <;> rfl)⟩
  ·have hk7 := nm hb6
   refine rn 5 E S ?_; clear E S; intro a w E S
   refine cutG 5 26 (.bool ((decide (0 < (b.ms.length : Int))) && (!decide (b.pol.time = 3)))) E S ?_ ?_
   ·refine bsp E (t := 21) rfl (fun hb8 => ?_) (fun hb8 => ?_)
    ·have hk9 := nm hb8
     refine rn 5 E S ?_; clear E S; intro a w E S
     exact ⟨S, E.cutT (by rw [hb8] <;> rfl)⟩
    ·refine rn 5 E S ?_; clear E S; intro a w E S
     exact ⟨S, E.cutT (by rw [hb8] <;> rfl)⟩
   clear E S; intro a w E S
   refine rn 1 E S ?_; clear E S; intro a w E S
   exact ⟨S, E.cutT (by rw [hb6] <;> rfl)⟩
 clear E S; intro a w E S
 refine rn 1 E S ?_; clear E S; intro a w E S
 refine cutG 11 39 (.bool ((((!(rightB b.pol)) || (!(enteredB b))) || ((decide (0 < (b.ms.length : Int))) && (!decide (b.pol.time = 3)))) || ((decide (0 < (b.rs.length : Int))) && (!decide (b.pol.note = 4))))) E S ?_ ?_
 ·refine bsp E (t := 28) rfl (fun hb10 => ?_) (fun hb10 => ?_)
  ·refine rn 11 E S ?_; clear E S; intro a w E S
   exact ⟨S, E.cutT (by rw [hb10] <;> rfl)⟩
  ·have hk11 := nm hb10
   refine rn 5 E S ?_; clear E S; intro a w E S
   refine cutG 5 38 (.bool ((decide (0 < (b.rs.length : Int))) && (!decide (b.pol.note = 4)))) E S ?_ ?_
   ·refine bsp E (t := 33) rfl (fun hb12 => ?_) (fun hb12 => ?_)
    ·have hk13 := nm hb12
     refine rn 5 E S ?_; clear E S; intro a w E S
     exact ⟨S, E.cutT (by rw [hb12] <;> rfl)⟩
    ·refine rn 5 E S ?_; clear E S; intro a w E S
     exact ⟨S, E.cutT (by rw [hb12] <;> rfl)⟩
   clear E S; intro a w E S
   refine rn 1 E S ?_; clear E S; intro a w E S
   exact ⟨S, E.cutT (by rw [hb10] <;> rfl)⟩
 clear E S; intro a w E S
 apply hK; clear hK K
 refine cond E rfl (fun h15r => ?_) (fun h15r => ?_)
 ·have h15 := nm h15r
  refine sr fun K hK => ?_
  refine rn 1 E S ?_; clear E S; intro a w E S
  apply hK; clear hK K
  refine rt hQ E S ?_
  have he : bookB b = false := book_bad1 h15r
  show _ = _
  rw [he]
  rfl
 ·have h15 := nm h15r
  refine wp_skip ?_
  refine hK2 _ _ ?_; clear hK2
  refine wp_seq_k (fun K18 hK17 => ?_)
  refine sr fun K hK => ?_
  refine rn 4 E S ?_; clear E S; intro a w E S
  apply hK; clear hK K
  refine wp_block ?_
  refine loop (fun (i : Nat) a' w' => St w0 G [] G w' [[(B1, Cells 32 (PC b [(14, .slice Ae b.es.length ce), (15, .slice Am b.ms.length cm), (16, .slice Ar b.rs.length cr)]))]] ∧ Env a' 119 [] [(1, .pointer (some ⟨B1, 0, none⟩)), (2, .bool false), (41, .slice Am b.ms.length cm), (42, .int .i64 (b.ms.length : Int)), (43, .int .i64 (i : Int))] ∧ (i ≤ b.ms.length ∧ ∀ j, j < i → momOk b j = true)) (fun (i : Nat) => b.ms.length - i) 0 ⟨S, E.cut ⟨rfl, rfl, rfl, rfl, rfl, trivial⟩, ⟨Nat.zero_le _, fun j hj => absurd hj (Nat.not_lt_zero _)⟩⟩ ?_
  clear E S; intro i a w ⟨S, E, ⟨hi, hmo⟩⟩
  refine sr fun K hK => ?_
  refine rn 1 E S ?_; clear E S; intro a w E S
  apply hK; clear hK K
  refine wp_seq_k (fun K23 hK22 => ?_)
  refine cond E rfl (fun h24r => ?_) (fun h24r => ?_)
  ·have h24 := nm h24r
   refine wp_skip ?_
   refine hK22 _ _ ?_; clear hK22
   refine wp_seq_k (fun K26 hK25 => ?_)
   refine wp_block ?_
   refine sr fun K hK => ?_
   refine rn 1 E S ?_; clear E S; intro a w E S
   have hi27 : (i : Int).toNat < b.ms.length := by omega
   obtain ⟨eb27, eo27, hA27, el27⟩ := Rd.at hRm (List.getElem?_eq_getElem hi27); cases hA27
   rw [show b.ms[(i : Int).toNat] = (b.ms.getD i MOM0) from getD_get (i := i) hi27 _] at el27
   have el27 := kMom_open el27
   refine o_ixL E rfl rfl rfl T.l29 ⟨by omega, by omega⟩ ?_; clear E; intro a E
   refine o_ldIA E rfl S rfl el27 T.a74 ?_; clear E; intro a E
   refine o_allocZ E rfl S ?_; clear E S; intro B4 w a S E
   refine rn 2 E S ?_; clear E S; intro a w E S
   apply hK; clear hK K
   refine wp_seq_k (fun K30 hK29 => ?_)
   obtain ⟨eb31, eo31, hc31⟩ : ∃ eb eo, (((!decide (((b.ms.getD i MOM0).rank) = ((i : Int) + 1))) || (decide (((b.ms.getD i MOM0).time) < 0))) = false ∧ (decide (0 < (i : Int))) = true → ((some ⟨eb27, eo27, none⟩) : Option Addr) = some ⟨eb, eo, none⟩ ∧ ElAt kMom G eb (eo + ((i : Int) - 1).toNat * 2) (b.ms.getD ((i : Int) - 1).toNat MOM0)) := by
    by_cases hg : ((!decide (((b.ms.getD i MOM0).rank) = ((i : Int) + 1))) || (decide (((b.ms.getD i MOM0).time) < 0))) = false ∧ (decide (0 < (i : Int))) = true
    ·have hg2 := hg; try simp only [Bool.not_eq_true', Bool.not_eq_false', Bool.and_eq_true, Bool.or_eq_false_iff, decide_eq_true_eq, decide_eq_false_iff_not] at hg2; have hi : ((i : Int) - 1).toNat < b.ms.length := by omega
     obtain ⟨eb, eo, hA, el⟩ := Rd.at hRm (List.getElem?_eq_getElem hi)
     exact ⟨eb, eo, fun _ => ⟨hA, by rw [show b.ms[((i : Int) - 1).toNat] = (b.ms.getD ((i : Int) - 1).toNat MOM0) from getD_get (i := ((i : Int) - 1).toNat) hi _] at el; exact el⟩⟩
    ·exact ⟨0, 0, fun h => absurd h hg⟩
   replace E := E.cut (L' := [(1, .pointer (some ⟨B1, 0, none⟩)), (2, .bool false), (3, .int .i64 (i : Int)), (4, .pointer (some ⟨B4, 0, none⟩)), (41, .slice (some ⟨eb27, eo27, none⟩) b.ms.length cm), (42, .int .i64 (b.ms.length : Int)), (43, .int .i64 (i : Int)), (44, .bool (decide ((i : Int) < (b.ms.length : Int)))), (45, .int .i64 (i : Int)), (46, .pointer (some ⟨eb27, eo27 + (i : Int).toNat * 2, none⟩)), (47, .agg #[.int .i64 ((b.ms.getD i MOM0).rank), .int .i64 ((b.ms.getD i MOM0).time)])]) ⟨rfl, rfl, rfl, rfl, rfl, rfl, rfl, rfl, rfl, rfl, rfl, trivial⟩
   refine drawnP [fun v => v = .pointer (some ⟨B4, 0, none⟩), fun v => v = .int .i64 ((b.ms.getD i MOM0).rank), fun v => v = .int .i64 (i : Int), fun v => v = .int .i64 ((i : Int) + 1), fun v => v = .bool (!decide (((b.ms.getD i MOM0).rank) = ((i : Int) + 1))), fun v => v = .bool (!decide (((b.ms.getD i MOM0).rank) = ((i : Int) + 1))), fun v => (!decide (((b.ms.getD i MOM0).rank) = ((i : Int) + 1))) = false → v = .pointer (some ⟨B4, 1, none⟩), fun v => (!decide (((b.ms.getD i MOM0).rank) = ((i : Int) + 1))) = false → v = .int .i64 ((b.ms.getD i MOM0).time), fun v => (!decide (((b.ms.getD i MOM0).rank) = ((i : Int) + 1))) = false → v = .bool (decide (((b.ms.getD i MOM0).time) < 0)), fun v => v = .bool ((!decide (((b.ms.getD i MOM0).rank) = ((i : Int) + 1))) || (decide (((b.ms.getD i MOM0).time) < 0))), fun v => v = .bool ((!decide (((b.ms.getD i MOM0).rank) = ((i : Int) + 1))) || (decide (((b.ms.getD i MOM0).time) < 0))), fun v => ((!decide (((b.ms.getD i MOM0).rank) = ((i : Int) + 1))) || (decide (((b.ms.getD i MOM0).time) < 0))) = false → v = .int .i64 (i : Int), fun v => ((!decide (((b.ms.getD i MOM0).rank) = ((i : Int) + 1))) || (decide (((b.ms.getD i MOM0).time) < 0))) = false → v = .bool (decide (0 < (i : Int))), fun v => (((!decide (((b.ms.getD i MOM0).rank) = ((i : Int) + 1))) || (decide (((b.ms.getD i MOM0).time) < 0))) = false → v = .bool (decide (0 < (i : Int)))) ∧ (((!decide (((b.ms.getD i MOM0).rank) = ((i : Int) + 1))) || (decide (((b.ms.getD i MOM0).time) < 0))) = true → v = undef), fun v => ((!decide (((b.ms.getD i MOM0).rank) = ((i : Int) + 1))) || (decide (((b.ms.getD i MOM0).time) < 0))) = false → (decide (0 < (i : Int))) = true → v = .pointer (some ⟨B4, 1, none⟩), fun v => ((!decide (((b.ms.getD i MOM0).rank) = ((i : Int) + 1))) || (decide (((b.ms.getD i MOM0).time) < 0))) = false → (decide (0 < (i : Int))) = true → v = .int .i64 ((b.ms.getD i MOM0).time), fun v => ((!decide (((b.ms.getD i MOM0).rank) = ((i : Int) + 1))) || (decide (((b.ms.getD i MOM0).time) < 0))) = false → (decide (0 < (i : Int))) = true → v = .pointer (some ⟨B1, 15, none⟩), fun v => ((!decide (((b.ms.getD i MOM0).rank) = ((i : Int) + 1))) || (decide (((b.ms.getD i MOM0).time) < 0))) = false → (decide (0 < (i : Int))) = true → v = .slice (some ⟨eb27, eo27, none⟩) b.ms.length cm, fun v => ((!decide (((b.ms.getD i MOM0).rank) = ((i : Int) + 1))) || (decide (((b.ms.getD i MOM0).time) < 0))) = false → (decide (0 < (i : Int))) = true → v = .int .i64 (i : Int), fun v => ((!decide (((b.ms.getD i MOM0).rank) = ((i : Int) + 1))) || (decide (((b.ms.getD i MOM0).time) < 0))) = false → (decide (0 < (i : Int))) = true → v = .int .i64 ((i : Int) - 1), fun v => ((!decide (((b.ms.getD i MOM0).rank) = ((i : Int) + 1))) || (decide (((b.ms.getD i MOM0).time) < 0))) = false → (decide (0 < (i : Int))) = true → v = .pointer (some ⟨eb31, eo31 + ((i : Int) - 1).toNat * 2, none⟩), fun v => ((!decide (((b.ms.getD i MOM0).rank) = ((i : Int) + 1))) || (decide (((b.ms.getD i MOM0).time) < 0))) = false → (decide (0 < (i : Int))) = true → v = .pointer (some ⟨eb31, eo31 + ((i : Int) - 1).toNat * 2 + 1, none⟩), fun v => ((!decide (((b.ms.getD i MOM0).rank) = ((i : Int) + 1))) || (decide (((b.ms.getD i MOM0).time) < 0))) = false → (decide (0 < (i : Int))) = true → v = .int .i64 ((b.ms.getD ((i : Int) - 1).toNat MOM0).time), fun v => ((!decide (((b.ms.getD i MOM0).rank) = ((i : Int) + 1))) || (decide (((b.ms.getD i MOM0).time) < 0))) = false → (decide (0 < (i : Int))) = true → v = .bool (decide (((b.ms.getD i MOM0).time) ≤ ((b.ms.getD ((i : Int) - 1).toNat MOM0).time))), fun v => ((!decide (((b.ms.getD i MOM0).rank) = ((i : Int) + 1))) || (decide (((b.ms.getD i MOM0).time) < 0))) = false → v = .bool ((decide (0 < (i : Int))) && (decide (((b.ms.getD i MOM0).time) ≤ ((b.ms.getD ((i : Int) - 1).toNat MOM0).time)))), fun v => v = .bool (((!decide (((b.ms.getD i MOM0).rank) = ((i : Int) + 1))) || (decide (((b.ms.getD i MOM0).time) < 0))) || ((decide (0 < (i : Int))) && (decide (((b.ms.getD i MOM0).time) ≤ ((b.ms.getD ((i : Int) - 1).toNat MOM0).time)))))] T.mix rfl E S rfl ⟨?_, ?_, ?_, ?_, ?_, ?_, ?_, ?_, ?_, ?_, ?_, ?_, ?_, ?_, ?_, ?_, ?_, ?_, ?_, ?_, ?_, ?_, ?_, ?_, ?_, ?_, trivial⟩ ?_
   ·intro a w G1 hl S E hp
    refine o_fld E rfl rfl T.f74_0 ?_; clear E; intro a E
    exact ⟨_, _, S, rfl, E.get _ _ rfl, E.defers, rfl⟩
   ·intro a w G1 hl S E hp
    obtain ⟨_, e0, rfl⟩ := hp 0 48 _ rfl rfl rfl; replace E := E.add e0
    refine o_ld E rfl S rfl T.s2 (.here .here) rfl ?_; clear E; intro a E
    exact ⟨_, _, S, rfl, E.get _ _ rfl, E.defers, rfl⟩
   ·intro a w G1 hl S E hp
    refine o_move E rfl rfl ?_; clear E; intro a E
    exact ⟨_, _, S, rfl, E.get _ _ rfl, E.defers, rfl⟩
   ·intro a w G1 hl S E hp
    obtain ⟨_, e2, rfl⟩ := hp 2 50 _ rfl rfl rfl; replace E := E.add e2
    refine o_add E rfl rfl rfl (by omega) ?_; clear E; intro a E
    exact ⟨_, _, S, rfl, E.get _ _ rfl, E.defers, rfl⟩
   ·intro a w G1 hl S E hp
    obtain ⟨_, e1, rfl⟩ := hp 1 49 _ rfl rfl rfl; replace E := E.add e1
    obtain ⟨_, e3, rfl⟩ := hp 3 51 _ rfl rfl rfl; replace E := E.add e3
    refine o_neI E rfl rfl rfl ?_; clear E; intro a E
    exact ⟨_, _, S, rfl, E.get _ _ rfl, E.defers, rfl⟩
   ·intro a w G1 hl S E hp
    obtain ⟨_, e4, rfl⟩ := hp 4 52 _ rfl rfl rfl; replace E := E.add e4
    refine o_move E rfl rfl ?_; clear E; intro a E
    exact ⟨_, _, S, rfl, E.get _ _ rfl, E.defers, rfl⟩
   ·intro a w G1 hl S E hp
    refine (Bool.eq_false_or_eq_true (!decide (((b.ms.getD i MOM0).rank) = ((i : Int) + 1)))).elim (fun hgd0 => ?_) (fun hgd0 => ?_)
    ·obtain ⟨_, e5, rfl⟩ := hp 5 53 _ rfl rfl rfl; replace E := E.add e5
     refine g_off E rfl rfl rfl hgd0 ?_; clear E; intro a E
     exact ⟨_, _, S, rfl, E.get _ _ rfl, E.defers, fun x0 => absurd (hgd0.symm.trans x0) (by decide)⟩
    ·obtain ⟨_, e5, rfl⟩ := hp 5 53 _ rfl rfl rfl; replace E := E.add e5
     refine op_on E rfl rfl hgd0 ?_
     refine o_fld E rfl rfl T.f74_1 ?_; clear E; intro a E
     exact ⟨_, _, S, rfl, E.get _ _ rfl, E.defers, fun x0 => rfl⟩
   ·intro a w G1 hl S E hp
    refine (Bool.eq_false_or_eq_true (!decide (((b.ms.getD i MOM0).rank) = ((i : Int) + 1)))).elim (fun hgd0 => ?_) (fun hgd0 => ?_)
    ·obtain ⟨_, e5, rfl⟩ := hp 5 53 _ rfl rfl rfl; replace E := E.add e5
     refine g_off E rfl rfl rfl hgd0 ?_; clear E; intro a E
     exact ⟨_, _, S, rfl, E.get _ _ rfl, E.defers, fun x0 => absurd (hgd0.symm.trans x0) (by decide)⟩
    ·obtain ⟨_, e5, rfl⟩ := hp 5 53 _ rfl rfl rfl; replace E := E.add e5
     obtain ⟨_, e6, h6v⟩ := hp 6 54 _ rfl rfl rfl; cases h6v hgd0; replace E := E.add e6
     refine op_on E rfl rfl hgd0 ?_
     refine o_ld E rfl S rfl T.s2 (.here .here) rfl ?_; clear E; intro a E
     exact ⟨_, _, S, rfl, E.get _ _ rfl, E.defers, fun x0 => rfl⟩
   ·intro a w G1 hl S E hp
    refine (Bool.eq_false_or_eq_true (!decide (((b.ms.getD i MOM0).rank) = ((i : Int) + 1)))).elim (fun hgd0 => ?_) (fun hgd0 => ?_)
    ·obtain ⟨_, e5, rfl⟩ := hp 5 53 _ rfl rfl rfl; replace E := E.add e5
     refine g_off E rfl rfl rfl hgd0 ?_; clear E; intro a E
     exact ⟨_, _, S, rfl, E.get _ _ rfl, E.defers, fun x0 => absurd (hgd0.symm.trans x0) (by decide)⟩
    ·obtain ⟨_, e5, rfl⟩ := hp 5 53 _ rfl rfl rfl; replace E := E.add e5
     obtain ⟨_, e7, h7v⟩ := hp 7 55 _ rfl rfl rfl; cases h7v hgd0; replace E := E.add e7
     refine op_on E rfl rfl hgd0 ?_
     refine o_lss E rfl rfl rfl ?_; clear E; intro a E
     exact ⟨_, _, S, rfl, E.get _ _ rfl, E.defers, fun x0 => rfl⟩
   ·intro a w G1 hl S E hp
    obtain ⟨_, e5, rfl⟩ := hp 5 53 _ rfl rfl rfl; replace E := E.add e5
    refine (Bool.eq_false_or_eq_true (!decide (((b.ms.getD i MOM0).rank) = ((i : Int) + 1)))).elim (fun hgd0 => ?_) (fun hgd0 => ?_)
    ·refine o_pick_t E rfl rfl hgd0 rfl ?_; clear E; intro a E
     exact ⟨_, _, S, rfl, E.get _ _ rfl, E.defers, (by rw [hgd0]; rfl)⟩
    ·obtain ⟨_, e8, h8v⟩ := hp 8 56 _ rfl rfl rfl; cases h8v hgd0; replace E := E.add e8
     refine o_pick_f E rfl rfl hgd0 rfl ?_; clear E; intro a E
     exact ⟨_, _, S, rfl, E.get _ _ rfl, E.defers, (by rw [hgd0]; rfl)⟩
   ·intro a w G1 hl S E hp
    obtain ⟨_, e9, rfl⟩ := hp 9 57 _ rfl rfl rfl; replace E := E.add e9
    refine o_move E rfl rfl ?_; clear E; intro a E
    exact ⟨_, _, S, rfl, E.get _ _ rfl, E.defers, rfl⟩
   ·intro a w G1 hl S E hp
    refine (Bool.eq_false_or_eq_true ((!decide (((b.ms.getD i MOM0).rank) = ((i : Int) + 1))) || (decide (((b.ms.getD i MOM0).time) < 0)))).elim (fun hgd0 => ?_) (fun hgd0 => ?_)
    ·obtain ⟨_, e10, rfl⟩ := hp 10 58 _ rfl rfl rfl; replace E := E.add e10
     refine g_off E rfl rfl rfl hgd0 ?_; clear E; intro a E
     exact ⟨_, _, S, rfl, E.get _ _ rfl, E.defers, fun x0 => absurd (hgd0.symm.trans x0) (by decide)⟩
    ·obtain ⟨_, e10, rfl⟩ := hp 10 58 _ rfl rfl rfl; replace E := E.add e10
     refine op_on E rfl rfl hgd0 ?_
     refine o_move E rfl rfl ?_; clear E; intro a E
     exact ⟨_, _, S, rfl, E.get _ _ rfl, E.defers, fun x0 => rfl⟩
   ·intro a w G1 hl S E hp
    refine (Bool.eq_false_or_eq_true ((!decide (((b.ms.getD i MOM0).rank) = ((i : Int) + 1))) || (decide (((b.ms.getD i MOM0).time) < 0)))).elim (fun hgd0 => ?_) (fun hgd0 => ?_)
    ·obtain ⟨_, e10, rfl⟩ := hp 10 58 _ rfl rfl rfl; replace E := E.add e10
     refine g_off E rfl rfl rfl hgd0 ?_; clear E; intro a E
     exact ⟨_, _, S, rfl, E.get _ _ rfl, E.defers, fun x0 => absurd (hgd0.symm.trans x0) (by decide)⟩
    ·obtain ⟨_, e10, rfl⟩ := hp 10 58 _ rfl rfl rfl; replace E := E.add e10
     obtain ⟨_, e11, h11v⟩ := hp 11 59 _ rfl rfl rfl; cases h11v hgd0; replace E := E.add e11
     refine op_on E rfl rfl hgd0 ?_
     refine o_gtr E rfl rfl rfl ?_; clear E; intro a E
     exact ⟨_, _, S, rfl, E.get _ _ rfl, E.defers, fun x0 => rfl⟩
   ·intro a w G1 hl S E hp
    refine (Bool.eq_false_or_eq_true ((!decide (((b.ms.getD i MOM0).rank) = ((i : Int) + 1))) || (decide (((b.ms.getD i MOM0).time) < 0)))).elim (fun hgd0 => ?_) (fun hgd0 => ?_)
    ·obtain ⟨_, e10, rfl⟩ := hp 10 58 _ rfl rfl rfl; replace E := E.add e10
     refine g_off E rfl rfl rfl hgd0 ?_; clear E; intro a E
     exact ⟨_, _, S, rfl, E.get _ _ rfl, E.defers, ⟨fun x0 => absurd (hgd0.symm.trans x0) (by decide), fun x0 => rfl⟩⟩
    ·obtain ⟨_, e10, rfl⟩ := hp 10 58 _ rfl rfl rfl; replace E := E.add e10
     obtain ⟨_, e12, h12v⟩ := hp 12 60 _ rfl rfl rfl; cases h12v hgd0; replace E := E.add e12
     refine op_on E rfl rfl hgd0 ?_
     refine o_move E rfl rfl ?_; clear E; intro a E
     exact ⟨_, _, S, rfl, E.get _ _ rfl, E.defers, ⟨fun x0 => rfl, fun x0 => absurd (hgd0.symm.trans x0) (by decide)⟩⟩
   ·intro a w G1 hl S E hp
    refine (Bool.eq_false_or_eq_true ((!decide (((b.ms.getD i MOM0).rank) = ((i : Int) + 1))) || (decide (((b.ms.getD i MOM0).time) < 0)))).elim (fun hgd0 => ?_) (fun hgd0 => ?_)
    ·obtain ⟨_, eg, hgv⟩ := hp 13 61 _ rfl rfl rfl; cases hgv.2 hgd0; replace E := E.add eg
     refine g_offu E rfl rfl rfl ?_; clear E; intro a E
     exact ⟨_, _, S, rfl, E.get _ _ rfl, E.defers, fun x0 x1 => absurd (hgd0.symm.trans x0) (by decide)⟩
    ·refine (Bool.eq_false_or_eq_true (decide (0 < (i : Int)))).elim (fun hgd1 => ?_) (fun hgd1 => ?_)
     ·obtain ⟨_, e13, h13v⟩ := hp 13 61 _ rfl rfl rfl; cases h13v.1 hgd0; replace E := E.add e13
      refine op_on E rfl rfl hgd1 ?_
      refine o_fld E rfl rfl T.f74_1 ?_; clear E; intro a E
      exact ⟨_, _, S, rfl, E.get _ _ rfl, E.defers, fun x0 x1 => rfl⟩
     ·obtain ⟨_, e13, h13v⟩ := hp 13 61 _ rfl rfl rfl; cases h13v.1 hgd0; replace E := E.add e13
      refine g_off E rfl rfl rfl hgd1 ?_; clear E; intro a E
      exact ⟨_, _, S, rfl, E.get _ _ rfl, E.defers, fun x0 x1 => absurd (hgd1.symm.trans x1) (by decide)⟩
   ·intro a w G1 hl S E hp
    refine (Bool.eq_false_or_eq_true ((!decide (((b.ms.getD i MOM0).rank) = ((i : Int) + 1))) || (decide (((b.ms.getD i MOM0).time) < 0)))).elim (fun hgd0 => ?_) (fun hgd0 => ?_)
    ·obtain ⟨_, eg, hgv⟩ := hp 13 61 _ rfl rfl rfl; cases hgv.2 hgd0; replace E := E.add eg
     refine g_offu E rfl rfl rfl ?_; clear E; intro a E
     exact ⟨_, _, S, rfl, E.get _ _ rfl, E.defers, fun x0 x1 => absurd (hgd0.symm.trans x0) (by decide)⟩
    ·refine (Bool.eq_false_or_eq_true (decide (0 < (i : Int)))).elim (fun hgd1 => ?_) (fun hgd1 => ?_)
     ·obtain ⟨_, e13, h13v⟩ := hp 13 61 _ rfl rfl rfl; cases h13v.1 hgd0; replace E := E.add e13
      obtain ⟨_, e14, h14v⟩ := hp 14 62 _ rfl rfl rfl; cases h14v hgd0 hgd1; replace E := E.add e14
      refine op_on E rfl rfl hgd1 ?_
      refine o_ld E rfl S rfl T.s2 (.here .here) rfl ?_; clear E; intro a E
      exact ⟨_, _, S, rfl, E.get _ _ rfl, E.defers, fun x0 x1 => rfl⟩
     ·obtain ⟨_, e13, h13v⟩ := hp 13 61 _ rfl rfl rfl; cases h13v.1 hgd0; replace E := E.add e13
      refine g_off E rfl rfl rfl hgd1 ?_; clear E; intro a E
      exact ⟨_, _, S, rfl, E.get _ _ rfl, E.defers, fun x0 x1 => absurd (hgd1.symm.trans x1) (by decide)⟩
   ·intro a w G1 hl S E hp
    refine (Bool.eq_false_or_eq_true ((!decide (((b.ms.getD i MOM0).rank) = ((i : Int) + 1))) || (decide (((b.ms.getD i MOM0).time) < 0)))).elim (fun hgd0 => ?_) (fun hgd0 => ?_)
    ·obtain ⟨_, eg, hgv⟩ := hp 13 61 _ rfl rfl rfl; cases hgv.2 hgd0; replace E := E.add eg
     refine g_offu E rfl rfl rfl ?_; clear E; intro a E
     exact ⟨_, _, S, rfl, E.get _ _ rfl, E.defers, fun x0 x1 => absurd (hgd0.symm.trans x0) (by decide)⟩
    ·refine (Bool.eq_false_or_eq_true (decide (0 < (i : Int)))).elim (fun hgd1 => ?_) (fun hgd1 => ?_)
     ·obtain ⟨_, e13, h13v⟩ := hp 13 61 _ rfl rfl rfl; cases h13v.1 hgd0; replace E := E.add e13
      refine op_on E rfl rfl hgd1 ?_
      refine o_fld E rfl rfl T.f32_2 ?_; clear E; intro a E
      exact ⟨_, _, S, rfl, E.get _ _ rfl, E.defers, fun x0 x1 => rfl⟩
     ·obtain ⟨_, e13, h13v⟩ := hp 13 61 _ rfl rfl rfl; cases h13v.1 hgd0; replace E := E.add e13
      refine g_off E rfl rfl rfl hgd1 ?_; clear E; intro a E
      exact ⟨_, _, S, rfl, E.get _ _ rfl, E.defers, fun x0 x1 => absurd (hgd1.symm.trans x1) (by decide)⟩
   ·intro a w G1 hl S E hp
    refine (Bool.eq_false_or_eq_true ((!decide (((b.ms.getD i MOM0).rank) = ((i : Int) + 1))) || (decide (((b.ms.getD i MOM0).time) < 0)))).elim (fun hgd0 => ?_) (fun hgd0 => ?_)
    ·obtain ⟨_, eg, hgv⟩ := hp 13 61 _ rfl rfl rfl; cases hgv.2 hgd0; replace E := E.add eg
     refine g_offu E rfl rfl rfl ?_; clear E; intro a E
     exact ⟨_, _, S, rfl, E.get _ _ rfl, E.defers, fun x0 x1 => absurd (hgd0.symm.trans x0) (by decide)⟩
    ·refine (Bool.eq_false_or_eq_true (decide (0 < (i : Int)))).elim (fun hgd1 => ?_) (fun hgd1 => ?_)
     ·obtain ⟨_, e13, h13v⟩ := hp 13 61 _ rfl rfl rfl; cases h13v.1 hgd0; replace E := E.add e13
      obtain ⟨_, e16, h16v⟩ := hp 16 64 _ rfl rfl rfl; cases h16v hgd0 hgd1; replace E := E.add e16
      refine op_on E rfl rfl hgd1 ?_
      refine o_ld E rfl S rfl T.s29 (.there (.here .here)) rfl ?_; clear E; intro a E
      exact ⟨_, _, S, rfl, E.get _ _ rfl, E.defers, fun x0 x1 => rfl⟩
     ·obtain ⟨_, e13, h13v⟩ := hp 13 61 _ rfl rfl rfl; cases h13v.1 hgd0; replace E := E.add e13
      refine g_off E rfl rfl rfl hgd1 ?_; clear E; intro a E
      exact ⟨_, _, S, rfl, E.get _ _ rfl, E.defers, fun x0 x1 => absurd (hgd1.symm.trans x1) (by decide)⟩
   ·intro a w G1 hl S E hp
    refine (Bool.eq_false_or_eq_true ((!decide (((b.ms.getD i MOM0).rank) = ((i : Int) + 1))) || (decide (((b.ms.getD i MOM0).time) < 0)))).elim (fun hgd0 => ?_) (fun hgd0 => ?_)
    ·obtain ⟨_, eg, hgv⟩ := hp 13 61 _ rfl rfl rfl; cases hgv.2 hgd0; replace E := E.add eg
     refine g_offu E rfl rfl rfl ?_; clear E; intro a E
     exact ⟨_, _, S, rfl, E.get _ _ rfl, E.defers, fun x0 x1 => absurd (hgd0.symm.trans x0) (by decide)⟩
    ·refine (Bool.eq_false_or_eq_true (decide (0 < (i : Int)))).elim (fun hgd1 => ?_) (fun hgd1 => ?_)
     ·obtain ⟨_, e13, h13v⟩ := hp 13 61 _ rfl rfl rfl; cases h13v.1 hgd0; replace E := E.add e13
      refine op_on E rfl rfl hgd1 ?_
      refine o_move E rfl rfl ?_; clear E; intro a E
      exact ⟨_, _, S, rfl, E.get _ _ rfl, E.defers, fun x0 x1 => rfl⟩
     ·obtain ⟨_, e13, h13v⟩ := hp 13 61 _ rfl rfl rfl; cases h13v.1 hgd0; replace E := E.add e13
      refine g_off E rfl rfl rfl hgd1 ?_; clear E; intro a E
      exact ⟨_, _, S, rfl, E.get _ _ rfl, E.defers, fun x0 x1 => absurd (hgd1.symm.trans x1) (by decide)⟩
   ·intro a w G1 hl S E hp
    refine (Bool.eq_false_or_eq_true ((!decide (((b.ms.getD i MOM0).rank) = ((i : Int) + 1))) || (decide (((b.ms.getD i MOM0).time) < 0)))).elim (fun hgd0 => ?_) (fun hgd0 => ?_)
    ·obtain ⟨_, eg, hgv⟩ := hp 13 61 _ rfl rfl rfl; cases hgv.2 hgd0; replace E := E.add eg
     refine g_offu E rfl rfl rfl ?_; clear E; intro a E
     exact ⟨_, _, S, rfl, E.get _ _ rfl, E.defers, fun x0 x1 => absurd (hgd0.symm.trans x0) (by decide)⟩
    ·refine (Bool.eq_false_or_eq_true (decide (0 < (i : Int)))).elim (fun hgd1 => ?_) (fun hgd1 => ?_)
     ·obtain ⟨_, e13, h13v⟩ := hp 13 61 _ rfl rfl rfl; cases h13v.1 hgd0; replace E := E.add e13
      obtain ⟨_, e18, h18v⟩ := hp 18 66 _ rfl rfl rfl; cases h18v hgd0 hgd1; replace E := E.add e18
      refine op_on E rfl rfl hgd1 ?_
      refine o_sub E rfl rfl rfl (by omega) ?_; clear E; intro a E
      exact ⟨_, _, S, rfl, E.get _ _ rfl, E.defers, fun x0 x1 => rfl⟩
     ·obtain ⟨_, e13, h13v⟩ := hp 13 61 _ rfl rfl rfl; cases h13v.1 hgd0; replace E := E.add e13
      refine g_off E rfl rfl rfl hgd1 ?_; clear E; intro a E
      exact ⟨_, _, S, rfl, E.get _ _ rfl, E.defers, fun x0 x1 => absurd (hgd1.symm.trans x1) (by decide)⟩
   ·intro a w G1 hl S E hp
    refine (Bool.eq_false_or_eq_true ((!decide (((b.ms.getD i MOM0).rank) = ((i : Int) + 1))) || (decide (((b.ms.getD i MOM0).time) < 0)))).elim (fun hgd0 => ?_) (fun hgd0 => ?_)
    ·obtain ⟨_, eg, hgv⟩ := hp 13 61 _ rfl rfl rfl; cases hgv.2 hgd0; replace E := E.add eg
     refine g_offu E rfl rfl rfl ?_; clear E; intro a E
     exact ⟨_, _, S, rfl, E.get _ _ rfl, E.defers, fun x0 x1 => absurd (hgd0.symm.trans x0) (by decide)⟩
    ·refine (Bool.eq_false_or_eq_true (decide (0 < (i : Int)))).elim (fun hgd1 => ?_) (fun hgd1 => ?_)
     ·obtain ⟨_, e13, h13v⟩ := hp 13 61 _ rfl rfl rfl; cases h13v.1 hgd0; replace E := E.add e13
      obtain ⟨_, e17, h17v⟩ := hp 17 65 _ rfl rfl rfl; cases h17v hgd0 hgd1; replace E := E.add e17
      obtain ⟨_, e19, h19v⟩ := hp 19 67 _ rfl rfl rfl; cases h19v hgd0 hgd1; replace E := E.add e19
      refine op_on E rfl rfl hgd1 ?_
      have hbk := And.intro hgd0 (hgd1); try simp only [Bool.not_eq_true', Bool.not_eq_false', Bool.and_eq_true, Bool.or_eq_false_iff, decide_eq_true_eq, decide_eq_false_iff_not] at hbk
      obtain ⟨hA31, el31⟩ := hc31 (And.intro hgd0 (hgd1)); cases hA31
      refine o_ixL E rfl rfl rfl T.l29 ⟨by omega, by omega⟩ ?_; clear E; intro a E
      exact ⟨_, _, S, rfl, E.get _ _ rfl, E.defers, fun x0 x1 => rfl⟩
     ·obtain ⟨_, e13, h13v⟩ := hp 13 61 _ rfl rfl rfl; cases h13v.1 hgd0; replace E := E.add e13
      refine g_off E rfl rfl rfl hgd1 ?_; clear E; intro a E
      exact ⟨_, _, S, rfl, E.get _ _ rfl, E.defers, fun x0 x1 => absurd (hgd1.symm.trans x1) (by decide)⟩
   ·intro a w G1 hl S E hp
    refine (Bool.eq_false_or_eq_true ((!decide (((b.ms.getD i MOM0).rank) = ((i : Int) + 1))) || (decide (((b.ms.getD i MOM0).time) < 0)))).elim (fun hgd0 => ?_) (fun hgd0 => ?_)
    ·obtain ⟨_, eg, hgv⟩ := hp 13 61 _ rfl rfl rfl; cases hgv.2 hgd0; replace E := E.add eg
     refine g_offu E rfl rfl rfl ?_; clear E; intro a E
     exact ⟨_, _, S, rfl, E.get _ _ rfl, E.defers, fun x0 x1 => absurd (hgd0.symm.trans x0) (by decide)⟩
    ·refine (Bool.eq_false_or_eq_true (decide (0 < (i : Int)))).elim (fun hgd1 => ?_) (fun hgd1 => ?_)
     ·obtain ⟨_, e13, h13v⟩ := hp 13 61 _ rfl rfl rfl; cases h13v.1 hgd0; replace E := E.add e13
      obtain ⟨_, e20, h20v⟩ := hp 20 68 _ rfl rfl rfl; cases h20v hgd0 hgd1; replace E := E.add e20
      refine op_on E rfl rfl hgd1 ?_
      refine o_fld E rfl rfl T.f74_1 ?_; clear E; intro a E
      exact ⟨_, _, S, rfl, E.get _ _ rfl, E.defers, fun x0 x1 => rfl⟩
     ·obtain ⟨_, e13, h13v⟩ := hp 13 61 _ rfl rfl rfl; cases h13v.1 hgd0; replace E := E.add e13
      refine g_off E rfl rfl rfl hgd1 ?_; clear E; intro a E
      exact ⟨_, _, S, rfl, E.get _ _ rfl, E.defers, fun x0 x1 => absurd (hgd1.symm.trans x1) (by decide)⟩
   ·intro a w G1 hl S E hp
    refine (Bool.eq_false_or_eq_true ((!decide (((b.ms.getD i MOM0).rank) = ((i : Int) + 1))) || (decide (((b.ms.getD i MOM0).time) < 0)))).elim (fun hgd0 => ?_) (fun hgd0 => ?_)
    ·obtain ⟨_, eg, hgv⟩ := hp 13 61 _ rfl rfl rfl; cases hgv.2 hgd0; replace E := E.add eg
     refine g_offu E rfl rfl rfl ?_; clear E; intro a E
     exact ⟨_, _, S, rfl, E.get _ _ rfl, E.defers, fun x0 x1 => absurd (hgd0.symm.trans x0) (by decide)⟩
    ·refine (Bool.eq_false_or_eq_true (decide (0 < (i : Int)))).elim (fun hgd1 => ?_) (fun hgd1 => ?_)
     ·obtain ⟨_, e13, h13v⟩ := hp 13 61 _ rfl rfl rfl; cases h13v.1 hgd0; replace E := E.add e13
      obtain ⟨_, e21, h21v⟩ := hp 21 69 _ rfl rfl rfl; cases h21v hgd0 hgd1; replace E := E.add e21
      refine op_on E rfl rfl hgd1 ?_
      obtain ⟨_, el31⟩ := hc31 (And.intro hgd0 (hgd1))
      have el31 := kMom_open el31
      refine o_ldI E rfl S rfl T.s2 (el31.le hl) (j := 1) rfl rfl ?_; clear E; intro a E
      exact ⟨_, _, S, rfl, E.get _ _ rfl, E.defers, fun x0 x1 => rfl⟩
     ·obtain ⟨_, e13, h13v⟩ := hp 13 61 _ rfl rfl rfl; cases h13v.1 hgd0; replace E := E.add e13
      refine g_off E rfl rfl rfl hgd1 ?_; clear E; intro a E
      exact ⟨_, _, S, rfl, E.get _ _ rfl, E.defers, fun x0 x1 => absurd (hgd1.symm.trans x1) (by decide)⟩
   ·intro a w G1 hl S E hp
    refine (Bool.eq_false_or_eq_true ((!decide (((b.ms.getD i MOM0).rank) = ((i : Int) + 1))) || (decide (((b.ms.getD i MOM0).time) < 0)))).elim (fun hgd0 => ?_) (fun hgd0 => ?_)
    ·obtain ⟨_, eg, hgv⟩ := hp 13 61 _ rfl rfl rfl; cases hgv.2 hgd0; replace E := E.add eg
     refine g_offu E rfl rfl rfl ?_; clear E; intro a E
     exact ⟨_, _, S, rfl, E.get _ _ rfl, E.defers, fun x0 x1 => absurd (hgd0.symm.trans x0) (by decide)⟩
    ·refine (Bool.eq_false_or_eq_true (decide (0 < (i : Int)))).elim (fun hgd1 => ?_) (fun hgd1 => ?_)
     ·obtain ⟨_, e13, h13v⟩ := hp 13 61 _ rfl rfl rfl; cases h13v.1 hgd0; replace E := E.add e13
      obtain ⟨_, e15, h15v⟩ := hp 15 63 _ rfl rfl rfl; cases h15v hgd0 hgd1; replace E := E.add e15
      obtain ⟨_, e22, h22v⟩ := hp 22 70 _ rfl rfl rfl; cases h22v hgd0 hgd1; replace E := E.add e22
      refine op_on E rfl rfl hgd1 ?_
      refine o_leq E rfl rfl rfl ?_; clear E; intro a E
      exact ⟨_, _, S, rfl, E.get _ _ rfl, E.defers, fun x0 x1 => rfl⟩
     ·obtain ⟨_, e13, h13v⟩ := hp 13 61 _ rfl rfl rfl; cases h13v.1 hgd0; replace E := E.add e13
      refine g_off E rfl rfl rfl hgd1 ?_; clear E; intro a E
      exact ⟨_, _, S, rfl, E.get _ _ rfl, E.defers, fun x0 x1 => absurd (hgd1.symm.trans x1) (by decide)⟩
   ·intro a w G1 hl S E hp
    refine (Bool.eq_false_or_eq_true ((!decide (((b.ms.getD i MOM0).rank) = ((i : Int) + 1))) || (decide (((b.ms.getD i MOM0).time) < 0)))).elim (fun hgd0 => ?_) (fun hgd0 => ?_)
    ·obtain ⟨_, e10, rfl⟩ := hp 10 58 _ rfl rfl rfl; replace E := E.add e10
     refine g_off E rfl rfl rfl hgd0 ?_; clear E; intro a E
     exact ⟨_, _, S, rfl, E.get _ _ rfl, E.defers, fun x0 => absurd (hgd0.symm.trans x0) (by decide)⟩
    ·obtain ⟨_, e10, rfl⟩ := hp 10 58 _ rfl rfl rfl; replace E := E.add e10
     refine op_on E rfl rfl hgd0 ?_
     obtain ⟨_, e13, h13v⟩ := hp 13 61 _ rfl rfl rfl; cases h13v.1 hgd0; replace E := E.add e13
     refine (Bool.eq_false_or_eq_true (decide (0 < (i : Int)))).elim (fun hgd1 => ?_) (fun hgd1 => ?_)
     ·obtain ⟨_, e23, h23v⟩ := hp 23 71 _ rfl rfl rfl; cases h23v hgd0 hgd1; replace E := E.add e23
      refine o_pick_t E rfl rfl hgd1 rfl ?_; clear E; intro a E
      exact ⟨_, _, S, rfl, E.get _ _ rfl, E.defers, fun x0 => (by rw [hgd1]; rfl)⟩
     ·refine o_pick_f E rfl rfl hgd1 rfl ?_; clear E; intro a E
      exact ⟨_, _, S, rfl, E.get _ _ rfl, E.defers, fun x0 => (by rw [hgd1]; rfl)⟩
   ·intro a w G1 hl S E hp
    obtain ⟨_, e10, rfl⟩ := hp 10 58 _ rfl rfl rfl; replace E := E.add e10
    refine (Bool.eq_false_or_eq_true ((!decide (((b.ms.getD i MOM0).rank) = ((i : Int) + 1))) || (decide (((b.ms.getD i MOM0).time) < 0)))).elim (fun hgd0 => ?_) (fun hgd0 => ?_)
    ·refine o_pick_t E rfl rfl hgd0 rfl ?_; clear E; intro a E
     exact ⟨_, _, S, rfl, E.get _ _ rfl, E.defers, (by rw [hgd0]; rfl)⟩
    ·obtain ⟨_, e24, h24v⟩ := hp 24 72 _ rfl rfl rfl; cases h24v hgd0; replace E := E.add e24
     refine o_pick_f E rfl rfl hgd0 rfl ?_; clear E; intro a E
     exact ⟨_, _, S, rfl, E.get _ _ rfl, E.defers, (by rw [hgd0]; rfl)⟩
   clear E S; intro a w S E hp
   obtain ⟨_, e25, rfl⟩ := hp 25 73 _ rfl rfl; replace E := E.add e25
   clear hp
   refine hK29 _ _ ?_; clear hK29
   refine cond E rfl (fun h32r => ?_) (fun h32r => ?_)
   ·have h32 := nm h32r
    refine sr fun K hK => ?_
    refine rn 1 E S ?_; clear E S; intro a w E S
    apply hK; clear hK K
    refine rt hQ E S ?_
    have he : bookB b = false := book_m (moms_bad (i := i) (by omega) (by have := h32r; unfold momOk; rw [this]; rfl))
    show _ = _
    rw [he]
    rfl
   ·have h32 := nm h32r
    refine wp_skip ?_
    refine hK25 _ _ ?_; clear hK25
    refine wp_region_lit ?_
    refine rn 2 E S ?_; clear E S; intro a w E S
    replace S := S.drop (M' := [_]) (sub_drop (sub_keep sub_nil))
    have hmo2 : ∀ j, j < i + 1 → momOk b j = true := by
     intro j hj
     rcases Nat.lt_or_ge j i with h_9 | h_9
     ·exact hmo j h_9
     ·obtain rfl : j = i := by omega
      exact (by have := h32r; unfold momOk; rw [this]; rfl)
    exact ⟨i + 1, ⟨S, E.cut ⟨rfl, rfl, rfl, rfl, rfl, trivial⟩, ⟨by omega, hmo2⟩⟩, by omega⟩
  ·have h24 := nm h24r
   refine wp_exit ?_
   refine hK17 _ _ ?_; clear hK17
   refine wp_seq_k (fun K35 hK34 => ?_)
   refine sr fun K hK => ?_
   refine rn 4 E S ?_; clear E S; intro a w E S
   apply hK; clear hK K
   refine wp_block ?_
   refine loop (fun (i : Nat) a' w' => St w0 G [] G w' [[(B1, Cells 32 (PC b [(14, .slice Ae b.es.length ce), (15, .slice Am b.ms.length cm), (16, .slice Ar b.rs.length cr)]))]] ∧ Env a' 119 [] [(1, .pointer (some ⟨B1, 0, none⟩)), (2, .bool false), (76, .slice Ar b.rs.length cr), (77, .int .i64 (b.rs.length : Int)), (78, .int .i64 (i : Int))] ∧ (i ≤ b.rs.length ∧ ∀ j, j < i → remOk b j = true)) (fun (i : Nat) => b.rs.length - i) 0 ⟨S, E.cut ⟨rfl, rfl, rfl, rfl, rfl, trivial⟩, ⟨Nat.zero_le _, fun j hj => absurd hj (Nat.not_lt_zero _)⟩⟩ ?_
   clear E S; intro i a w ⟨S, E, ⟨hi, hro⟩⟩
   refine sr fun K hK => ?_
   refine rn 1 E S ?_; clear E S; intro a w E S
   apply hK; clear hK K
   refine wp_seq_k (fun K40 hK39 => ?_)
   refine cond E rfl (fun h41r => ?_) (fun h41r => ?_)
   ·have h41 := nm h41r
    refine wp_skip ?_
    refine hK39 _ _ ?_; clear hK39
    refine wp_seq_k (fun K43 hK42 => ?_)
    refine wp_block ?_
    refine sr fun K hK => ?_
    refine rn 1 E S ?_; clear E S; intro a w E S
    have hi44 : (i : Int).toNat < b.rs.length := by omega
    obtain ⟨eb44, eo44, hA44, el44⟩ := Rd.at hRr (List.getElem?_eq_getElem hi44); cases hA44
    rw [show b.rs[(i : Int).toNat] = (b.rs.getD i REM0) from getD_get (i := i) hi44 _] at el44
    have el44 := kRem_open el44
    refine o_ixL E rfl rfl rfl T.l30 ⟨by omega, by omega⟩ ?_; clear E; intro a E
    refine o_ldIA E rfl S rfl el44 T.a76 ?_; clear E; intro a E
    refine o_allocZ E rfl S ?_; clear E S; intro B6 w a S E
    refine rn 2 E S ?_; clear E S; intro a w E S
    apply hK; clear hK K
    refine wp_seq_k (fun K47 hK46 => ?_)
    have hsr9 := hrw _ (remm (b := b) (i := i) (by omega))
    obtain ⟨eb48, eo48, hc48⟩ : ∃ eb eo, (((decide (((b.rs.getD i REM0).ev) < 1)) || (decide (4096 < ((b.rs.getD i REM0).ev)))) = false ∧ (decide (0 < (i : Int))) = true → ((some ⟨eb44, eo44, none⟩) : Option Addr) = some ⟨eb, eo, none⟩ ∧ ElAt kRem G eb (eo + ((i : Int) - 1).toNat * 2) (b.rs.getD ((i : Int) - 1).toNat REM0)) := by
     by_cases hg : ((decide (((b.rs.getD i REM0).ev) < 1)) || (decide (4096 < ((b.rs.getD i REM0).ev)))) = false ∧ (decide (0 < (i : Int))) = true
     ·have hg2 := hg; try simp only [Bool.not_eq_true', Bool.not_eq_false', Bool.and_eq_true, Bool.or_eq_false_iff, decide_eq_true_eq, decide_eq_false_iff_not] at hg2; have hi : ((i : Int) - 1).toNat < b.rs.length := by omega
      obtain ⟨eb, eo, hA, el⟩ := Rd.at hRr (List.getElem?_eq_getElem hi)
      exact ⟨eb, eo, fun _ => ⟨hA, by rw [show b.rs[((i : Int) - 1).toNat] = (b.rs.getD ((i : Int) - 1).toNat REM0) from getD_get (i := ((i : Int) - 1).toNat) hi _] at el; exact el⟩⟩
     ·exact ⟨0, 0, fun h => absurd h hg⟩
    replace E := E.cut (L' := [(1, .pointer (some ⟨B1, 0, none⟩)), (2, .bool false), (5, .int .i64 (i : Int)), (6, .pointer (some ⟨B6, 0, none⟩)), (76, .slice (some ⟨eb44, eo44, none⟩) b.rs.length cr), (77, .int .i64 (b.rs.length : Int)), (78, .int .i64 (i : Int)), (79, .bool (decide ((i : Int) < (b.rs.length : Int)))), (80, .int .i64 (i : Int)), (81, .pointer (some ⟨eb44, eo44 + (i : Int).toNat * 2, none⟩)), (82, .agg #[.int .i64 ((b.rs.getD i REM0).ev), str ((b.rs.getD i REM0).note)])]) ⟨rfl, rfl, rfl, rfl, rfl, rfl, rfl, rfl, rfl, rfl, rfl, trivial⟩
    refine drawnP [fun v => v = .pointer (some ⟨B6, 0, none⟩), fun v => v = .int .i64 ((b.rs.getD i REM0).ev), fun v => v = .bool (decide (((b.rs.getD i REM0).ev) < 1)), fun v => v = .bool (decide (((b.rs.getD i REM0).ev) < 1)), fun v => (decide (((b.rs.getD i REM0).ev) < 1)) = false → v = .pointer (some ⟨B6, 0, none⟩), fun v => (decide (((b.rs.getD i REM0).ev) < 1)) = false → v = .int .i64 ((b.rs.getD i REM0).ev), fun v => (decide (((b.rs.getD i REM0).ev) < 1)) = false → v = .bool (decide (4096 < ((b.rs.getD i REM0).ev))), fun v => v = .bool ((decide (((b.rs.getD i REM0).ev) < 1)) || (decide (4096 < ((b.rs.getD i REM0).ev)))), fun v => v = .bool ((decide (((b.rs.getD i REM0).ev) < 1)) || (decide (4096 < ((b.rs.getD i REM0).ev)))), fun v => ((decide (((b.rs.getD i REM0).ev) < 1)) || (decide (4096 < ((b.rs.getD i REM0).ev)))) = false → v = .int .i64 (i : Int), fun v => ((decide (((b.rs.getD i REM0).ev) < 1)) || (decide (4096 < ((b.rs.getD i REM0).ev)))) = false → v = .bool (decide (0 < (i : Int))), fun v => (((decide (((b.rs.getD i REM0).ev) < 1)) || (decide (4096 < ((b.rs.getD i REM0).ev)))) = false → v = .bool (decide (0 < (i : Int)))) ∧ (((decide (((b.rs.getD i REM0).ev) < 1)) || (decide (4096 < ((b.rs.getD i REM0).ev)))) = true → v = undef), fun v => ((decide (((b.rs.getD i REM0).ev) < 1)) || (decide (4096 < ((b.rs.getD i REM0).ev)))) = false → (decide (0 < (i : Int))) = true → v = .pointer (some ⟨B6, 0, none⟩), fun v => ((decide (((b.rs.getD i REM0).ev) < 1)) || (decide (4096 < ((b.rs.getD i REM0).ev)))) = false → (decide (0 < (i : Int))) = true → v = .int .i64 ((b.rs.getD i REM0).ev), fun v => ((decide (((b.rs.getD i REM0).ev) < 1)) || (decide (4096 < ((b.rs.getD i REM0).ev)))) = false → (decide (0 < (i : Int))) = true → v = .pointer (some ⟨B1, 16, none⟩), fun v => ((decide (((b.rs.getD i REM0).ev) < 1)) || (decide (4096 < ((b.rs.getD i REM0).ev)))) = false → (decide (0 < (i : Int))) = true → v = .slice (some ⟨eb44, eo44, none⟩) b.rs.length cr, fun v => ((decide (((b.rs.getD i REM0).ev) < 1)) || (decide (4096 < ((b.rs.getD i REM0).ev)))) = false → (decide (0 < (i : Int))) = true → v = .int .i64 (i : Int), fun v => ((decide (((b.rs.getD i REM0).ev) < 1)) || (decide (4096 < ((b.rs.getD i REM0).ev)))) = false → (decide (0 < (i : Int))) = true → v = .int .i64 ((i : Int) - 1), fun v => ((decide (((b.rs.getD i REM0).ev) < 1)) || (decide (4096 < ((b.rs.getD i REM0).ev)))) = false → (decide (0 < (i : Int))) = true → v = .pointer (some ⟨eb48, eo48 + ((i : Int) - 1).toNat * 2, none⟩), fun v => ((decide (((b.rs.getD i REM0).ev) < 1)) || (decide (4096 < ((b.rs.getD i REM0).ev)))) = false → (decide (0 < (i : Int))) = true → v = .pointer (some ⟨eb48, eo48 + ((i : Int) - 1).toNat * 2 + 0, none⟩), fun v => ((decide (((b.rs.getD i REM0).ev) < 1)) || (decide (4096 < ((b.rs.getD i REM0).ev)))) = false → (decide (0 < (i : Int))) = true → v = .int .i64 ((b.rs.getD ((i : Int) - 1).toNat REM0).ev), fun v => ((decide (((b.rs.getD i REM0).ev) < 1)) || (decide (4096 < ((b.rs.getD i REM0).ev)))) = false → (decide (0 < (i : Int))) = true → v = .bool (decide (((b.rs.getD i REM0).ev) ≤ ((b.rs.getD ((i : Int) - 1).toNat REM0).ev))), fun v => ((decide (((b.rs.getD i REM0).ev) < 1)) || (decide (4096 < ((b.rs.getD i REM0).ev)))) = false → v = .bool ((decide (0 < (i : Int))) && (decide (((b.rs.getD i REM0).ev) ≤ ((b.rs.getD ((i : Int) - 1).toNat REM0).ev)))), fun v => v = .bool (((decide (((b.rs.getD i REM0).ev) < 1)) || (decide (4096 < ((b.rs.getD i REM0).ev)))) || ((decide (0 < (i : Int))) && (decide (((b.rs.getD i REM0).ev) ≤ ((b.rs.getD ((i : Int) - 1).toNat REM0).ev))))), fun v => v = .bool (((decide (((b.rs.getD i REM0).ev) < 1)) || (decide (4096 < ((b.rs.getD i REM0).ev)))) || ((decide (0 < (i : Int))) && (decide (((b.rs.getD i REM0).ev) ≤ ((b.rs.getD ((i : Int) - 1).toNat REM0).ev))))), fun v => (((decide (((b.rs.getD i REM0).ev) < 1)) || (decide (4096 < ((b.rs.getD i REM0).ev)))) || ((decide (0 < (i : Int))) && (decide (((b.rs.getD i REM0).ev) ≤ ((b.rs.getD ((i : Int) - 1).toNat REM0).ev))))) = false → v = .pointer (some ⟨B6, 1, none⟩), fun v => (((decide (((b.rs.getD i REM0).ev) < 1)) || (decide (4096 < ((b.rs.getD i REM0).ev)))) || ((decide (0 < (i : Int))) && (decide (((b.rs.getD i REM0).ev) ≤ ((b.rs.getD ((i : Int) - 1).toNat REM0).ev))))) = false → v = str ((b.rs.getD i REM0).note), fun v => (((decide (((b.rs.getD i REM0).ev) < 1)) || (decide (4096 < ((b.rs.getD i REM0).ev)))) || ((decide (0 < (i : Int))) && (decide (((b.rs.getD i REM0).ev) ≤ ((b.rs.getD ((i : Int) - 1).toNat REM0).ev))))) = false → v = .int .i64 (((b.rs.getD i REM0).note).length : Int), fun v => (((decide (((b.rs.getD i REM0).ev) < 1)) || (decide (4096 < ((b.rs.getD i REM0).ev)))) || ((decide (0 < (i : Int))) && (decide (((b.rs.getD i REM0).ev) ≤ ((b.rs.getD ((i : Int) - 1).toNat REM0).ev))))) = false → v = .bool (decide (100 < (((b.rs.getD i REM0).note).length : Int))), fun v => v = .bool ((((decide (((b.rs.getD i REM0).ev) < 1)) || (decide (4096 < ((b.rs.getD i REM0).ev)))) || ((decide (0 < (i : Int))) && (decide (((b.rs.getD i REM0).ev) ≤ ((b.rs.getD ((i : Int) - 1).toNat REM0).ev))))) || (decide (100 < (((b.rs.getD i REM0).note).length : Int)))), fun v => v = .bool ((((decide (((b.rs.getD i REM0).ev) < 1)) || (decide (4096 < ((b.rs.getD i REM0).ev)))) || ((decide (0 < (i : Int))) && (decide (((b.rs.getD i REM0).ev) ≤ ((b.rs.getD ((i : Int) - 1).toNat REM0).ev))))) || (decide (100 < (((b.rs.getD i REM0).note).length : Int)))), fun v => ((((decide (((b.rs.getD i REM0).ev) < 1)) || (decide (4096 < ((b.rs.getD i REM0).ev)))) || ((decide (0 < (i : Int))) && (decide (((b.rs.getD i REM0).ev) ≤ ((b.rs.getD ((i : Int) - 1).toNat REM0).ev))))) || (decide (100 < (((b.rs.getD i REM0).note).length : Int)))) = false → v = .pointer (some ⟨B6, 1, none⟩), fun v => ((((decide (((b.rs.getD i REM0).ev) < 1)) || (decide (4096 < ((b.rs.getD i REM0).ev)))) || ((decide (0 < (i : Int))) && (decide (((b.rs.getD i REM0).ev) ≤ ((b.rs.getD ((i : Int) - 1).toNat REM0).ev))))) || (decide (100 < (((b.rs.getD i REM0).note).length : Int)))) = false → v = str ((b.rs.getD i REM0).note), fun v => ((((decide (((b.rs.getD i REM0).ev) < 1)) || (decide (4096 < ((b.rs.getD i REM0).ev)))) || ((decide (0 < (i : Int))) && (decide (((b.rs.getD i REM0).ev) ≤ ((b.rs.getD ((i : Int) - 1).toNat REM0).ev))))) || (decide (100 < (((b.rs.getD i REM0).note).length : Int)))) = false → v = .bool (decide (0 ≤ Lib.indexByte ((b.rs.getD i REM0).note) 10)), fun v => v = .bool (((((decide (((b.rs.getD i REM0).ev) < 1)) || (decide (4096 < ((b.rs.getD i REM0).ev)))) || ((decide (0 < (i : Int))) && (decide (((b.rs.getD i REM0).ev) ≤ ((b.rs.getD ((i : Int) - 1).toNat REM0).ev))))) || (decide (100 < (((b.rs.getD i REM0).note).length : Int)))) || (decide (0 ≤ Lib.indexByte ((b.rs.getD i REM0).note) 10)))] T.mix rfl E S rfl ⟨?_, ?_, ?_, ?_, ?_, ?_, ?_, ?_, ?_, ?_, ?_, ?_, ?_, ?_, ?_, ?_, ?_, ?_, ?_, ?_, ?_, ?_, ?_, ?_, ?_, ?_, ?_, ?_, ?_, ?_, ?_, ?_, ?_, ?_, ?_, trivial⟩ ?_
    ·intro a w G1 hl S E hp
     refine o_fld E rfl rfl T.f76_0 ?_; clear E; intro a E
     exact ⟨_, _, S, rfl, E.get _ _ rfl, E.defers, rfl⟩
    ·intro a w G1 hl S E hp
     obtain ⟨_, e0, rfl⟩ := hp 0 83 _ rfl rfl rfl; replace E := E.add e0
     refine o_ld E rfl S rfl T.s3 (.here .here) rfl ?_; clear E; intro a E
     exact ⟨_, _, S, rfl, E.get _ _ rfl, E.defers, rfl⟩
    ·intro a w G1 hl S E hp
     obtain ⟨_, e1, rfl⟩ := hp 1 84 _ rfl rfl rfl; replace E := E.add e1
     refine o_lss E rfl rfl rfl ?_; clear E; intro a E
     exact ⟨_, _, S, rfl, E.get _ _ rfl, E.defers, rfl⟩
    ·intro a w G1 hl S E hp
     obtain ⟨_, e2, rfl⟩ := hp 2 85 _ rfl rfl rfl; replace E := E.add e2
     refine o_move E rfl rfl ?_; clear E; intro a E
     exact ⟨_, _, S, rfl, E.get _ _ rfl, E.defers, rfl⟩
    ·intro a w G1 hl S E hp
     refine (Bool.eq_false_or_eq_true (decide (((b.rs.getD i REM0).ev) < 1))).elim (fun hgd0 => ?_) (fun hgd0 => ?_)
     ·obtain ⟨_, e3, rfl⟩ := hp 3 86 _ rfl rfl rfl; replace E := E.add e3
      refine g_off E rfl rfl rfl hgd0 ?_; clear E; intro a E
      exact ⟨_, _, S, rfl, E.get _ _ rfl, E.defers, fun x0 => absurd (hgd0.symm.trans x0) (by decide)⟩
     ·obtain ⟨_, e3, rfl⟩ := hp 3 86 _ rfl rfl rfl; replace E := E.add e3
      refine op_on E rfl rfl hgd0 ?_
      refine o_fld E rfl rfl T.f76_0 ?_; clear E; intro a E
      exact ⟨_, _, S, rfl, E.get _ _ rfl, E.defers, fun x0 => rfl⟩
    ·intro a w G1 hl S E hp
     refine (Bool.eq_false_or_eq_true (decide (((b.rs.getD i REM0).ev) < 1))).elim (fun hgd0 => ?_) (fun hgd0 => ?_)
     ·obtain ⟨_, e3, rfl⟩ := hp 3 86 _ rfl rfl rfl; replace E := E.add e3
      refine g_off E rfl rfl rfl hgd0 ?_; clear E; intro a E
      exact ⟨_, _, S, rfl, E.get _ _ rfl, E.defers, fun x0 => absurd (hgd0.symm.trans x0) (by decide)⟩
     ·obtain ⟨_, e3, rfl⟩ := hp 3 86 _ rfl rfl rfl; replace E := E.add e3
      obtain ⟨_, e4, h4v⟩ := hp 4 87 _ rfl rfl rfl; cases h4v hgd0; replace E := E.add e4
      refine op_on E rfl rfl hgd0 ?_
      refine o_ld E rfl S rfl T.s3 (.here .here) rfl ?_; clear E; intro a E
      exact ⟨_, _, S, rfl, E.get _ _ rfl, E.defers, fun x0 => rfl⟩
    ·intro a w G1 hl S E hp
     refine (Bool.eq_false_or_eq_true (decide (((b.rs.getD i REM0).ev) < 1))).elim (fun hgd0 => ?_) (fun hgd0 => ?_)
     ·obtain ⟨_, e3, rfl⟩ := hp 3 86 _ rfl rfl rfl; replace E := E.add e3
      refine g_off E rfl rfl rfl hgd0 ?_; clear E; intro a E
      exact ⟨_, _, S, rfl, E.get _ _ rfl, E.defers, fun x0 => absurd (hgd0.symm.trans x0) (by decide)⟩
     ·obtain ⟨_, e3, rfl⟩ := hp 3 86 _ rfl rfl rfl; replace E := E.add e3
      obtain ⟨_, e5, h5v⟩ := hp 5 88 _ rfl rfl rfl; cases h5v hgd0; replace E := E.add e5
      refine op_on E rfl rfl hgd0 ?_
      refine o_gtr E rfl rfl rfl ?_; clear E; intro a E
      exact ⟨_, _, S, rfl, E.get _ _ rfl, E.defers, fun x0 => rfl⟩
    ·intro a w G1 hl S E hp
     obtain ⟨_, e3, rfl⟩ := hp 3 86 _ rfl rfl rfl; replace E := E.add e3
     refine (Bool.eq_false_or_eq_true (decide (((b.rs.getD i REM0).ev) < 1))).elim (fun hgd0 => ?_) (fun hgd0 => ?_)
     ·refine o_pick_t E rfl rfl hgd0 rfl ?_; clear E; intro a E
      exact ⟨_, _, S, rfl, E.get _ _ rfl, E.defers, (by rw [hgd0]; rfl)⟩
     ·obtain ⟨_, e6, h6v⟩ := hp 6 89 _ rfl rfl rfl; cases h6v hgd0; replace E := E.add e6
      refine o_pick_f E rfl rfl hgd0 rfl ?_; clear E; intro a E
      exact ⟨_, _, S, rfl, E.get _ _ rfl, E.defers, (by rw [hgd0]; rfl)⟩
    ·intro a w G1 hl S E hp
     obtain ⟨_, e7, rfl⟩ := hp 7 90 _ rfl rfl rfl; replace E := E.add e7
     refine o_move E rfl rfl ?_; clear E; intro a E
     exact ⟨_, _, S, rfl, E.get _ _ rfl, E.defers, rfl⟩
    ·intro a w G1 hl S E hp
     refine (Bool.eq_false_or_eq_true ((decide (((b.rs.getD i REM0).ev) < 1)) || (decide (4096 < ((b.rs.getD i REM0).ev))))).elim (fun hgd0 => ?_) (fun hgd0 => ?_)
     ·obtain ⟨_, e8, rfl⟩ := hp 8 91 _ rfl rfl rfl; replace E := E.add e8
      refine g_off E rfl rfl rfl hgd0 ?_; clear E; intro a E
      exact ⟨_, _, S, rfl, E.get _ _ rfl, E.defers, fun x0 => absurd (hgd0.symm.trans x0) (by decide)⟩
     ·obtain ⟨_, e8, rfl⟩ := hp 8 91 _ rfl rfl rfl; replace E := E.add e8
      refine op_on E rfl rfl hgd0 ?_
      refine o_move E rfl rfl ?_; clear E; intro a E
      exact ⟨_, _, S, rfl, E.get _ _ rfl, E.defers, fun x0 => rfl⟩
    ·intro a w G1 hl S E hp
     refine (Bool.eq_false_or_eq_true ((decide (((b.rs.getD i REM0).ev) < 1)) || (decide (4096 < ((b.rs.getD i REM0).ev))))).elim (fun hgd0 => ?_) (fun hgd0 => ?_)
     ·obtain ⟨_, e8, rfl⟩ := hp 8 91 _ rfl rfl rfl; replace E := E.add e8
      refine g_off E rfl rfl rfl hgd0 ?_; clear E; intro a E
      exact ⟨_, _, S, rfl, E.get _ _ rfl, E.defers, fun x0 => absurd (hgd0.symm.trans x0) (by decide)⟩
     ·obtain ⟨_, e8, rfl⟩ := hp 8 91 _ rfl rfl rfl; replace E := E.add e8
      obtain ⟨_, e9, h9v⟩ := hp 9 92 _ rfl rfl rfl; cases h9v hgd0; replace E := E.add e9
      refine op_on E rfl rfl hgd0 ?_
      refine o_gtr E rfl rfl rfl ?_; clear E; intro a E
      exact ⟨_, _, S, rfl, E.get _ _ rfl, E.defers, fun x0 => rfl⟩
    ·intro a w G1 hl S E hp
     refine (Bool.eq_false_or_eq_true ((decide (((b.rs.getD i REM0).ev) < 1)) || (decide (4096 < ((b.rs.getD i REM0).ev))))).elim (fun hgd0 => ?_) (fun hgd0 => ?_)
     ·obtain ⟨_, e8, rfl⟩ := hp 8 91 _ rfl rfl rfl; replace E := E.add e8
      refine g_off E rfl rfl rfl hgd0 ?_; clear E; intro a E
      exact ⟨_, _, S, rfl, E.get _ _ rfl, E.defers, ⟨fun x0 => absurd (hgd0.symm.trans x0) (by decide), fun x0 => rfl⟩⟩
     ·obtain ⟨_, e8, rfl⟩ := hp 8 91 _ rfl rfl rfl; replace E := E.add e8
      obtain ⟨_, e10, h10v⟩ := hp 10 93 _ rfl rfl rfl; cases h10v hgd0; replace E := E.add e10
      refine op_on E rfl rfl hgd0 ?_
      refine o_move E rfl rfl ?_; clear E; intro a E
      exact ⟨_, _, S, rfl, E.get _ _ rfl, E.defers, ⟨fun x0 => rfl, fun x0 => absurd (hgd0.symm.trans x0) (by decide)⟩⟩
    ·intro a w G1 hl S E hp
     refine (Bool.eq_false_or_eq_true ((decide (((b.rs.getD i REM0).ev) < 1)) || (decide (4096 < ((b.rs.getD i REM0).ev))))).elim (fun hgd0 => ?_) (fun hgd0 => ?_)
     ·obtain ⟨_, eg, hgv⟩ := hp 11 94 _ rfl rfl rfl; cases hgv.2 hgd0; replace E := E.add eg
      refine g_offu E rfl rfl rfl ?_; clear E; intro a E
      exact ⟨_, _, S, rfl, E.get _ _ rfl, E.defers, fun x0 x1 => absurd (hgd0.symm.trans x0) (by decide)⟩
     ·refine (Bool.eq_false_or_eq_true (decide (0 < (i : Int)))).elim (fun hgd1 => ?_) (fun hgd1 => ?_)
      ·obtain ⟨_, e11, h11v⟩ := hp 11 94 _ rfl rfl rfl; cases h11v.1 hgd0; replace E := E.add e11
       refine op_on E rfl rfl hgd1 ?_
       refine o_fld E rfl rfl T.f76_0 ?_; clear E; intro a E
       exact ⟨_, _, S, rfl, E.get _ _ rfl, E.defers, fun x0 x1 => rfl⟩
      ·obtain ⟨_, e11, h11v⟩ := hp 11 94 _ rfl rfl rfl; cases h11v.1 hgd0; replace E := E.add e11
       refine g_off E rfl rfl rfl hgd1 ?_; clear E; intro a E
       exact ⟨_, _, S, rfl, E.get _ _ rfl, E.defers, fun x0 x1 => absurd (hgd1.symm.trans x1) (by decide)⟩
    ·intro a w G1 hl S E hp
     refine (Bool.eq_false_or_eq_true ((decide (((b.rs.getD i REM0).ev) < 1)) || (decide (4096 < ((b.rs.getD i REM0).ev))))).elim (fun hgd0 => ?_) (fun hgd0 => ?_)
     ·obtain ⟨_, eg, hgv⟩ := hp 11 94 _ rfl rfl rfl; cases hgv.2 hgd0; replace E := E.add eg
      refine g_offu E rfl rfl rfl ?_; clear E; intro a E
      exact ⟨_, _, S, rfl, E.get _ _ rfl, E.defers, fun x0 x1 => absurd (hgd0.symm.trans x0) (by decide)⟩
     ·refine (Bool.eq_false_or_eq_true (decide (0 < (i : Int)))).elim (fun hgd1 => ?_) (fun hgd1 => ?_)
      ·obtain ⟨_, e11, h11v⟩ := hp 11 94 _ rfl rfl rfl; cases h11v.1 hgd0; replace E := E.add e11
       obtain ⟨_, e12, h12v⟩ := hp 12 95 _ rfl rfl rfl; cases h12v hgd0 hgd1; replace E := E.add e12
       refine op_on E rfl rfl hgd1 ?_
       refine o_ld E rfl S rfl T.s3 (.here .here) rfl ?_; clear E; intro a E
       exact ⟨_, _, S, rfl, E.get _ _ rfl, E.defers, fun x0 x1 => rfl⟩
      ·obtain ⟨_, e11, h11v⟩ := hp 11 94 _ rfl rfl rfl; cases h11v.1 hgd0; replace E := E.add e11
       refine g_off E rfl rfl rfl hgd1 ?_; clear E; intro a E
       exact ⟨_, _, S, rfl, E.get _ _ rfl, E.defers, fun x0 x1 => absurd (hgd1.symm.trans x1) (by decide)⟩
    ·intro a w G1 hl S E hp
     refine (Bool.eq_false_or_eq_true ((decide (((b.rs.getD i REM0).ev) < 1)) || (decide (4096 < ((b.rs.getD i REM0).ev))))).elim (fun hgd0 => ?_) (fun hgd0 => ?_)
     ·obtain ⟨_, eg, hgv⟩ := hp 11 94 _ rfl rfl rfl; cases hgv.2 hgd0; replace E := E.add eg
      refine g_offu E rfl rfl rfl ?_; clear E; intro a E
      exact ⟨_, _, S, rfl, E.get _ _ rfl, E.defers, fun x0 x1 => absurd (hgd0.symm.trans x0) (by decide)⟩
     ·refine (Bool.eq_false_or_eq_true (decide (0 < (i : Int)))).elim (fun hgd1 => ?_) (fun hgd1 => ?_)
      ·obtain ⟨_, e11, h11v⟩ := hp 11 94 _ rfl rfl rfl; cases h11v.1 hgd0; replace E := E.add e11
       refine op_on E rfl rfl hgd1 ?_
       refine o_fld E rfl rfl T.f32_3 ?_; clear E; intro a E
       exact ⟨_, _, S, rfl, E.get _ _ rfl, E.defers, fun x0 x1 => rfl⟩
      ·obtain ⟨_, e11, h11v⟩ := hp 11 94 _ rfl rfl rfl; cases h11v.1 hgd0; replace E := E.add e11
       refine g_off E rfl rfl rfl hgd1 ?_; clear E; intro a E
       exact ⟨_, _, S, rfl, E.get _ _ rfl, E.defers, fun x0 x1 => absurd (hgd1.symm.trans x1) (by decide)⟩
    ·intro a w G1 hl S E hp
     refine (Bool.eq_false_or_eq_true ((decide (((b.rs.getD i REM0).ev) < 1)) || (decide (4096 < ((b.rs.getD i REM0).ev))))).elim (fun hgd0 => ?_) (fun hgd0 => ?_)
     ·obtain ⟨_, eg, hgv⟩ := hp 11 94 _ rfl rfl rfl; cases hgv.2 hgd0; replace E := E.add eg
      refine g_offu E rfl rfl rfl ?_; clear E; intro a E
      exact ⟨_, _, S, rfl, E.get _ _ rfl, E.defers, fun x0 x1 => absurd (hgd0.symm.trans x0) (by decide)⟩
     ·refine (Bool.eq_false_or_eq_true (decide (0 < (i : Int)))).elim (fun hgd1 => ?_) (fun hgd1 => ?_)
      ·obtain ⟨_, e11, h11v⟩ := hp 11 94 _ rfl rfl rfl; cases h11v.1 hgd0; replace E := E.add e11
       obtain ⟨_, e14, h14v⟩ := hp 14 97 _ rfl rfl rfl; cases h14v hgd0 hgd1; replace E := E.add e14
       refine op_on E rfl rfl hgd1 ?_
       refine o_ld E rfl S rfl T.s30 (.there (.here .here)) rfl ?_; clear E; intro a E
       exact ⟨_, _, S, rfl, E.get _ _ rfl, E.defers, fun x0 x1 => rfl⟩
      ·obtain ⟨_, e11, h11v⟩ := hp 11 94 _ rfl rfl rfl; cases h11v.1 hgd0; replace E := E.add e11
       refine g_off E rfl rfl rfl hgd1 ?_; clear E; intro a E
       exact ⟨_, _, S, rfl, E.get _ _ rfl, E.defers, fun x0 x1 => absurd (hgd1.symm.trans x1) (by decide)⟩
    ·intro a w G1 hl S E hp
     refine (Bool.eq_false_or_eq_true ((decide (((b.rs.getD i REM0).ev) < 1)) || (decide (4096 < ((b.rs.getD i REM0).ev))))).elim (fun hgd0 => ?_) (fun hgd0 => ?_)
     ·obtain ⟨_, eg, hgv⟩ := hp 11 94 _ rfl rfl rfl; cases hgv.2 hgd0; replace E := E.add eg
      refine g_offu E rfl rfl rfl ?_; clear E; intro a E
      exact ⟨_, _, S, rfl, E.get _ _ rfl, E.defers, fun x0 x1 => absurd (hgd0.symm.trans x0) (by decide)⟩
     ·refine (Bool.eq_false_or_eq_true (decide (0 < (i : Int)))).elim (fun hgd1 => ?_) (fun hgd1 => ?_)
      ·obtain ⟨_, e11, h11v⟩ := hp 11 94 _ rfl rfl rfl; cases h11v.1 hgd0; replace E := E.add e11
       refine op_on E rfl rfl hgd1 ?_
       refine o_move E rfl rfl ?_; clear E; intro a E
       exact ⟨_, _, S, rfl, E.get _ _ rfl, E.defers, fun x0 x1 => rfl⟩
      ·obtain ⟨_, e11, h11v⟩ := hp 11 94 _ rfl rfl rfl; cases h11v.1 hgd0; replace E := E.add e11
       refine g_off E rfl rfl rfl hgd1 ?_; clear E; intro a E
       exact ⟨_, _, S, rfl, E.get _ _ rfl, E.defers, fun x0 x1 => absurd (hgd1.symm.trans x1) (by decide)⟩
    ·intro a w G1 hl S E hp
     refine (Bool.eq_false_or_eq_true ((decide (((b.rs.getD i REM0).ev) < 1)) || (decide (4096 < ((b.rs.getD i REM0).ev))))).elim (fun hgd0 => ?_) (fun hgd0 => ?_)
     ·obtain ⟨_, eg, hgv⟩ := hp 11 94 _ rfl rfl rfl; cases hgv.2 hgd0; replace E := E.add eg
      refine g_offu E rfl rfl rfl ?_; clear E; intro a E
      exact ⟨_, _, S, rfl, E.get _ _ rfl, E.defers, fun x0 x1 => absurd (hgd0.symm.trans x0) (by decide)⟩
     ·refine (Bool.eq_false_or_eq_true (decide (0 < (i : Int)))).elim (fun hgd1 => ?_) (fun hgd1 => ?_)
      ·obtain ⟨_, e11, h11v⟩ := hp 11 94 _ rfl rfl rfl; cases h11v.1 hgd0; replace E := E.add e11
       obtain ⟨_, e16, h16v⟩ := hp 16 99 _ rfl rfl rfl; cases h16v hgd0 hgd1; replace E := E.add e16
       refine op_on E rfl rfl hgd1 ?_
       refine o_sub E rfl rfl rfl (by omega) ?_; clear E; intro a E
       exact ⟨_, _, S, rfl, E.get _ _ rfl, E.defers, fun x0 x1 => rfl⟩
      ·obtain ⟨_, e11, h11v⟩ := hp 11 94 _ rfl rfl rfl; cases h11v.1 hgd0; replace E := E.add e11
       refine g_off E rfl rfl rfl hgd1 ?_; clear E; intro a E
       exact ⟨_, _, S, rfl, E.get _ _ rfl, E.defers, fun x0 x1 => absurd (hgd1.symm.trans x1) (by decide)⟩
    ·intro a w G1 hl S E hp
     refine (Bool.eq_false_or_eq_true ((decide (((b.rs.getD i REM0).ev) < 1)) || (decide (4096 < ((b.rs.getD i REM0).ev))))).elim (fun hgd0 => ?_) (fun hgd0 => ?_)
     ·obtain ⟨_, eg, hgv⟩ := hp 11 94 _ rfl rfl rfl; cases hgv.2 hgd0; replace E := E.add eg
      refine g_offu E rfl rfl rfl ?_; clear E; intro a E
      exact ⟨_, _, S, rfl, E.get _ _ rfl, E.defers, fun x0 x1 => absurd (hgd0.symm.trans x0) (by decide)⟩
     ·refine (Bool.eq_false_or_eq_true (decide (0 < (i : Int)))).elim (fun hgd1 => ?_) (fun hgd1 => ?_)
      ·obtain ⟨_, e11, h11v⟩ := hp 11 94 _ rfl rfl rfl; cases h11v.1 hgd0; replace E := E.add e11
       obtain ⟨_, e15, h15v⟩ := hp 15 98 _ rfl rfl rfl; cases h15v hgd0 hgd1; replace E := E.add e15
       obtain ⟨_, e17, h17v⟩ := hp 17 100 _ rfl rfl rfl; cases h17v hgd0 hgd1; replace E := E.add e17
       refine op_on E rfl rfl hgd1 ?_
       have hbk := And.intro hgd0 (hgd1); try simp only [Bool.not_eq_true', Bool.not_eq_false', Bool.and_eq_true, Bool.or_eq_false_iff, decide_eq_true_eq, decide_eq_false_iff_not] at hbk
       obtain ⟨hA48, el48⟩ := hc48 (And.intro hgd0 (hgd1)); cases hA48
       refine o_ixL E rfl rfl rfl T.l30 ⟨by omega, by omega⟩ ?_; clear E; intro a E
       exact ⟨_, _, S, rfl, E.get _ _ rfl, E.defers, fun x0 x1 => rfl⟩
      ·obtain ⟨_, e11, h11v⟩ := hp 11 94 _ rfl rfl rfl; cases h11v.1 hgd0; replace E := E.add e11
       refine g_off E rfl rfl rfl hgd1 ?_; clear E; intro a E
       exact ⟨_, _, S, rfl, E.get _ _ rfl, E.defers, fun x0 x1 => absurd (hgd1.symm.trans x1) (by decide)⟩
    ·intro a w G1 hl S E hp
     refine (Bool.eq_false_or_eq_true ((decide (((b.rs.getD i REM0).ev) < 1)) || (decide (4096 < ((b.rs.getD i REM0).ev))))).elim (fun hgd0 => ?_) (fun hgd0 => ?_)
     ·obtain ⟨_, eg, hgv⟩ := hp 11 94 _ rfl rfl rfl; cases hgv.2 hgd0; replace E := E.add eg
      refine g_offu E rfl rfl rfl ?_; clear E; intro a E
      exact ⟨_, _, S, rfl, E.get _ _ rfl, E.defers, fun x0 x1 => absurd (hgd0.symm.trans x0) (by decide)⟩
     ·refine (Bool.eq_false_or_eq_true (decide (0 < (i : Int)))).elim (fun hgd1 => ?_) (fun hgd1 => ?_)
      ·obtain ⟨_, e11, h11v⟩ := hp 11 94 _ rfl rfl rfl; cases h11v.1 hgd0; replace E := E.add e11
       obtain ⟨_, e18, h18v⟩ := hp 18 101 _ rfl rfl rfl; cases h18v hgd0 hgd1; replace E := E.add e18
       refine op_on E rfl rfl hgd1 ?_
       refine o_fld E rfl rfl T.f76_0 ?_; clear E; intro a E
       exact ⟨_, _, S, rfl, E.get _ _ rfl, E.defers, fun x0 x1 => rfl⟩
      ·obtain ⟨_, e11, h11v⟩ := hp 11 94 _ rfl rfl rfl; cases h11v.1 hgd0; replace E := E.add e11
       refine g_off E rfl rfl rfl hgd1 ?_; clear E; intro a E
       exact ⟨_, _, S, rfl, E.get _ _ rfl, E.defers, fun x0 x1 => absurd (hgd1.symm.trans x1) (by decide)⟩
    ·intro a w G1 hl S E hp
     refine (Bool.eq_false_or_eq_true ((decide (((b.rs.getD i REM0).ev) < 1)) || (decide (4096 < ((b.rs.getD i REM0).ev))))).elim (fun hgd0 => ?_) (fun hgd0 => ?_)
     ·obtain ⟨_, eg, hgv⟩ := hp 11 94 _ rfl rfl rfl; cases hgv.2 hgd0; replace E := E.add eg
      refine g_offu E rfl rfl rfl ?_; clear E; intro a E
      exact ⟨_, _, S, rfl, E.get _ _ rfl, E.defers, fun x0 x1 => absurd (hgd0.symm.trans x0) (by decide)⟩
     ·refine (Bool.eq_false_or_eq_true (decide (0 < (i : Int)))).elim (fun hgd1 => ?_) (fun hgd1 => ?_)
      ·obtain ⟨_, e11, h11v⟩ := hp 11 94 _ rfl rfl rfl; cases h11v.1 hgd0; replace E := E.add e11
       obtain ⟨_, e19, h19v⟩ := hp 19 102 _ rfl rfl rfl; cases h19v hgd0 hgd1; replace E := E.add e19
       refine op_on E rfl rfl hgd1 ?_
       obtain ⟨_, el48⟩ := hc48 (And.intro hgd0 (hgd1))
       have el48 := kRem_open el48
       refine o_ldI E rfl S rfl T.s3 (el48.le hl) (j := 0) rfl rfl ?_; clear E; intro a E
       exact ⟨_, _, S, rfl, E.get _ _ rfl, E.defers, fun x0 x1 => rfl⟩
      ·obtain ⟨_, e11, h11v⟩ := hp 11 94 _ rfl rfl rfl; cases h11v.1 hgd0; replace E := E.add e11
       refine g_off E rfl rfl rfl hgd1 ?_; clear E; intro a E
       exact ⟨_, _, S, rfl, E.get _ _ rfl, E.defers, fun x0 x1 => absurd (hgd1.symm.trans x1) (by decide)⟩
    ·intro a w G1 hl S E hp
     refine (Bool.eq_false_or_eq_true ((decide (((b.rs.getD i REM0).ev) < 1)) || (decide (4096 < ((b.rs.getD i REM0).ev))))).elim (fun hgd0 => ?_) (fun hgd0 => ?_)
     ·obtain ⟨_, eg, hgv⟩ := hp 11 94 _ rfl rfl rfl; cases hgv.2 hgd0; replace E := E.add eg
      refine g_offu E rfl rfl rfl ?_; clear E; intro a E
      exact ⟨_, _, S, rfl, E.get _ _ rfl, E.defers, fun x0 x1 => absurd (hgd0.symm.trans x0) (by decide)⟩
     ·refine (Bool.eq_false_or_eq_true (decide (0 < (i : Int)))).elim (fun hgd1 => ?_) (fun hgd1 => ?_)
      ·obtain ⟨_, e11, h11v⟩ := hp 11 94 _ rfl rfl rfl; cases h11v.1 hgd0; replace E := E.add e11
       obtain ⟨_, e13, h13v⟩ := hp 13 96 _ rfl rfl rfl; cases h13v hgd0 hgd1; replace E := E.add e13
       obtain ⟨_, e20, h20v⟩ := hp 20 103 _ rfl rfl rfl; cases h20v hgd0 hgd1; replace E := E.add e20
       refine op_on E rfl rfl hgd1 ?_
       refine o_leq E rfl rfl rfl ?_; clear E; intro a E
       exact ⟨_, _, S, rfl, E.get _ _ rfl, E.defers, fun x0 x1 => rfl⟩
      ·obtain ⟨_, e11, h11v⟩ := hp 11 94 _ rfl rfl rfl; cases h11v.1 hgd0; replace E := E.add e11
       refine g_off E rfl rfl rfl hgd1 ?_; clear E; intro a E
       exact ⟨_, _, S, rfl, E.get _ _ rfl, E.defers, fun x0 x1 => absurd (hgd1.symm.trans x1) (by decide)⟩
    ·intro a w G1 hl S E hp
     refine (Bool.eq_false_or_eq_true ((decide (((b.rs.getD i REM0).ev) < 1)) || (decide (4096 < ((b.rs.getD i REM0).ev))))).elim (fun hgd0 => ?_) (fun hgd0 => ?_)
     ·obtain ⟨_, e8, rfl⟩ := hp 8 91 _ rfl rfl rfl; replace E := E.add e8
      refine g_off E rfl rfl rfl hgd0 ?_; clear E; intro a E
      exact ⟨_, _, S, rfl, E.get _ _ rfl, E.defers, fun x0 => absurd (hgd0.symm.trans x0) (by decide)⟩
     ·obtain ⟨_, e8, rfl⟩ := hp 8 91 _ rfl rfl rfl; replace E := E.add e8
      refine op_on E rfl rfl hgd0 ?_
      obtain ⟨_, e11, h11v⟩ := hp 11 94 _ rfl rfl rfl; cases h11v.1 hgd0; replace E := E.add e11
      refine (Bool.eq_false_or_eq_true (decide (0 < (i : Int)))).elim (fun hgd1 => ?_) (fun hgd1 => ?_)
      ·obtain ⟨_, e21, h21v⟩ := hp 21 104 _ rfl rfl rfl; cases h21v hgd0 hgd1; replace E := E.add e21
       refine o_pick_t E rfl rfl hgd1 rfl ?_; clear E; intro a E
       exact ⟨_, _, S, rfl, E.get _ _ rfl, E.defers, fun x0 => (by rw [hgd1]; rfl)⟩
      ·refine o_pick_f E rfl rfl hgd1 rfl ?_; clear E; intro a E
       exact ⟨_, _, S, rfl, E.get _ _ rfl, E.defers, fun x0 => (by rw [hgd1]; rfl)⟩
    ·intro a w G1 hl S E hp
     obtain ⟨_, e8, rfl⟩ := hp 8 91 _ rfl rfl rfl; replace E := E.add e8
     refine (Bool.eq_false_or_eq_true ((decide (((b.rs.getD i REM0).ev) < 1)) || (decide (4096 < ((b.rs.getD i REM0).ev))))).elim (fun hgd0 => ?_) (fun hgd0 => ?_)
     ·refine o_pick_t E rfl rfl hgd0 rfl ?_; clear E; intro a E
      exact ⟨_, _, S, rfl, E.get _ _ rfl, E.defers, (by rw [hgd0]; rfl)⟩
     ·obtain ⟨_, e22, h22v⟩ := hp 22 105 _ rfl rfl rfl; cases h22v hgd0; replace E := E.add e22
      refine o_pick_f E rfl rfl hgd0 rfl ?_; clear E; intro a E
      exact ⟨_, _, S, rfl, E.get _ _ rfl, E.defers, (by rw [hgd0]; rfl)⟩
    ·intro a w G1 hl S E hp
     obtain ⟨_, e23, rfl⟩ := hp 23 106 _ rfl rfl rfl; replace E := E.add e23
     refine o_move E rfl rfl ?_; clear E; intro a E
     exact ⟨_, _, S, rfl, E.get _ _ rfl, E.defers, rfl⟩
    ·intro a w G1 hl S E hp
     refine (Bool.eq_false_or_eq_true (((decide (((b.rs.getD i REM0).ev) < 1)) || (decide (4096 < ((b.rs.getD i REM0).ev)))) || ((decide (0 < (i : Int))) && (decide (((b.rs.getD i REM0).ev) ≤ ((b.rs.getD ((i : Int) - 1).toNat REM0).ev)))))).elim (fun hgd0 => ?_) (fun hgd0 => ?_)
     ·obtain ⟨_, e24, rfl⟩ := hp 24 107 _ rfl rfl rfl; replace E := E.add e24
      refine g_off E rfl rfl rfl hgd0 ?_; clear E; intro a E
      exact ⟨_, _, S, rfl, E.get _ _ rfl, E.defers, fun x0 => absurd (hgd0.symm.trans x0) (by decide)⟩
     ·obtain ⟨_, e24, rfl⟩ := hp 24 107 _ rfl rfl rfl; replace E := E.add e24
      refine op_on E rfl rfl hgd0 ?_
      refine o_fld E rfl rfl T.f76_1 ?_; clear E; intro a E
      exact ⟨_, _, S, rfl, E.get _ _ rfl, E.defers, fun x0 => rfl⟩
    ·intro a w G1 hl S E hp
     refine (Bool.eq_false_or_eq_true (((decide (((b.rs.getD i REM0).ev) < 1)) || (decide (4096 < ((b.rs.getD i REM0).ev)))) || ((decide (0 < (i : Int))) && (decide (((b.rs.getD i REM0).ev) ≤ ((b.rs.getD ((i : Int) - 1).toNat REM0).ev)))))).elim (fun hgd0 => ?_) (fun hgd0 => ?_)
     ·obtain ⟨_, e24, rfl⟩ := hp 24 107 _ rfl rfl rfl; replace E := E.add e24
      refine g_off E rfl rfl rfl hgd0 ?_; clear E; intro a E
      exact ⟨_, _, S, rfl, E.get _ _ rfl, E.defers, fun x0 => absurd (hgd0.symm.trans x0) (by decide)⟩
     ·obtain ⟨_, e24, rfl⟩ := hp 24 107 _ rfl rfl rfl; replace E := E.add e24
      obtain ⟨_, e25, h25v⟩ := hp 25 108 _ rfl rfl rfl; cases h25v hgd0; replace E := E.add e25
      refine op_on E rfl rfl hgd0 ?_
      refine o_ld E rfl S rfl T.s9 (.here .here) rfl ?_; clear E; intro a E
      exact ⟨_, _, S, rfl, E.get _ _ rfl, E.defers, fun x0 => rfl⟩
    ·intro a w G1 hl S E hp
     refine (Bool.eq_false_or_eq_true (((decide (((b.rs.getD i REM0).ev) < 1)) || (decide (4096 < ((b.rs.getD i REM0).ev)))) || ((decide (0 < (i : Int))) && (decide (((b.rs.getD i REM0).ev) ≤ ((b.rs.getD ((i : Int) - 1).toNat REM0).ev)))))).elim (fun hgd0 => ?_) (fun hgd0 => ?_)
     ·obtain ⟨_, e24, rfl⟩ := hp 24 107 _ rfl rfl rfl; replace E := E.add e24
      refine g_off E rfl rfl rfl hgd0 ?_; clear E; intro a E
      exact ⟨_, _, S, rfl, E.get _ _ rfl, E.defers, fun x0 => absurd (hgd0.symm.trans x0) (by decide)⟩
     ·obtain ⟨_, e24, rfl⟩ := hp 24 107 _ rfl rfl rfl; replace E := E.add e24
      obtain ⟨_, e26, h26v⟩ := hp 26 109 _ rfl rfl rfl; cases h26v hgd0; replace E := E.add e26
      refine op_on E rfl rfl hgd0 ?_
      refine o_lenS E rfl rfl Tryd.underlying9 ?_; clear E; intro a E
      exact ⟨_, _, S, rfl, E.get _ _ rfl, E.defers, fun x0 => rfl⟩
    ·intro a w G1 hl S E hp
     refine (Bool.eq_false_or_eq_true (((decide (((b.rs.getD i REM0).ev) < 1)) || (decide (4096 < ((b.rs.getD i REM0).ev)))) || ((decide (0 < (i : Int))) && (decide (((b.rs.getD i REM0).ev) ≤ ((b.rs.getD ((i : Int) - 1).toNat REM0).ev)))))).elim (fun hgd0 => ?_) (fun hgd0 => ?_)
     ·obtain ⟨_, e24, rfl⟩ := hp 24 107 _ rfl rfl rfl; replace E := E.add e24
      refine g_off E rfl rfl rfl hgd0 ?_; clear E; intro a E
      exact ⟨_, _, S, rfl, E.get _ _ rfl, E.defers, fun x0 => absurd (hgd0.symm.trans x0) (by decide)⟩
     ·obtain ⟨_, e24, rfl⟩ := hp 24 107 _ rfl rfl rfl; replace E := E.add e24
      obtain ⟨_, e27, h27v⟩ := hp 27 110 _ rfl rfl rfl; cases h27v hgd0; replace E := E.add e27
      refine op_on E rfl rfl hgd0 ?_
      refine o_gtr E rfl rfl rfl ?_; clear E; intro a E
      exact ⟨_, _, S, rfl, E.get _ _ rfl, E.defers, fun x0 => rfl⟩
    ·intro a w G1 hl S E hp
     obtain ⟨_, e24, rfl⟩ := hp 24 107 _ rfl rfl rfl; replace E := E.add e24
     refine (Bool.eq_false_or_eq_true (((decide (((b.rs.getD i REM0).ev) < 1)) || (decide (4096 < ((b.rs.getD i REM0).ev)))) || ((decide (0 < (i : Int))) && (decide (((b.rs.getD i REM0).ev) ≤ ((b.rs.getD ((i : Int) - 1).toNat REM0).ev)))))).elim (fun hgd0 => ?_) (fun hgd0 => ?_)
     ·refine o_pick_t E rfl rfl hgd0 rfl ?_; clear E; intro a E
      exact ⟨_, _, S, rfl, E.get _ _ rfl, E.defers, (by rw [hgd0]; rfl)⟩
     ·obtain ⟨_, e28, h28v⟩ := hp 28 111 _ rfl rfl rfl; cases h28v hgd0; replace E := E.add e28
      refine o_pick_f E rfl rfl hgd0 rfl ?_; clear E; intro a E
      exact ⟨_, _, S, rfl, E.get _ _ rfl, E.defers, (by rw [hgd0]; rfl)⟩
    ·intro a w G1 hl S E hp
     obtain ⟨_, e29, rfl⟩ := hp 29 112 _ rfl rfl rfl; replace E := E.add e29
     refine o_move E rfl rfl ?_; clear E; intro a E
     exact ⟨_, _, S, rfl, E.get _ _ rfl, E.defers, rfl⟩
    ·intro a w G1 hl S E hp
     refine (Bool.eq_false_or_eq_true ((((decide (((b.rs.getD i REM0).ev) < 1)) || (decide (4096 < ((b.rs.getD i REM0).ev)))) || ((decide (0 < (i : Int))) && (decide (((b.rs.getD i REM0).ev) ≤ ((b.rs.getD ((i : Int) - 1).toNat REM0).ev))))) || (decide (100 < (((b.rs.getD i REM0).note).length : Int))))).elim (fun hgd0 => ?_) (fun hgd0 => ?_)
     ·obtain ⟨_, e30, rfl⟩ := hp 30 113 _ rfl rfl rfl; replace E := E.add e30
      refine g_off E rfl rfl rfl hgd0 ?_; clear E; intro a E
      exact ⟨_, _, S, rfl, E.get _ _ rfl, E.defers, fun x0 => absurd (hgd0.symm.trans x0) (by decide)⟩
     ·obtain ⟨_, e30, rfl⟩ := hp 30 113 _ rfl rfl rfl; replace E := E.add e30
      refine op_on E rfl rfl hgd0 ?_
      refine o_fld E rfl rfl T.f76_1 ?_; clear E; intro a E
      exact ⟨_, _, S, rfl, E.get _ _ rfl, E.defers, fun x0 => rfl⟩
    ·intro a w G1 hl S E hp
     refine (Bool.eq_false_or_eq_true ((((decide (((b.rs.getD i REM0).ev) < 1)) || (decide (4096 < ((b.rs.getD i REM0).ev)))) || ((decide (0 < (i : Int))) && (decide (((b.rs.getD i REM0).ev) ≤ ((b.rs.getD ((i : Int) - 1).toNat REM0).ev))))) || (decide (100 < (((b.rs.getD i REM0).note).length : Int))))).elim (fun hgd0 => ?_) (fun hgd0 => ?_)
     ·obtain ⟨_, e30, rfl⟩ := hp 30 113 _ rfl rfl rfl; replace E := E.add e30
      refine g_off E rfl rfl rfl hgd0 ?_; clear E; intro a E
      exact ⟨_, _, S, rfl, E.get _ _ rfl, E.defers, fun x0 => absurd (hgd0.symm.trans x0) (by decide)⟩
     ·obtain ⟨_, e30, rfl⟩ := hp 30 113 _ rfl rfl rfl; replace E := E.add e30
      obtain ⟨_, e31, h31v⟩ := hp 31 114 _ rfl rfl rfl; cases h31v hgd0; replace E := E.add e31
      refine op_on E rfl rfl hgd0 ?_
      refine o_ld E rfl S rfl T.s9 (.here .here) rfl ?_; clear E; intro a E
      exact ⟨_, _, S, rfl, E.get _ _ rfl, E.defers, fun x0 => rfl⟩
    ·intro a w G1 hl S E hp
     refine (Bool.eq_false_or_eq_true ((((decide (((b.rs.getD i REM0).ev) < 1)) || (decide (4096 < ((b.rs.getD i REM0).ev)))) || ((decide (0 < (i : Int))) && (decide (((b.rs.getD i REM0).ev) ≤ ((b.rs.getD ((i : Int) - 1).toNat REM0).ev))))) || (decide (100 < (((b.rs.getD i REM0).note).length : Int))))).elim (fun hgd0 => ?_) (fun hgd0 => ?_)
     ·obtain ⟨_, e30, rfl⟩ := hp 30 113 _ rfl rfl rfl; replace E := E.add e30
      refine g_off E rfl rfl rfl hgd0 ?_; clear E; intro a E
      exact ⟨_, _, S, rfl, E.get _ _ rfl, E.defers, fun x0 => absurd (hgd0.symm.trans x0) (by decide)⟩
     ·obtain ⟨_, e30, rfl⟩ := hp 30 113 _ rfl rfl rfl; replace E := E.add e30
      obtain ⟨_, e32, h32v⟩ := hp 32 115 _ rfl rfl rfl; cases h32v hgd0; replace E := E.add e32
      refine op_on E rfl rfl hgd0 ?_
      refine o_callP E rfl S rfl rfl T.g34 (calls_same S.sub (Tryd.strings_Contains_one ⟨List.toArray ((b.rs.getD i REM0).note)⟩ 10 _)) ?_
      clear E S; rintro _ w a S rfl E
      exact ⟨_, _, S, rfl, E.get _ _ rfl, E.defers, fun x0 => rfl⟩
    ·intro a w G1 hl S E hp
     obtain ⟨_, e30, rfl⟩ := hp 30 113 _ rfl rfl rfl; replace E := E.add e30
     refine (Bool.eq_false_or_eq_true ((((decide (((b.rs.getD i REM0).ev) < 1)) || (decide (4096 < ((b.rs.getD i REM0).ev)))) || ((decide (0 < (i : Int))) && (decide (((b.rs.getD i REM0).ev) ≤ ((b.rs.getD ((i : Int) - 1).toNat REM0).ev))))) || (decide (100 < (((b.rs.getD i REM0).note).length : Int))))).elim (fun hgd0 => ?_) (fun hgd0 => ?_)
     ·refine o_pick_t E rfl rfl hgd0 rfl ?_; clear E; intro a E
      exact ⟨_, _, S, rfl, E.get _ _ rfl, E.defers, (by rw [hgd0]; rfl)⟩
     ·obtain ⟨_, e33, h33v⟩ := hp 33 116 _ rfl rfl rfl; cases h33v hgd0; replace E := E.add e33
      refine o_pick_f E rfl rfl hgd0 rfl ?_; clear E; intro a E
      exact ⟨_, _, S, rfl, E.get _ _ rfl, E.defers, (by rw [hgd0]; rfl)⟩
    clear E S; intro a w S E hp
    obtain ⟨_, e34, rfl⟩ := hp 34 117 _ rfl rfl; replace E := E.add e34
    clear hp
    refine hK46 _ _ ?_; clear hK46
    refine cond E rfl (fun h49r => ?_) (fun h49r => ?_)
    ·have h49 := nm h49r
     refine sr fun K hK => ?_
     refine rn 1 E S ?_; clear E S; intro a w E S
     apply hK; clear hK K
     refine rt hQ E S ?_
     have he : bookB b = false := book_n (rems_bad (i := i) (by omega) (by have := h49r; rw [rem_prog] at this; simpa using this))
     show _ = _
     rw [he]
     rfl
    ·have h49 := nm h49r
     refine wp_skip ?_
     refine hK42 _ _ ?_; clear hK42
     refine wp_region_lit ?_
     refine rn 2 E S ?_; clear E S; intro a w E S
     replace S := S.drop (M' := [_]) (sub_drop (sub_keep sub_nil))
     have hro2 : ∀ j, j < i + 1 → remOk b j = true := by
      intro j hj
      rcases Nat.lt_or_ge j i with h_9 | h_9
      ·exact hro j h_9
      ·obtain rfl : j = i := by omega
       exact (by have := h49r; rw [rem_prog] at this; simpa using this)
     exact ⟨i + 1, ⟨S, E.cut ⟨rfl, rfl, rfl, rfl, rfl, trivial⟩, ⟨by omega, hro2⟩⟩, by omega⟩
   ·have h41 := nm h41r
    refine wp_exit ?_
    refine hK34 _ _ ?_; clear hK34
    refine sr fun K hK => ?_
    refine rn 1 E S ?_; clear E S; intro a w E S
    apply hK; clear hK K
    refine rt hQ E S ?_
    have h_1 := book_ok1 h15r
    have he : bookB b = true := book_yes h_1.1 h_1.2.1 (moms_yes h_1.2.2.1 fun j hj => hmo j (by omega)) (rems_yes h_1.2.2.2 fun j hj => hro j (by omega))
    show _ = _
    rw [he]
    rfl

/-! `incognito/incognitoref29.Right` -/
theorem c_Right29 (b : Book) (Ae : Option Addr) (ce : Nat) (Am : Option Addr) (cm : Nat) (Ar : Option Addr) (cr : Nat) (w0 : World) (G : Heap) (hG : Sub G w0) (hg0 : CellsAt G 0 0 [.int .i64 3, .int .i64 1, str []]) (hg1 : CellsAt G 1 0 [.int .i64 3, .int .i64 0, str []]) (hRe : Rd kEnt G Ae b.es) (hRm : Rd kMom G Am b.ms) (hRr : Rd kRem G Ar b.rs) (hle : b.es.length ≤ 1000000000) (hlm : b.ms.length ≤ 9223372036854775807) (hlr : b.rs.length ≤ 9223372036854775807) (hew : ∀ x ∈ b.es, I64 x.dom ∧ x.name.Wf ∧ x.real.Wf) (hrw : ∀ x ∈ b.rs, x.note.length ≤ 9223372036854775807):
  Calls Tryd.prog 11 #[.agg #[.int .i64 b.pol.r0.way, .int .i64 b.pol.r0.size, .int .i64 b.pol.r1.way, .int .i64 b.pol.r1.size, .int .i64 b.pol.r2.way, .int .i64 b.pol.r2.size, .int .i64 b.pol.r3.way, .int .i64 b.pol.r3.size, .int .i64 b.pol.r4.way, .int .i64 b.pol.r4.size, .int .i64 b.pol.time, .int .i64 b.pol.note, .bool b.pol.loose, .bool b.pol.force, .slice Ae b.es.length ce, .slice Am b.ms.length cm, .slice Ar b.rs.length cr]] w0 (Ret w0 G (fun v _ => v = .bool (bookB b))) := by
 refine enter Tryd.func11 rfl Tryd.ntmps11 rfl ?_
 intro Q hQ a E
 have S := St.start0 hG
 refine sr fun K hK => ?_
 refine o_boxL [(0, _), (1, _), (2, _), (3, _), (4, _), (5, _), (6, _), (7, _), (8, _), (9, _), (10, _), (11, _), (12, _), (13, _), (14, _), (15, _), (16, _)] E rfl S rfl ⟨rfl, rfl, rfl, rfl, rfl, rfl, rfl, rfl, rfl, rfl, rfl, rfl, rfl, rfl, rfl, rfl, rfl, trivial⟩ ?_; clear E S; intro B1 w a S E
 refine rn 1 E S ?_; clear E S; intro a w E S
 apply hK; clear hK K
 refine wp_seq_k (fun K3 hK2 => ?_)
 refine sr fun K hK => ?_
 refine rn 2 E S ?_; clear E S; intro a w E S
 refine o_callP E rfl S rfl rfl T.g23 (c_Right b.pol _ _ S.sub) ?_
 clear E S; rintro _ w a S rfl E
 refine rn 1 E S ?_; clear E S; intro a w E S
 apply hK; clear hK K
 refine cond E rfl (fun h5r => ?_) (fun h5r => ?_)
 ·have h5 := nm h5r
  refine sr fun K hK => ?_
  refine rn 1 E S ?_; clear E S; intro a w E S
  apply hK; clear hK K
  refine rt hQ E S ?_
  have he : bookB b = false := book_r (by simpa using h5)
  show _ = _
  rw [he]
  rfl
 ·have h5 := nm h5r
  refine wp_skip ?_
  refine hK2 _ _ ?_; clear hK2
  refine wp_seq_k (fun K8 hK7 => ?_)
  refine sr fun K hK => ?_
  refine rn 1 E S ?_; clear E S; intro a w E S
  apply hK; clear hK K
  refine wp_block ?_
  refine loop (fun (i : Nat) a' w' => St w0 G [] G w' [[(B1, Cells 32 (PC b [(14, .slice Ae b.es.length ce), (15, .slice Am b.ms.length cm), (16, .slice Ar b.rs.length cr)]))]] ∧ Env a' 185 [] [(1, .pointer (some ⟨B1, 0, none⟩)), (2, .bool false), (3, .int .i64 (i : Int))] ∧ (i ≤ b.es.length ∧ ∀ j, j < i → entOk b j = true)) (fun (i : Nat) => b.es.length - i) 0 ⟨S, E.cut ⟨rfl, rfl, rfl, trivial⟩, ⟨Nat.zero_le _, fun j hj => absurd hj (Nat.not_lt_zero _)⟩⟩ ?_
  clear E S; intro i a w ⟨S, E, ⟨hi, hall⟩⟩
  refine wp_seq_k (fun K12 hK11 => ?_)
  refine sr fun K hK => ?_
  refine rn 5 E S ?_; clear E S; intro a w E S
  apply hK; clear hK K
  refine cond E rfl (fun h14r => ?_) (fun h14r => ?_)
  ·have h14 := nm h14r
   refine wp_skip ?_
   refine hK11 _ _ ?_; clear hK11
   refine wp_seq_k (fun K16 hK15 => ?_)
   refine wp_block ?_
   refine sr fun K hK => ?_
   refine rn 3 E S ?_; clear E S; intro a w E S
   have hi17 : (i : Int).toNat < b.es.length := by omega
   obtain ⟨eb17, eo17, hA17, el17⟩ := Rd.at hRe (List.getElem?_eq_getElem hi17); cases hA17
   rw [show b.es[(i : Int).toNat] = (b.es.getD i ENT0) from getD_get (i := i) hi17 _] at el17
   have el17 := kEnt_open el17
   refine o_ixL E rfl rfl rfl T.l28 ⟨by omega, by omega⟩ ?_; clear E; intro a E
   refine o_ldIA E rfl S rfl el17 T.a71 ?_; clear E; intro a E
   refine o_allocZ E rfl S ?_; clear E S; intro B4 w a S E
   refine rn 1 E S ?_; clear E S; intro a w E S
   apply hK; clear hK K
   refine wp_seq_k (fun K20 hK19 => ?_)
   refine sr fun K hK => ?_
   have hew9 := hew _ (entm (b := b) (i := i) (by omega))
   have hwn9 := hew9.2.1
   have hwr9 := hew9.2.2
   refine rn 4 E S ?_; clear E S; intro a w E S
   refine cutG 4 34 (.bool ((decide (((b.es.getD i ENT0).dom) < 0)) || (decide (4 < ((b.es.getD i ENT0).dom))))) E S ?_ ?_
   ·refine bsp E (t := 30) rfl (fun hb21 => ?_) (fun hb21 => ?_)
    ·refine rn 4 E S ?_; clear E S; intro a w E S
     exact ⟨S, E.cutT (by rw [hb21] <;> rfl)⟩
    ·have hk22 := nm hb21
     refine rn 4 E S ?_; clear E S; intro a w E S
     exact ⟨S, E.cutT (by rw [hb21] <;> rfl)⟩
   clear E S; intro a w E S
   refine rn 1 E S ?_; clear E S; intro a w E S
   refine cutG 9 44 (.bool (((decide (((b.es.getD i ENT0).dom) < 0)) || (decide (4 < ((b.es.getD i ENT0).dom)))) || (decide ((wayP b.pol ((b.es.getD i ENT0).dom)) = 0)))) E S ?_ ?_
   ·refine bsp E (t := 35) rfl (fun hb23 => ?_) (fun hb23 => ?_)
    ·refine rn 9 E S ?_; clear E S; intro a w E S
     exact ⟨S, E.cutT (by rw [hb23] <;> rfl)⟩
    ·have hk24 := nm hb23
     refine rn 4 E S ?_; clear E S; intro a w E S
     refine op_on E rfl rfl hb23 ?_
     refine o_ixA E rfl rfl rfl T.r25 (by omega) ?_; clear E; intro a E
     refine rn 1 E S ?_; clear E S; intro a w E S
     refine op_on E rfl rfl hb23 ?_
     refine o_ld E rfl S rfl T.s3 (.there (.here .here)) (v := .int .i64 (wayP b.pol ((b.es.getD i ENT0).dom))) (by (try have hbk := hb); (try simp only [Bool.not_eq_true', Bool.not_eq_false', Bool.and_eq_true, Bool.or_eq_false_iff, decide_eq_true_eq, decide_eq_false_iff_not] at hbk); have hd9 := True.intro; rcases (show (b.es.getD i ENT0).dom = 0 ∨ (b.es.getD i ENT0).dom = 1 ∨ (b.es.getD i ENT0).dom = 2 ∨ (b.es.getD i ENT0).dom = 3 ∨ (b.es.getD i ENT0).dom = 4 from by omega) with e | e | e | e | e <;> rw [e] <;> rfl) ?_; clear E; intro a E
     refine rn 2 E S ?_; clear E S; intro a w E S
     exact ⟨S, E.cutT (by rw [hb23] <;> rfl)⟩
   clear E S; intro a w E S
   refine rn 1 E S ?_; clear E S; intro a w E S
   refine cutG 5 50 (.bool ((((decide (((b.es.getD i ENT0).dom) < 0)) || (decide (4 < ((b.es.getD i ENT0).dom)))) || (decide ((wayP b.pol ((b.es.getD i ENT0).dom)) = 0))) || (!(nameB ((b.es.getD i ENT0).name))))) E S ?_ ?_
   ·refine bsp E (t := 45) rfl (fun hb25 => ?_) (fun hb25 => ?_)
    ·refine rn 5 E S ?_; clear E S; intro a w E S
     exact ⟨S, E.cutT (by rw [hb25] <;> rfl)⟩
    ·have hk26 := nm hb25
     refine rn 2 E S ?_; clear E S; intro a w E S
     refine op_on E rfl rfl hb25 ?_
     refine o_callP E rfl S rfl rfl T.g24 (c_Name7 ((b.es.getD i ENT0).name) _ _ S.sub (by first | assumption | exact parse_wf (by omega) | (constructor <;> first | assumption | (simp only [I64]; omega) | (simp; omega)))) ?_
     clear E S; rintro _ w a S rfl E
     refine rn 2 E S ?_; clear E S; intro a w E S
     exact ⟨S, E.cutT (by rw [hb25] <;> rfl)⟩
   clear E S; intro a w E S
   refine rn 1 E S ?_; clear E S; intro a w E S
   refine cutG 5 56 (.bool (((((decide (((b.es.getD i ENT0).dom) < 0)) || (decide (4 < ((b.es.getD i ENT0).dom)))) || (decide ((wayP b.pol ((b.es.getD i ENT0).dom)) = 0))) || (!(nameB ((b.es.getD i ENT0).name)))) || (!(nameB ((b.es.getD i ENT0).real))))) E S ?_ ?_
   ·refine bsp E (t := 51) rfl (fun hb27 => ?_) (fun hb27 => ?_)
    ·refine rn 5 E S ?_; clear E S; intro a w E S
     exact ⟨S, E.cutT (by rw [hb27] <;> rfl)⟩
    ·have hk28 := nm hb27
     refine rn 2 E S ?_; clear E S; intro a w E S
     refine op_on E rfl rfl hb27 ?_
     refine o_callP E rfl S rfl rfl T.g24 (c_Name7 ((b.es.getD i ENT0).real) _ _ S.sub (by first | assumption | exact parse_wf (by omega) | (constructor <;> first | assumption | (simp only [I64]; omega) | (simp; omega)))) ?_
     clear E S; rintro _ w a S rfl E
     refine rn 2 E S ?_; clear E S; intro a w E S
     exact ⟨S, E.cutT (by rw [hb27] <;> rfl)⟩
   clear E S; intro a w E S
   apply hK; clear hK K
   refine cond E rfl (fun h30r => ?_) (fun h30r => ?_)
   ·have h30 := nm h30r
    refine sr fun K hK => ?_
    refine rn 1 E S ?_; clear E S; intro a w E S
    apply hK; clear hK K
    refine rt hQ E S ?_
    have he : bookB b = false := book_e (ent_bad (i := i) (by omega) (ent_head (by have := h30r; unfold headB ENTd; exact this)))
    show _ = _
    rw [he]
    rfl
   ·have h30 := nm h30r
    refine wp_skip ?_
    refine hK19 _ _ ?_; clear hK19
    refine sr fun K hK => ?_
    refine rn 1 E S ?_; clear E S; intro a w E S
    apply hK; clear hK K
    refine wp_block ?_
    refine loop (fun (k : Nat) a' w' => St w0 G [] G w' [[(B4, Cells 71 [(0, .int .i64 ((b.es.getD i ENT0).dom)), (1, .int .i64 ((b.es.getD i ENT0).name.k)), (2, .int .i64 ((b.es.getD i ENT0).name.n)), (3, str ((b.es.getD i ENT0).name.s)), (4, .int .i64 ((b.es.getD i ENT0).real.k)), (5, .int .i64 ((b.es.getD i ENT0).real.n)), (6, str ((b.es.getD i ENT0).real.s))])], [(B1, Cells 32 (PC b [(14, .slice (some ⟨eb17, eo17, none⟩) b.es.length ce), (15, .slice Am b.ms.length cm), (16, .slice Ar b.rs.length cr)]))]] ∧ Env a' 185 [] [(1, .pointer (some ⟨B1, 0, none⟩)), (2, .bool false), (3, .int .i64 (i : Int)), (4, .pointer (some ⟨B4, 0, none⟩)), (5, .int .i64 (k : Int))] ∧ (k ≤ i ∧ ∀ j, j < k → pairB (ENTd b j) (ENTd b i) = false)) (fun (k : Nat) => i - k) 0 ⟨S, E.cut ⟨rfl, rfl, rfl, rfl, rfl, trivial⟩, ⟨Nat.zero_le _, fun j hj => absurd hj (Nat.not_lt_zero _)⟩⟩ ?_
    clear E S; intro k a w ⟨S, E, ⟨hk, hin⟩⟩
    refine wp_seq_k (fun K35 hK34 => ?_)
    refine sr fun K hK => ?_
    refine rn 3 E S ?_; clear E S; intro a w E S
    apply hK; clear hK K
    refine cond E rfl (fun h37r => ?_) (fun h37r => ?_)
    ·have h37 := nm h37r
     refine wp_skip ?_
     refine hK34 _ _ ?_; clear hK34
     refine wp_seq_k (fun K39 hK38 => ?_)
     refine wp_block ?_
     refine sr fun K hK => ?_
     refine rn 3 E S ?_; clear E S; intro a w E S
     have hi40 : (k : Int).toNat < b.es.length := by omega
     obtain ⟨eb40, eo40, hA40, el40⟩ := Rd.at hRe (List.getElem?_eq_getElem hi40); cases hA40
     rw [show b.es[(k : Int).toNat] = (b.es.getD k ENT0) from getD_get (i := k) hi40 _] at el40
     have el40 := kEnt_open el40
     refine o_ixL E rfl rfl rfl T.l28 ⟨by omega, by omega⟩ ?_; clear E; intro a E
     refine o_ldIA E rfl S rfl el40 T.a71 ?_; clear E; intro a E
     refine o_allocZ E rfl S ?_; clear E S; intro B6 w a S E
     refine rn 1 E S ?_; clear E S; intro a w E S
     apply hK; clear hK K
     refine sr fun K hK => ?_
     refine rn 6 E S ?_; clear E S; intro a w E S
     refine cutG 20 92 (.bool ((decide (((b.es.getD i ENT0).dom) < ((b.es.getD k ENT0).dom))) || ((decide (((b.es.getD k ENT0).dom) = ((b.es.getD i ENT0).dom))) && ((decide (((b.es.getD k ENT0).name.k) = ((b.es.getD i ENT0).name.k)) && (decide (((b.es.getD k ENT0).name.n) = ((b.es.getD i ENT0).name.n)) && (((b.es.getD k ENT0).name.s) == ((b.es.getD i ENT0).name.s) && true))) || (decide (((b.es.getD k ENT0).real.k) = ((b.es.getD i ENT0).real.k)) && (decide (((b.es.getD k ENT0).real.n) = ((b.es.getD i ENT0).real.n)) && (((b.es.getD k ENT0).real.s) == ((b.es.getD i ENT0).real.s) && true))))))) E S ?_ ?_
     ·refine bsp E (t := 72) rfl (fun hb42 => ?_) (fun hb42 => ?_)
      ·refine rn 20 E S ?_; clear E S; intro a w E S
       exact ⟨S, E.cutT (by rw [hb42] <;> rfl)⟩
      ·have hk43 := nm hb42
       refine rn 6 E S ?_; clear E S; intro a w E S
       refine cutG 13 91 (.bool ((decide (((b.es.getD k ENT0).dom) = ((b.es.getD i ENT0).dom))) && ((decide (((b.es.getD k ENT0).name.k) = ((b.es.getD i ENT0).name.k)) && (decide (((b.es.getD k ENT0).name.n) = ((b.es.getD i ENT0).name.n)) && (((b.es.getD k ENT0).name.s) == ((b.es.getD i ENT0).name.s) && true))) || (decide (((b.es.getD k ENT0).real.k) = ((b.es.getD i ENT0).real.k)) && (decide (((b.es.getD k ENT0).real.n) = ((b.es.getD i ENT0).real.n)) && (((b.es.getD k ENT0).real.s) == ((b.es.getD i ENT0).real.s) && true)))))) E S ?_ ?_
       ·refine bsp E (t := 78) rfl (fun hb44 => ?_) (fun hb44 => ?_)
        ·have hk45 := nm hb44
         refine rn 4 E S ?_; clear E S; intro a w E S
         refine op_on E rfl rfl hb44 ?_
         refine o_eqA (b := decide (((b.es.getD k ENT0).name.k) = ((b.es.getD i ENT0).name.k)) && (decide (((b.es.getD k ENT0).name.n) = ((b.es.getD i ENT0).name.n)) && (((b.es.getD k ENT0).name.s) == ((b.es.getD i ENT0).name.s) && true))) E rfl rfl rfl T.q49 rfl rfl ?_; clear E; intro a E
         refine rn 1 E S ?_; clear E S; intro a w E S
         refine cutG 6 90 (.bool ((decide (((b.es.getD k ENT0).name.k) = ((b.es.getD i ENT0).name.k)) && (decide (((b.es.getD k ENT0).name.n) = ((b.es.getD i ENT0).name.n)) && (((b.es.getD k ENT0).name.s) == ((b.es.getD i ENT0).name.s) && true))) || (decide (((b.es.getD k ENT0).real.k) = ((b.es.getD i ENT0).real.k)) && (decide (((b.es.getD k ENT0).real.n) = ((b.es.getD i ENT0).real.n)) && (((b.es.getD k ENT0).real.s) == ((b.es.getD i ENT0).real.s) && true))))) E S ?_ ?_
         ·refine bsp E (t := 84) rfl (fun hb46 => ?_) (fun hb46 => ?_)
          ·refine rn 6 E S ?_; clear E S; intro a w E S
           exact ⟨S, E.cutT (by rw [hb46] <;> rfl)⟩
          ·have hk47 := nm hb46
           refine rn 4 E S ?_; clear E S; intro a w E S
           refine op_on E rfl rfl hb46 ?_
           refine o_eqA (b := decide (((b.es.getD k ENT0).real.k) = ((b.es.getD i ENT0).real.k)) && (decide (((b.es.getD k ENT0).real.n) = ((b.es.getD i ENT0).real.n)) && (((b.es.getD k ENT0).real.s) == ((b.es.getD i ENT0).real.s) && true))) E rfl rfl rfl T.q49 rfl rfl ?_; clear E; intro a E
           refine rn 1 E S ?_; clear E S; intro a w E S
           exact ⟨S, E.cutT (by rw [hb46] <;> rfl)⟩
         clear E S; intro a w E S
         refine rn 1 E S ?_; clear E S; intro a w E S
         exact ⟨S, E.cutT (by rw [hb44] <;> rfl)⟩
        ·refine rn 13 E S ?_; clear E S; intro a w E S
         exact ⟨S, E.cutT (by rw [hb44] <;> rfl)⟩
       clear E S; intro a w E S
       refine rn 1 E S ?_; clear E S; intro a w E S
       exact ⟨S, E.cutT (by rw [hb42] <;> rfl)⟩
     clear E S; intro a w E S
     apply hK; clear hK K
     refine cond E rfl (fun h49r => ?_) (fun h49r => ?_)
     ·have h49 := nm h49r
      refine sr fun K hK => ?_
      refine rn 1 E S ?_; clear E S; intro a w E S
      apply hK; clear hK K
      refine rt hQ E S ?_
      have he : bookB b = false := book_e (ent_bad (i := i) (by omega) (ent_pair (k := k) (by omega) (by have := h49r; rw [same_val, same_val] at this; unfold pairB ENTd; exact this)))
      show _ = _
      rw [he]
      rfl
     ·have h49 := nm h49r
      refine wp_skip ?_
      refine hK38 _ _ ?_; clear hK38
      refine wp_region_lit ?_
      refine rn 3 E S ?_; clear E S; intro a w E S
      replace S := S.drop (M' := [_, _]) (sub_drop (sub_keep (sub_keep sub_nil)))
      have hin2 : ∀ j, j < k + 1 → pairB (ENTd b j) (ENTd b i) = false := by
       intro j hj
       rcases Nat.lt_or_ge j k with h_9 | h_9
       ·exact hin j h_9
       ·obtain rfl : j = k := by omega
        have := h49r; rw [same_val, same_val] at this; unfold pairB ENTd; exact this
      exact ⟨k + 1, ⟨S, E.cut ⟨rfl, rfl, rfl, rfl, rfl, trivial⟩, ⟨by omega, hin2⟩⟩, by omega⟩
    ·have h37 := nm h37r
     refine wp_exit ?_
     refine hK15 _ _ ?_; clear hK15
     refine wp_region_lit ?_
     refine rn 3 E S ?_; clear E S; intro a w E S
     replace S := S.drop (M' := [_]) (sub_drop (sub_keep sub_nil))
     have hall2 : ∀ j, j < i + 1 → entOk b j = true := by
      intro j hj
      rcases Nat.lt_or_ge j i with h_9 | h_9
      ·exact hall j h_9
      ·obtain rfl : j = i := by omega
       exact ent_yes (by have := h30r; unfold headB ENTd; exact this) (fun k hk => hin k (by omega))
     exact ⟨i + 1, ⟨S, E.cut ⟨rfl, rfl, rfl, trivial⟩, ⟨by omega, hall2⟩⟩, by omega⟩
  ·have h14 := nm h14r
   refine wp_exit ?_
   refine hK7 _ _ ?_; clear hK7
   refine wp_seq_k (fun K52 hK51 => ?_)
   refine sr fun K hK => ?_
   have hz7 := True.intro
   refine rn 1 E S ?_; clear E S; intro a w E S
   apply hK; clear hK K
   refine wp_block ?_
   have hl1 : ∀ j, j < b.es.length → entOk b j = true := fun j hj => hall j (by omega)
   clear hall
   have hall := hl1
   refine loop (fun (i : Nat) a' w' => St w0 G [] G w' [[(B1, Cells 32 (PC b [(14, .slice Ae b.es.length ce), (15, .slice Am b.ms.length cm), (16, .slice Ar b.rs.length cr)]))]] ∧ Env a' 185 [] [(1, .pointer (some ⟨B1, 0, none⟩)), (2, .bool false), (7, .int .i64 (i : Int))] ∧ (i ≤ b.ms.length ∧ (i = 0 ∨ b.pol.time = 3) ∧ ∀ j, j < i → momOk b j = true)) (fun (i : Nat) => b.ms.length - i) 0 ⟨S, E.cut ⟨rfl, rfl, rfl, trivial⟩, ⟨Nat.zero_le _, .inl rfl, fun j hj => absurd hj (Nat.not_lt_zero _)⟩⟩ ?_
   clear E S; intro i a w ⟨S, E, ⟨hi, htm, hmo⟩⟩
   refine wp_seq_k (fun K56 hK55 => ?_)
   refine sr fun K hK => ?_
   refine rn 5 E S ?_; clear E S; intro a w E S
   apply hK; clear hK K
   refine cond E rfl (fun h58r => ?_) (fun h58r => ?_)
   ·have h58 := nm h58r
    refine wp_skip ?_
    refine hK55 _ _ ?_; clear hK55
    refine wp_seq_k (fun K60 hK59 => ?_)
    refine wp_block ?_
    refine sr fun K hK => ?_
    refine rn 3 E S ?_; clear E S; intro a w E S
    have hi61 : (i : Int).toNat < b.ms.length := by omega
    obtain ⟨eb61, eo61, hA61, el61⟩ := Rd.at hRm (List.getElem?_eq_getElem hi61); cases hA61
    rw [show b.ms[(i : Int).toNat] = (b.ms.getD i MOM0) from getD_get (i := i) hi61 _] at el61
    have el61 := kMom_open el61
    refine o_ixL E rfl rfl rfl T.l29 ⟨by omega, by omega⟩ ?_; clear E; intro a E
    refine o_ldIA E rfl S rfl el61 T.a74 ?_; clear E; intro a E
    refine o_allocZ E rfl S ?_; clear E S; intro B8 w a S E
    refine rn 1 E S ?_; clear E S; intro a w E S
    apply hK; clear hK K
    refine wp_seq_k (fun K64 hK63 => ?_)
    obtain ⟨eb65, eo65, hc65⟩ : ∃ eb eo, ((((!decide (b.pol.time = 3)) || (!decide (((b.ms.getD i MOM0).rank) = ((i : Int) + 1)))) || (decide (((b.ms.getD i MOM0).time) < 0))) = false ∧ (decide (0 < (i : Int))) = true → ((some ⟨eb61, eo61, none⟩) : Option Addr) = some ⟨eb, eo, none⟩ ∧ ElAt kMom G eb (eo + ((i : Int) - 1).toNat * 2) (b.ms.getD ((i : Int) - 1).toNat MOM0)) := by
     by_cases hg : (((!decide (b.pol.time = 3)) || (!decide (((b.ms.getD i MOM0).rank) = ((i : Int) + 1)))) || (decide (((b.ms.getD i MOM0).time) < 0))) = false ∧ (decide (0 < (i : Int))) = true
     ·have hg2 := hg; try simp only [Bool.not_eq_true', Bool.not_eq_false', Bool.and_eq_true, Bool.or_eq_false_iff, decide_eq_true_eq, decide_eq_false_iff_not] at hg2; have hi : ((i : Int) - 1).toNat < b.ms.length := by omega
      obtain ⟨eb, eo, hA, el⟩ := Rd.at hRm (List.getElem?_eq_getElem hi)
      exact ⟨eb, eo, fun _ => ⟨hA, by rw [show b.ms[((i : Int) - 1).toNat] = (b.ms.getD ((i : Int) - 1).toNat MOM0) from getD_get (i := ((i : Int) - 1).toNat) hi _] at el; exact el⟩⟩
     ·exact ⟨0, 0, fun h => absurd h hg⟩
    replace E := E.cut (L' := [(1, .pointer (some ⟨B1, 0, none⟩)), (2, .bool false), (7, .int .i64 (i : Int)), (8, .pointer (some ⟨B8, 0, none⟩)), (93, .int .i64 (i : Int)), (94, .pointer (some ⟨B1, 15, none⟩)), (95, .slice (some ⟨eb61, eo61, none⟩) b.ms.length cm), (96, .int .i64 (b.ms.length : Int)), (97, .bool (decide ((i : Int) < (b.ms.length : Int)))), (100, .pointer (some ⟨B1, 15, none⟩)), (101, .slice (some ⟨eb61, eo61, none⟩) b.ms.length cm), (102, .int .i64 (i : Int)), (103, .pointer (some ⟨eb61, eo61 + (i : Int).toNat * 2, none⟩)), (104, .agg #[.int .i64 ((b.ms.getD i MOM0).rank), .int .i64 ((b.ms.getD i MOM0).time)])]) ⟨rfl, rfl, rfl, rfl, rfl, rfl, rfl, rfl, rfl, rfl, rfl, rfl, rfl, rfl, trivial⟩
    refine drawnP [fun v => v = .pointer (some ⟨B1, 0, none⟩), fun v => v = .pointer (some ⟨B1, 10, none⟩), fun v => v = .int .i64 b.pol.time, fun v => v = .bool (!decide (b.pol.time = 3)), fun v => v = .bool (!decide (b.pol.time = 3)), fun v => (!decide (b.pol.time = 3)) = false → v = .pointer (some ⟨B8, 0, none⟩), fun v => (!decide (b.pol.time = 3)) = false → v = .int .i64 ((b.ms.getD i MOM0).rank), fun v => (!decide (b.pol.time = 3)) = false → v = .int .i64 (i : Int), fun v => (!decide (b.pol.time = 3)) = false → v = .int .i64 ((i : Int) + 1), fun v => (!decide (b.pol.time = 3)) = false → v = .bool (!decide (((b.ms.getD i MOM0).rank) = ((i : Int) + 1))), fun v => v = .bool ((!decide (b.pol.time = 3)) || (!decide (((b.ms.getD i MOM0).rank) = ((i : Int) + 1)))), fun v => v = .bool ((!decide (b.pol.time = 3)) || (!decide (((b.ms.getD i MOM0).rank) = ((i : Int) + 1)))), fun v => ((!decide (b.pol.time = 3)) || (!decide (((b.ms.getD i MOM0).rank) = ((i : Int) + 1)))) = false → v = .pointer (some ⟨B8, 1, none⟩), fun v => ((!decide (b.pol.time = 3)) || (!decide (((b.ms.getD i MOM0).rank) = ((i : Int) + 1)))) = false → v = .int .i64 ((b.ms.getD i MOM0).time), fun v => ((!decide (b.pol.time = 3)) || (!decide (((b.ms.getD i MOM0).rank) = ((i : Int) + 1)))) = false → v = .bool (decide (((b.ms.getD i MOM0).time) < 0)), fun v => v = .bool (((!decide (b.pol.time = 3)) || (!decide (((b.ms.getD i MOM0).rank) = ((i : Int) + 1)))) || (decide (((b.ms.getD i MOM0).time) < 0))), fun v => v = .bool (((!decide (b.pol.time = 3)) || (!decide (((b.ms.getD i MOM0).rank) = ((i : Int) + 1)))) || (decide (((b.ms.getD i MOM0).time) < 0))), fun v => (((!decide (b.pol.time = 3)) || (!decide (((b.ms.getD i MOM0).rank) = ((i : Int) + 1)))) || (decide (((b.ms.getD i MOM0).time) < 0))) = false → v = .int .i64 (i : Int), fun v => (((!decide (b.pol.time = 3)) || (!decide (((b.ms.getD i MOM0).rank) = ((i : Int) + 1)))) || (decide (((b.ms.getD i MOM0).time) < 0))) = false → v = .bool (decide (0 < (i : Int))), fun v => ((((!decide (b.pol.time = 3)) || (!decide (((b.ms.getD i MOM0).rank) = ((i : Int) + 1)))) || (decide (((b.ms.getD i MOM0).time) < 0))) = false → v = .bool (decide (0 < (i : Int)))) ∧ ((((!decide (b.pol.time = 3)) || (!decide (((b.ms.getD i MOM0).rank) = ((i : Int) + 1)))) || (decide (((b.ms.getD i MOM0).time) < 0))) = true → v = undef), fun v => (((!decide (b.pol.time = 3)) || (!decide (((b.ms.getD i MOM0).rank) = ((i : Int) + 1)))) || (decide (((b.ms.getD i MOM0).time) < 0))) = false → (decide (0 < (i : Int))) = true → v = .pointer (some ⟨B8, 1, none⟩), fun v => (((!decide (b.pol.time = 3)) || (!decide (((b.ms.getD i MOM0).rank) = ((i : Int) + 1)))) || (decide (((b.ms.getD i MOM0).time) < 0))) = false → (decide (0 < (i : Int))) = true → v = .int .i64 ((b.ms.getD i MOM0).time), fun v => (((!decide (b.pol.time = 3)) || (!decide (((b.ms.getD i MOM0).rank) = ((i : Int) + 1)))) || (decide (((b.ms.getD i MOM0).time) < 0))) = false → (decide (0 < (i : Int))) = true → v = .pointer (some ⟨B1, 15, none⟩), fun v => (((!decide (b.pol.time = 3)) || (!decide (((b.ms.getD i MOM0).rank) = ((i : Int) + 1)))) || (decide (((b.ms.getD i MOM0).time) < 0))) = false → (decide (0 < (i : Int))) = true → v = .slice (some ⟨eb61, eo61, none⟩) b.ms.length cm, fun v => (((!decide (b.pol.time = 3)) || (!decide (((b.ms.getD i MOM0).rank) = ((i : Int) + 1)))) || (decide (((b.ms.getD i MOM0).time) < 0))) = false → (decide (0 < (i : Int))) = true → v = .int .i64 (i : Int), fun v => (((!decide (b.pol.time = 3)) || (!decide (((b.ms.getD i MOM0).rank) = ((i : Int) + 1)))) || (decide (((b.ms.getD i MOM0).time) < 0))) = false → (decide (0 < (i : Int))) = true → v = .int .i64 ((i : Int) - 1), fun v => (((!decide (b.pol.time = 3)) || (!decide (((b.ms.getD i MOM0).rank) = ((i : Int) + 1)))) || (decide (((b.ms.getD i MOM0).time) < 0))) = false → (decide (0 < (i : Int))) = true → v = .pointer (some ⟨eb65, eo65 + ((i : Int) - 1).toNat * 2, none⟩), fun v => (((!decide (b.pol.time = 3)) || (!decide (((b.ms.getD i MOM0).rank) = ((i : Int) + 1)))) || (decide (((b.ms.getD i MOM0).time) < 0))) = false → (decide (0 < (i : Int))) = true → v = .pointer (some ⟨eb65, eo65 + ((i : Int) - 1).toNat * 2 + 1, none⟩), fun v => (((!decide (b.pol.time = 3)) || (!decide (((b.ms.getD i MOM0).rank) = ((i : Int) + 1)))) || (decide (((b.ms.getD i MOM0).time) < 0))) = false → (decide (0 < (i : Int))) = true → v = .int .i64 ((b.ms.getD ((i : Int) - 1).toNat MOM0).time), fun v => (((!decide (b.pol.time = 3)) || (!decide (((b.ms.getD i MOM0).rank) = ((i : Int) + 1)))) || (decide (((b.ms.getD i MOM0).time) < 0))) = false → (decide (0 < (i : Int))) = true → v = .bool (decide (((b.ms.getD i MOM0).time) ≤ ((b.ms.getD ((i : Int) - 1).toNat MOM0).time))), fun v => (((!decide (b.pol.time = 3)) || (!decide (((b.ms.getD i MOM0).rank) = ((i : Int) + 1)))) || (decide (((b.ms.getD i MOM0).time) < 0))) = false → v = .bool ((decide (0 < (i : Int))) && (decide (((b.ms.getD i MOM0).time) ≤ ((b.ms.getD ((i : Int) - 1).toNat MOM0).time)))), fun v => v = .bool ((((!decide (b.pol.time = 3)) || (!decide (((b.ms.getD i MOM0).rank) = ((i : Int) + 1)))) || (decide (((b.ms.getD i MOM0).time) < 0))) || ((decide (0 < (i : Int))) && (decide (((b.ms.getD i MOM0).time) ≤ ((b.ms.getD ((i : Int) - 1).toNat MOM0).time)))))] T.mix rfl E S rfl ⟨?_, ?_, ?_, ?_, ?_, ?_, ?_, ?_, ?_, ?_, ?_, ?_, ?_, ?_, ?_, ?_, ?_, ?_, ?_, ?_, ?_, ?_, ?_, ?_, ?_, ?_, ?_, ?_, ?_, ?_, ?_, ?_, trivial⟩ ?_
    ·intro a w G1 hl S E hp
     refine o_fld E rfl rfl T.f32_0 ?_; clear E; intro a E
     exact ⟨_, _, S, rfl, E.get _ _ rfl, E.defers, rfl⟩
    ·intro a w G1 hl S E hp
     obtain ⟨_, e0, rfl⟩ := hp 0 105 _ rfl rfl rfl; replace E := E.add e0
     refine o_fld E rfl rfl T.f27_1 ?_; clear E; intro a E
     exact ⟨_, _, S, rfl, E.get _ _ rfl, E.defers, rfl⟩
    ·intro a w G1 hl S E hp
     obtain ⟨_, e1, rfl⟩ := hp 1 106 _ rfl rfl rfl; replace E := E.add e1
     refine o_ld E rfl S rfl T.s3 (.there (.here .here)) rfl ?_; clear E; intro a E
     exact ⟨_, _, S, rfl, E.get _ _ rfl, E.defers, rfl⟩
    ·intro a w G1 hl S E hp
     obtain ⟨_, e2, rfl⟩ := hp 2 107 _ rfl rfl rfl; replace E := E.add e2
     refine o_neI E rfl rfl rfl ?_; clear E; intro a E
     exact ⟨_, _, S, rfl, E.get _ _ rfl, E.defers, rfl⟩
    ·intro a w G1 hl S E hp
     obtain ⟨_, e3, rfl⟩ := hp 3 108 _ rfl rfl rfl; replace E := E.add e3
     refine o_move E rfl rfl ?_; clear E; intro a E
     exact ⟨_, _, S, rfl, E.get _ _ rfl, E.defers, rfl⟩
    ·intro a w G1 hl S E hp
     refine (Bool.eq_false_or_eq_true (!decide (b.pol.time = 3))).elim (fun hgd0 => ?_) (fun hgd0 => ?_)
     ·obtain ⟨_, e4, rfl⟩ := hp 4 109 _ rfl rfl rfl; replace E := E.add e4
      refine g_off E rfl rfl rfl hgd0 ?_; clear E; intro a E
      exact ⟨_, _, S, rfl, E.get _ _ rfl, E.defers, fun x0 => absurd (hgd0.symm.trans x0) (by decide)⟩
     ·obtain ⟨_, e4, rfl⟩ := hp 4 109 _ rfl rfl rfl; replace E := E.add e4
      refine op_on E rfl rfl hgd0 ?_
      refine o_fld E rfl rfl T.f74_0 ?_; clear E; intro a E
      exact ⟨_, _, S, rfl, E.get _ _ rfl, E.defers, fun x0 => rfl⟩
    ·intro a w G1 hl S E hp
     refine (Bool.eq_false_or_eq_true (!decide (b.pol.time = 3))).elim (fun hgd0 => ?_) (fun hgd0 => ?_)
     ·obtain ⟨_, e4, rfl⟩ := hp 4 109 _ rfl rfl rfl; replace E := E.add e4
      refine g_off E rfl rfl rfl hgd0 ?_; clear E; intro a E
      exact ⟨_, _, S, rfl, E.get _ _ rfl, E.defers, fun x0 => absurd (hgd0.symm.trans x0) (by decide)⟩
     ·obtain ⟨_, e4, rfl⟩ := hp 4 109 _ rfl rfl rfl; replace E := E.add e4
      obtain ⟨_, e5, h5v⟩ := hp 5 110 _ rfl rfl rfl; cases h5v hgd0; replace E := E.add e5
      refine op_on E rfl rfl hgd0 ?_
      refine o_ld E rfl S rfl T.s2 (.here .here) rfl ?_; clear E; intro a E
      exact ⟨_, _, S, rfl, E.get _ _ rfl, E.defers, fun x0 => rfl⟩
    ·intro a w G1 hl S E hp
     refine (Bool.eq_false_or_eq_true (!decide (b.pol.time = 3))).elim (fun hgd0 => ?_) (fun hgd0 => ?_)
     ·obtain ⟨_, e4, rfl⟩ := hp 4 109 _ rfl rfl rfl; replace E := E.add e4
      refine g_off E rfl rfl rfl hgd0 ?_; clear E; intro a E
      exact ⟨_, _, S, rfl, E.get _ _ rfl, E.defers, fun x0 => absurd (hgd0.symm.trans x0) (by decide)⟩
     ·obtain ⟨_, e4, rfl⟩ := hp 4 109 _ rfl rfl rfl; replace E := E.add e4
      refine op_on E rfl rfl hgd0 ?_
      refine o_move E rfl rfl ?_; clear E; intro a E
      exact ⟨_, _, S, rfl, E.get _ _ rfl, E.defers, fun x0 => rfl⟩
    ·intro a w G1 hl S E hp
     refine (Bool.eq_false_or_eq_true (!decide (b.pol.time = 3))).elim (fun hgd0 => ?_) (fun hgd0 => ?_)
     ·obtain ⟨_, e4, rfl⟩ := hp 4 109 _ rfl rfl rfl; replace E := E.add e4
      refine g_off E rfl rfl rfl hgd0 ?_; clear E; intro a E
      exact ⟨_, _, S, rfl, E.get _ _ rfl, E.defers, fun x0 => absurd (hgd0.symm.trans x0) (by decide)⟩
     ·obtain ⟨_, e4, rfl⟩ := hp 4 109 _ rfl rfl rfl; replace E := E.add e4
      obtain ⟨_, e7, h7v⟩ := hp 7 112 _ rfl rfl rfl; cases h7v hgd0; replace E := E.add e7
      refine op_on E rfl rfl hgd0 ?_
      refine o_add E rfl rfl rfl (by omega) ?_; clear E; intro a E
      exact ⟨_, _, S, rfl, E.get _ _ rfl, E.defers, fun x0 => rfl⟩
    ·intro a w G1 hl S E hp
     refine (Bool.eq_false_or_eq_true (!decide (b.pol.time = 3))).elim (fun hgd0 => ?_) (fun hgd0 => ?_)
     ·obtain ⟨_, e4, rfl⟩ := hp 4 109 _ rfl rfl rfl; replace E := E.add e4
      refine g_off E rfl rfl rfl hgd0 ?_; clear E; intro a E
      exact ⟨_, _, S, rfl, E.get _ _ rfl, E.defers, fun x0 => absurd (hgd0.symm.trans x0) (by decide)⟩
     ·obtain ⟨_, e4, rfl⟩ := hp 4 109 _ rfl rfl rfl; replace E := E.add e4
      obtain ⟨_, e6, h6v⟩ := hp 6 111 _ rfl rfl rfl; cases h6v hgd0; replace E := E.add e6
      obtain ⟨_, e8, h8v⟩ := hp 8 113 _ rfl rfl rfl; cases h8v hgd0; replace E := E.add e8
      refine op_on E rfl rfl hgd0 ?_
      refine o_neI E rfl rfl rfl ?_; clear E; intro a E
      exact ⟨_, _, S, rfl, E.get _ _ rfl, E.defers, fun x0 => rfl⟩
    ·intro a w G1 hl S E hp
     obtain ⟨_, e4, rfl⟩ := hp 4 109 _ rfl rfl rfl; replace E := E.add e4
     refine (Bool.eq_false_or_eq_true (!decide (b.pol.time = 3))).elim (fun hgd0 => ?_) (fun hgd0 => ?_)
     ·refine o_pick_t E rfl rfl hgd0 rfl ?_; clear E; intro a E
      exact ⟨_, _, S, rfl, E.get _ _ rfl, E.defers, (by rw [hgd0]; rfl)⟩
     ·obtain ⟨_, e9, h9v⟩ := hp 9 114 _ rfl rfl rfl; cases h9v hgd0; replace E := E.add e9
      refine o_pick_f E rfl rfl hgd0 rfl ?_; clear E; intro a E
      exact ⟨_, _, S, rfl, E.get _ _ rfl, E.defers, (by rw [hgd0]; rfl)⟩
    ·intro a w G1 hl S E hp
     obtain ⟨_, e10, rfl⟩ := hp 10 115 _ rfl rfl rfl; replace E := E.add e10
     refine o_move E rfl rfl ?_; clear E; intro a E
     exact ⟨_, _, S, rfl, E.get _ _ rfl, E.defers, rfl⟩
    ·intro a w G1 hl S E hp
     refine (Bool.eq_false_or_eq_true ((!decide (b.pol.time = 3)) || (!decide (((b.ms.getD i MOM0).rank) = ((i : Int) + 1))))).elim (fun hgd0 => ?_) (fun hgd0 => ?_)
     ·obtain ⟨_, e11, rfl⟩ := hp 11 116 _ rfl rfl rfl; replace E := E.add e11
      refine g_off E rfl rfl rfl hgd0 ?_; clear E; intro a E
      exact ⟨_, _, S, rfl, E.get _ _ rfl, E.defers, fun x0 => absurd (hgd0.symm.trans x0) (by decide)⟩
     ·obtain ⟨_, e11, rfl⟩ := hp 11 116 _ rfl rfl rfl; replace E := E.add e11
      refine op_on E rfl rfl hgd0 ?_
      refine o_fld E rfl rfl T.f74_1 ?_; clear E; intro a E
      exact ⟨_, _, S, rfl, E.get _ _ rfl, E.defers, fun x0 => rfl⟩
    ·intro a w G1 hl S E hp
     refine (Bool.eq_false_or_eq_true ((!decide (b.pol.time = 3)) || (!decide (((b.ms.getD i MOM0).rank) = ((i : Int) + 1))))).elim (fun hgd0 => ?_) (fun hgd0 => ?_)
     ·obtain ⟨_, e11, rfl⟩ := hp 11 116 _ rfl rfl rfl; replace E := E.add e11
      refine g_off E rfl rfl rfl hgd0 ?_; clear E; intro a E
      exact ⟨_, _, S, rfl, E.get _ _ rfl, E.defers, fun x0 => absurd (hgd0.symm.trans x0) (by decide)⟩
     ·obtain ⟨_, e11, rfl⟩ := hp 11 116 _ rfl rfl rfl; replace E := E.add e11
      obtain ⟨_, e12, h12v⟩ := hp 12 117 _ rfl rfl rfl; cases h12v hgd0; replace E := E.add e12
      refine op_on E rfl rfl hgd0 ?_
      refine o_ld E rfl S rfl T.s2 (.here .here) rfl ?_; clear E; intro a E
      exact ⟨_, _, S, rfl, E.get _ _ rfl, E.defers, fun x0 => rfl⟩
    ·intro a w G1 hl S E hp
     refine (Bool.eq_false_or_eq_true ((!decide (b.pol.time = 3)) || (!decide (((b.ms.getD i MOM0).rank) = ((i : Int) + 1))))).elim (fun hgd0 => ?_) (fun hgd0 => ?_)
     ·obtain ⟨_, e11, rfl⟩ := hp 11 116 _ rfl rfl rfl; replace E := E.add e11
      refine g_off E rfl rfl rfl hgd0 ?_; clear E; intro a E
      exact ⟨_, _, S, rfl, E.get _ _ rfl, E.defers, fun x0 => absurd (hgd0.symm.trans x0) (by decide)⟩
     ·obtain ⟨_, e11, rfl⟩ := hp 11 116 _ rfl rfl rfl; replace E := E.add e11
      obtain ⟨_, e13, h13v⟩ := hp 13 118 _ rfl rfl rfl; cases h13v hgd0; replace E := E.add e13
      refine op_on E rfl rfl hgd0 ?_
      refine o_lss E rfl rfl rfl ?_; clear E; intro a E
      exact ⟨_, _, S, rfl, E.get _ _ rfl, E.defers, fun x0 => rfl⟩
    ·intro a w G1 hl S E hp
     obtain ⟨_, e11, rfl⟩ := hp 11 116 _ rfl rfl rfl; replace E := E.add e11
     refine (Bool.eq_false_or_eq_true ((!decide (b.pol.time = 3)) || (!decide (((b.ms.getD i MOM0).rank) = ((i : Int) + 1))))).elim (fun hgd0 => ?_) (fun hgd0 => ?_)
     ·refine o_pick_t E rfl rfl hgd0 rfl ?_; clear E; intro a E
      exact ⟨_, _, S, rfl, E.get _ _ rfl, E.defers, (by rw [hgd0]; rfl)⟩
     ·obtain ⟨_, e14, h14v⟩ := hp 14 119 _ rfl rfl rfl; cases h14v hgd0; replace E := E.add e14
      refine o_pick_f E rfl rfl hgd0 rfl ?_; clear E; intro a E
      exact ⟨_, _, S, rfl, E.get _ _ rfl, E.defers, (by rw [hgd0]; rfl)⟩
    ·intro a w G1 hl S E hp
     obtain ⟨_, e15, rfl⟩ := hp 15 120 _ rfl rfl rfl; replace E := E.add e15
     refine o_move E rfl rfl ?_; clear E; intro a E
     exact ⟨_, _, S, rfl, E.get _ _ rfl, E.defers, rfl⟩
    ·intro a w G1 hl S E hp
     refine (Bool.eq_false_or_eq_true (((!decide (b.pol.time = 3)) || (!decide (((b.ms.getD i MOM0).rank) = ((i : Int) + 1)))) || (decide (((b.ms.getD i MOM0).time) < 0)))).elim (fun hgd0 => ?_) (fun hgd0 => ?_)
     ·obtain ⟨_, e16, rfl⟩ := hp 16 121 _ rfl rfl rfl; replace E := E.add e16
      refine g_off E rfl rfl rfl hgd0 ?_; clear E; intro a E
      exact ⟨_, _, S, rfl, E.get _ _ rfl, E.defers, fun x0 => absurd (hgd0.symm.trans x0) (by decide)⟩
     ·obtain ⟨_, e16, rfl⟩ := hp 16 121 _ rfl rfl rfl; replace E := E.add e16
      refine op_on E rfl rfl hgd0 ?_
      refine o_move E rfl rfl ?_; clear E; intro a E
      exact ⟨_, _, S, rfl, E.get _ _ rfl, E.defers, fun x0 => rfl⟩
    ·intro a w G1 hl S E hp
     refine (Bool.eq_false_or_eq_true (((!decide (b.pol.time = 3)) || (!decide (((b.ms.getD i MOM0).rank) = ((i : Int) + 1)))) || (decide (((b.ms.getD i MOM0).time) < 0)))).elim (fun hgd0 => ?_) (fun hgd0 => ?_)
     ·obtain ⟨_, e16, rfl⟩ := hp 16 121 _ rfl rfl rfl; replace E := E.add e16
      refine g_off E rfl rfl rfl hgd0 ?_; clear E; intro a E
      exact ⟨_, _, S, rfl, E.get _ _ rfl, E.defers, fun x0 => absurd (hgd0.symm.trans x0) (by decide)⟩
     ·obtain ⟨_, e16, rfl⟩ := hp 16 121 _ rfl rfl rfl; replace E := E.add e16
      obtain ⟨_, e17, h17v⟩ := hp 17 122 _ rfl rfl rfl; cases h17v hgd0; replace E := E.add e17
      refine op_on E rfl rfl hgd0 ?_
      refine o_gtr E rfl rfl rfl ?_; clear E; intro a E
      exact ⟨_, _, S, rfl, E.get _ _ rfl, E.defers, fun x0 => rfl⟩
    ·intro a w G1 hl S E hp
     refine (Bool.eq_false_or_eq_true (((!decide (b.pol.time = 3)) || (!decide (((b.ms.getD i MOM0).rank) = ((i : Int) + 1)))) || (decide (((b.ms.getD i MOM0).time) < 0)))).elim (fun hgd0 => ?_) (fun hgd0 => ?_)
     ·obtain ⟨_, e16, rfl⟩ := hp 16 121 _ rfl rfl rfl; replace E := E.add e16
      refine g_off E rfl rfl rfl hgd0 ?_; clear E; intro a E
      exact ⟨_, _, S, rfl, E.get _ _ rfl, E.defers, ⟨fun x0 => absurd (hgd0.symm.trans x0) (by decide), fun x0 => rfl⟩⟩
     ·obtain ⟨_, e16, rfl⟩ := hp 16 121 _ rfl rfl rfl; replace E := E.add e16
      obtain ⟨_, e18, h18v⟩ := hp 18 123 _ rfl rfl rfl; cases h18v hgd0; replace E := E.add e18
      refine op_on E rfl rfl hgd0 ?_
      refine o_move E rfl rfl ?_; clear E; intro a E
      exact ⟨_, _, S, rfl, E.get _ _ rfl, E.defers, ⟨fun x0 => rfl, fun x0 => absurd (hgd0.symm.trans x0) (by decide)⟩⟩
    ·intro a w G1 hl S E hp
     refine (Bool.eq_false_or_eq_true (((!decide (b.pol.time = 3)) || (!decide (((b.ms.getD i MOM0).rank) = ((i : Int) + 1)))) || (decide (((b.ms.getD i MOM0).time) < 0)))).elim (fun hgd0 => ?_) (fun hgd0 => ?_)
     ·obtain ⟨_, eg, hgv⟩ := hp 19 124 _ rfl rfl rfl; cases hgv.2 hgd0; replace E := E.add eg
      refine g_offu E rfl rfl rfl ?_; clear E; intro a E
      exact ⟨_, _, S, rfl, E.get _ _ rfl, E.defers, fun x0 x1 => absurd (hgd0.symm.trans x0) (by decide)⟩
     ·refine (Bool.eq_false_or_eq_true (decide (0 < (i : Int)))).elim (fun hgd1 => ?_) (fun hgd1 => ?_)
      ·obtain ⟨_, e19, h19v⟩ := hp 19 124 _ rfl rfl rfl; cases h19v.1 hgd0; replace E := E.add e19
       refine op_on E rfl rfl hgd1 ?_
       refine o_fld E rfl rfl T.f74_1 ?_; clear E; intro a E
       exact ⟨_, _, S, rfl, E.get _ _ rfl, E.defers, fun x0 x1 => rfl⟩
      ·obtain ⟨_, e19, h19v⟩ := hp 19 124 _ rfl rfl rfl; cases h19v.1 hgd0; replace E := E.add e19
       refine g_off E rfl rfl rfl hgd1 ?_; clear E; intro a E
       exact ⟨_, _, S, rfl, E.get _ _ rfl, E.defers, fun x0 x1 => absurd (hgd1.symm.trans x1) (by decide)⟩
    ·intro a w G1 hl S E hp
     refine (Bool.eq_false_or_eq_true (((!decide (b.pol.time = 3)) || (!decide (((b.ms.getD i MOM0).rank) = ((i : Int) + 1)))) || (decide (((b.ms.getD i MOM0).time) < 0)))).elim (fun hgd0 => ?_) (fun hgd0 => ?_)
     ·obtain ⟨_, eg, hgv⟩ := hp 19 124 _ rfl rfl rfl; cases hgv.2 hgd0; replace E := E.add eg
      refine g_offu E rfl rfl rfl ?_; clear E; intro a E
      exact ⟨_, _, S, rfl, E.get _ _ rfl, E.defers, fun x0 x1 => absurd (hgd0.symm.trans x0) (by decide)⟩
     ·refine (Bool.eq_false_or_eq_true (decide (0 < (i : Int)))).elim (fun hgd1 => ?_) (fun hgd1 => ?_)
      ·obtain ⟨_, e19, h19v⟩ := hp 19 124 _ rfl rfl rfl; cases h19v.1 hgd0; replace E := E.add e19
       obtain ⟨_, e20, h20v⟩ := hp 20 125 _ rfl rfl rfl; cases h20v hgd0 hgd1; replace E := E.add e20
       refine op_on E rfl rfl hgd1 ?_
       refine o_ld E rfl S rfl T.s2 (.here .here) rfl ?_; clear E; intro a E
       exact ⟨_, _, S, rfl, E.get _ _ rfl, E.defers, fun x0 x1 => rfl⟩
      ·obtain ⟨_, e19, h19v⟩ := hp 19 124 _ rfl rfl rfl; cases h19v.1 hgd0; replace E := E.add e19
       refine g_off E rfl rfl rfl hgd1 ?_; clear E; intro a E
       exact ⟨_, _, S, rfl, E.get _ _ rfl, E.defers, fun x0 x1 => absurd (hgd1.symm.trans x1) (by decide)⟩
    ·intro a w G1 hl S E hp
     refine (Bool.eq_false_or_eq_true (((!decide (b.pol.time = 3)) || (!decide (((b.ms.getD i MOM0).rank) = ((i : Int) + 1)))) || (decide (((b.ms.getD i MOM0).time) < 0)))).elim (fun hgd0 => ?_) (fun hgd0 => ?_)
     ·obtain ⟨_, eg, hgv⟩ := hp 19 124 _ rfl rfl rfl; cases hgv.2 hgd0; replace E := E.add eg
      refine g_offu E rfl rfl rfl ?_; clear E; intro a E
      exact ⟨_, _, S, rfl, E.get _ _ rfl, E.defers, fun x0 x1 => absurd (hgd0.symm.trans x0) (by decide)⟩
     ·refine (Bool.eq_false_or_eq_true (decide (0 < (i : Int)))).elim (fun hgd1 => ?_) (fun hgd1 => ?_)
      ·obtain ⟨_, e19, h19v⟩ := hp 19 124 _ rfl rfl rfl; cases h19v.1 hgd0; replace E := E.add e19
       refine op_on E rfl rfl hgd1 ?_
       refine o_fld E rfl rfl T.f32_2 ?_; clear E; intro a E
       exact ⟨_, _, S, rfl, E.get _ _ rfl, E.defers, fun x0 x1 => rfl⟩
      ·obtain ⟨_, e19, h19v⟩ := hp 19 124 _ rfl rfl rfl; cases h19v.1 hgd0; replace E := E.add e19
       refine g_off E rfl rfl rfl hgd1 ?_; clear E; intro a E
       exact ⟨_, _, S, rfl, E.get _ _ rfl, E.defers, fun x0 x1 => absurd (hgd1.symm.trans x1) (by decide)⟩
    ·intro a w G1 hl S E hp
     refine (Bool.eq_false_or_eq_true (((!decide (b.pol.time = 3)) || (!decide (((b.ms.getD i MOM0).rank) = ((i : Int) + 1)))) || (decide (((b.ms.getD i MOM0).time) < 0)))).elim (fun hgd0 => ?_) (fun hgd0 => ?_)
     ·obtain ⟨_, eg, hgv⟩ := hp 19 124 _ rfl rfl rfl; cases hgv.2 hgd0; replace E := E.add eg
      refine g_offu E rfl rfl rfl ?_; clear E; intro a E
      exact ⟨_, _, S, rfl, E.get _ _ rfl, E.defers, fun x0 x1 => absurd (hgd0.symm.trans x0) (by decide)⟩
     ·refine (Bool.eq_false_or_eq_true (decide (0 < (i : Int)))).elim (fun hgd1 => ?_) (fun hgd1 => ?_)
      ·obtain ⟨_, e19, h19v⟩ := hp 19 124 _ rfl rfl rfl; cases h19v.1 hgd0; replace E := E.add e19
       obtain ⟨_, e22, h22v⟩ := hp 22 127 _ rfl rfl rfl; cases h22v hgd0 hgd1; replace E := E.add e22
       refine op_on E rfl rfl hgd1 ?_
       refine o_ld E rfl S rfl T.s29 (.there (.here .here)) rfl ?_; clear E; intro a E
       exact ⟨_, _, S, rfl, E.get _ _ rfl, E.defers, fun x0 x1 => rfl⟩
      ·obtain ⟨_, e19, h19v⟩ := hp 19 124 _ rfl rfl rfl; cases h19v.1 hgd0; replace E := E.add e19
       refine g_off E rfl rfl rfl hgd1 ?_; clear E; intro a E
       exact ⟨_, _, S, rfl, E.get _ _ rfl, E.defers, fun x0 x1 => absurd (hgd1.symm.trans x1) (by decide)⟩
    ·intro a w G1 hl S E hp
     refine (Bool.eq_false_or_eq_true (((!decide (b.pol.time = 3)) || (!decide (((b.ms.getD i MOM0).rank) = ((i : Int) + 1)))) || (decide (((b.ms.getD i MOM0).time) < 0)))).elim (fun hgd0 => ?_) (fun hgd0 => ?_)
     ·obtain ⟨_, eg, hgv⟩ := hp 19 124 _ rfl rfl rfl; cases hgv.2 hgd0; replace E := E.add eg
      refine g_offu E rfl rfl rfl ?_; clear E; intro a E
      exact ⟨_, _, S, rfl, E.get _ _ rfl, E.defers, fun x0 x1 => absurd (hgd0.symm.trans x0) (by decide)⟩
     ·refine (Bool.eq_false_or_eq_true (decide (0 < (i : Int)))).elim (fun hgd1 => ?_) (fun hgd1 => ?_)
      ·obtain ⟨_, e19, h19v⟩ := hp 19 124 _ rfl rfl rfl; cases h19v.1 hgd0; replace E := E.add e19
       refine op_on E rfl rfl hgd1 ?_
       refine o_move E rfl rfl ?_; clear E; intro a E
       exact ⟨_, _, S, rfl, E.get _ _ rfl, E.defers, fun x0 x1 => rfl⟩
      ·obtain ⟨_, e19, h19v⟩ := hp 19 124 _ rfl rfl rfl; cases h19v.1 hgd0; replace E := E.add e19
       refine g_off E rfl rfl rfl hgd1 ?_; clear E; intro a E
       exact ⟨_, _, S, rfl, E.get _ _ rfl, E.defers, fun x0 x1 => absurd (hgd1.symm.trans x1) (by decide)⟩
    ·intro a w G1 hl S E hp
     refine (Bool.eq_false_or_eq_true (((!decide (b.pol.time = 3)) || (!decide (((b.ms.getD i MOM0).rank) = ((i : Int) + 1)))) || (decide (((b.ms.getD i MOM0).time) < 0)))).elim (fun hgd0 => ?_) (fun hgd0 => ?_)
     ·obtain ⟨_, eg, hgv⟩ := hp 19 124 _ rfl rfl rfl; cases hgv.2 hgd0; replace E := E.add eg
      refine g_offu E rfl rfl rfl ?_; clear E; intro a E
      exact ⟨_, _, S, rfl, E.get _ _ rfl, E.defers, fun x0 x1 => absurd (hgd0.symm.trans x0) (by decide)⟩
     ·refine (Bool.eq_false_or_eq_true (decide (0 < (i : Int)))).elim (fun hgd1 => ?_) (fun hgd1 => ?_)
      ·obtain ⟨_, e19, h19v⟩ := hp 19 124 _ rfl rfl rfl; cases h19v.1 hgd0; replace E := E.add e19
       obtain ⟨_, e24, h24v⟩ := hp 24 129 _ rfl rfl rfl; cases h24v hgd0 hgd1; replace E := E.add e24
       refine op_on E rfl rfl hgd1 ?_
       refine o_sub E rfl rfl rfl (by omega) ?_; clear E; intro a E
       exact ⟨_, _, S, rfl, E.get _ _ rfl, E.defers, fun x0 x1 => rfl⟩
      ·obtain ⟨_, e19, h19v⟩ := hp 19 124 _ rfl rfl rfl; cases h19v.1 hgd0; replace E := E.add e19
       refine g_off E rfl rfl rfl hgd1 ?_; clear E; intro a E
       exact ⟨_, _, S, rfl, E.get _ _ rfl, E.defers, fun x0 x1 => absurd (hgd1.symm.trans x1) (by decide)⟩
    ·intro a w G1 hl S E hp
     refine (Bool.eq_false_or_eq_true (((!decide (b.pol.time = 3)) || (!decide (((b.ms.getD i MOM0).rank) = ((i : Int) + 1)))) || (decide (((b.ms.getD i MOM0).time) < 0)))).elim (fun hgd0 => ?_) (fun hgd0 => ?_)
     ·obtain ⟨_, eg, hgv⟩ := hp 19 124 _ rfl rfl rfl; cases hgv.2 hgd0; replace E := E.add eg
      refine g_offu E rfl rfl rfl ?_; clear E; intro a E
      exact ⟨_, _, S, rfl, E.get _ _ rfl, E.defers, fun x0 x1 => absurd (hgd0.symm.trans x0) (by decide)⟩
     ·refine (Bool.eq_false_or_eq_true (decide (0 < (i : Int)))).elim (fun hgd1 => ?_) (fun hgd1 => ?_)
      ·obtain ⟨_, e19, h19v⟩ := hp 19 124 _ rfl rfl rfl; cases h19v.1 hgd0; replace E := E.add e19
       obtain ⟨_, e23, h23v⟩ := hp 23 128 _ rfl rfl rfl; cases h23v hgd0 hgd1; replace E := E.add e23
       obtain ⟨_, e25, h25v⟩ := hp 25 130 _ rfl rfl rfl; cases h25v hgd0 hgd1; replace E := E.add e25
       refine op_on E rfl rfl hgd1 ?_
       have hbk := And.intro hgd0 (hgd1); try simp only [Bool.not_eq_true', Bool.not_eq_false', Bool.and_eq_true, Bool.or_eq_false_iff, decide_eq_true_eq, decide_eq_false_iff_not] at hbk
       obtain ⟨hA65, el65⟩ := hc65 (And.intro hgd0 (hgd1)); cases hA65
       refine o_ixL E rfl rfl rfl T.l29 ⟨by omega, by omega⟩ ?_; clear E; intro a E
       exact ⟨_, _, S, rfl, E.get _ _ rfl, E.defers, fun x0 x1 => rfl⟩
      ·obtain ⟨_, e19, h19v⟩ := hp 19 124 _ rfl rfl rfl; cases h19v.1 hgd0; replace E := E.add e19
       refine g_off E rfl rfl rfl hgd1 ?_; clear E; intro a E
       exact ⟨_, _, S, rfl, E.get _ _ rfl, E.defers, fun x0 x1 => absurd (hgd1.symm.trans x1) (by decide)⟩
    ·intro a w G1 hl S E hp
     refine (Bool.eq_false_or_eq_true (((!decide (b.pol.time = 3)) || (!decide (((b.ms.getD i MOM0).rank) = ((i : Int) + 1)))) || (decide (((b.ms.getD i MOM0).time) < 0)))).elim (fun hgd0 => ?_) (fun hgd0 => ?_)
     ·obtain ⟨_, eg, hgv⟩ := hp 19 124 _ rfl rfl rfl; cases hgv.2 hgd0; replace E := E.add eg
      refine g_offu E rfl rfl rfl ?_; clear E; intro a E
      exact ⟨_, _, S, rfl, E.get _ _ rfl, E.defers, fun x0 x1 => absurd (hgd0.symm.trans x0) (by decide)⟩
     ·refine (Bool.eq_false_or_eq_true (decide (0 < (i : Int)))).elim (fun hgd1 => ?_) (fun hgd1 => ?_)
      ·obtain ⟨_, e19, h19v⟩ := hp 19 124 _ rfl rfl rfl; cases h19v.1 hgd0; replace E := E.add e19
       obtain ⟨_, e26, h26v⟩ := hp 26 131 _ rfl rfl rfl; cases h26v hgd0 hgd1; replace E := E.add e26
       refine op_on E rfl rfl hgd1 ?_
       refine o_fld E rfl rfl T.f74_1 ?_; clear E; intro a E
       exact ⟨_, _, S, rfl, E.get _ _ rfl, E.defers, fun x0 x1 => rfl⟩
      ·obtain ⟨_, e19, h19v⟩ := hp 19 124 _ rfl rfl rfl; cases h19v.1 hgd0; replace E := E.add e19
       refine g_off E rfl rfl rfl hgd1 ?_; clear E; intro a E
       exact ⟨_, _, S, rfl, E.get _ _ rfl, E.defers, fun x0 x1 => absurd (hgd1.symm.trans x1) (by decide)⟩
    ·intro a w G1 hl S E hp
     refine (Bool.eq_false_or_eq_true (((!decide (b.pol.time = 3)) || (!decide (((b.ms.getD i MOM0).rank) = ((i : Int) + 1)))) || (decide (((b.ms.getD i MOM0).time) < 0)))).elim (fun hgd0 => ?_) (fun hgd0 => ?_)
     ·obtain ⟨_, eg, hgv⟩ := hp 19 124 _ rfl rfl rfl; cases hgv.2 hgd0; replace E := E.add eg
      refine g_offu E rfl rfl rfl ?_; clear E; intro a E
      exact ⟨_, _, S, rfl, E.get _ _ rfl, E.defers, fun x0 x1 => absurd (hgd0.symm.trans x0) (by decide)⟩
     ·refine (Bool.eq_false_or_eq_true (decide (0 < (i : Int)))).elim (fun hgd1 => ?_) (fun hgd1 => ?_)
      ·obtain ⟨_, e19, h19v⟩ := hp 19 124 _ rfl rfl rfl; cases h19v.1 hgd0; replace E := E.add e19
       obtain ⟨_, e27, h27v⟩ := hp 27 132 _ rfl rfl rfl; cases h27v hgd0 hgd1; replace E := E.add e27
       refine op_on E rfl rfl hgd1 ?_
       obtain ⟨_, el65⟩ := hc65 (And.intro hgd0 (hgd1))
       have el65 := kMom_open el65
       refine o_ldI E rfl S rfl T.s2 (el65.le hl) (j := 1) rfl rfl ?_; clear E; intro a E
       exact ⟨_, _, S, rfl, E.get _ _ rfl, E.defers, fun x0 x1 => rfl⟩
      ·obtain ⟨_, e19, h19v⟩ := hp 19 124 _ rfl rfl rfl; cases h19v.1 hgd0; replace E := E.add e19
       refine g_off E rfl rfl rfl hgd1 ?_; clear E; intro a E
       exact ⟨_, _, S, rfl, E.get _ _ rfl, E.defers, fun x0 x1 => absurd (hgd1.symm.trans x1) (by decide)⟩
    ·intro a w G1 hl S E hp
     refine (Bool.eq_false_or_eq_true (((!decide (b.pol.time = 3)) || (!decide (((b.ms.getD i MOM0).rank) = ((i : Int) + 1)))) || (decide (((b.ms.getD i MOM0).time) < 0)))).elim (fun hgd0 => ?_) (fun hgd0 => ?_)
     ·obtain ⟨_, eg, hgv⟩ := hp 19 124 _ rfl rfl rfl; cases hgv.2 hgd0; replace E := E.add eg
      refine g_offu E rfl rfl rfl ?_; clear E; intro a E
      exact ⟨_, _, S, rfl, E.get _ _ rfl, E.defers, fun x0 x1 => absurd (hgd0.symm.trans x0) (by decide)⟩
     ·refine (Bool.eq_false_or_eq_true (decide (0 < (i : Int)))).elim (fun hgd1 => ?_) (fun hgd1 => ?_)
      ·obtain ⟨_, e19, h19v⟩ := hp 19 124 _ rfl rfl rfl; cases h19v.1 hgd0; replace E := E.add e19
       obtain ⟨_, e21, h21v⟩ := hp 21 126 _ rfl rfl rfl; cases h21v hgd0 hgd1; replace E := E.add e21
       obtain ⟨_, e28, h28v⟩ := hp 28 133 _ rfl rfl rfl; cases h28v hgd0 hgd1; replace E := E.add e28
       refine op_on E rfl rfl hgd1 ?_
       refine o_leq E rfl rfl rfl ?_; clear E; intro a E
       exact ⟨_, _, S, rfl, E.get _ _ rfl, E.defers, fun x0 x1 => rfl⟩
      ·obtain ⟨_, e19, h19v⟩ := hp 19 124 _ rfl rfl rfl; cases h19v.1 hgd0; replace E := E.add e19
       refine g_off E rfl rfl rfl hgd1 ?_; clear E; intro a E
       exact ⟨_, _, S, rfl, E.get _ _ rfl, E.defers, fun x0 x1 => absurd (hgd1.symm.trans x1) (by decide)⟩
    ·intro a w G1 hl S E hp
     refine (Bool.eq_false_or_eq_true (((!decide (b.pol.time = 3)) || (!decide (((b.ms.getD i MOM0).rank) = ((i : Int) + 1)))) || (decide (((b.ms.getD i MOM0).time) < 0)))).elim (fun hgd0 => ?_) (fun hgd0 => ?_)
     ·obtain ⟨_, e16, rfl⟩ := hp 16 121 _ rfl rfl rfl; replace E := E.add e16
      refine g_off E rfl rfl rfl hgd0 ?_; clear E; intro a E
      exact ⟨_, _, S, rfl, E.get _ _ rfl, E.defers, fun x0 => absurd (hgd0.symm.trans x0) (by decide)⟩
     ·obtain ⟨_, e16, rfl⟩ := hp 16 121 _ rfl rfl rfl; replace E := E.add e16
      refine op_on E rfl rfl hgd0 ?_
      obtain ⟨_, e19, h19v⟩ := hp 19 124 _ rfl rfl rfl; cases h19v.1 hgd0; replace E := E.add e19
      refine (Bool.eq_false_or_eq_true (decide (0 < (i : Int)))).elim (fun hgd1 => ?_) (fun hgd1 => ?_)
      ·obtain ⟨_, e29, h29v⟩ := hp 29 134 _ rfl rfl rfl; cases h29v hgd0 hgd1; replace E := E.add e29
       refine o_pick_t E rfl rfl hgd1 rfl ?_; clear E; intro a E
       exact ⟨_, _, S, rfl, E.get _ _ rfl, E.defers, fun x0 => (by rw [hgd1]; rfl)⟩
      ·refine o_pick_f E rfl rfl hgd1 rfl ?_; clear E; intro a E
       exact ⟨_, _, S, rfl, E.get _ _ rfl, E.defers, fun x0 => (by rw [hgd1]; rfl)⟩
    ·intro a w G1 hl S E hp
     obtain ⟨_, e16, rfl⟩ := hp 16 121 _ rfl rfl rfl; replace E := E.add e16
     refine (Bool.eq_false_or_eq_true (((!decide (b.pol.time = 3)) || (!decide (((b.ms.getD i MOM0).rank) = ((i : Int) + 1)))) || (decide (((b.ms.getD i MOM0).time) < 0)))).elim (fun hgd0 => ?_) (fun hgd0 => ?_)
     ·refine o_pick_t E rfl rfl hgd0 rfl ?_; clear E; intro a E
      exact ⟨_, _, S, rfl, E.get _ _ rfl, E.defers, (by rw [hgd0]; rfl)⟩
     ·obtain ⟨_, e30, h30v⟩ := hp 30 135 _ rfl rfl rfl; cases h30v hgd0; replace E := E.add e30
      refine o_pick_f E rfl rfl hgd0 rfl ?_; clear E; intro a E
      exact ⟨_, _, S, rfl, E.get _ _ rfl, E.defers, (by rw [hgd0]; rfl)⟩
    clear E S; intro a w S E hp
    obtain ⟨_, e31, rfl⟩ := hp 31 136 _ rfl rfl; replace E := E.add e31
    clear hp
    refine hK63 _ _ ?_; clear hK63
    refine cond E rfl (fun h66r => ?_) (fun h66r => ?_)
    ·have h66 := nm h66r
     refine sr fun K hK => ?_
     refine rn 1 E S ?_; clear E S; intro a w E S
     apply hK; clear hK K
     refine rt hQ E S ?_
     have he : bookB b = false := book_m (mom_fail (i := i) (by omega) h66r)
     show _ = _
     rw [he]
     rfl
    ·have h66 := nm h66r
     refine wp_skip ?_
     refine hK59 _ _ ?_; clear hK59
     refine wp_region_lit ?_
     refine rn 2 E S ?_; clear E S; intro a w E S
     have hz7 := True.intro
     refine rn 1 E S ?_; clear E S; intro a w E S
     replace S := S.drop (M' := [_]) (sub_drop (sub_keep sub_nil))
     have htm2 : i + 1 = 0 ∨ b.pol.time = 3 := .inr (mom_pass h66r).1
     have hmo2 : ∀ j, j < i + 1 → momOk b j = true := by
      intro j hj
      rcases Nat.lt_or_ge j i with h_9 | h_9
      ·exact hmo j h_9
      ·obtain rfl : j = i := by omega
       exact (mom_pass h66r).2
     exact ⟨i + 1, ⟨S, E.cut ⟨rfl, rfl, rfl, trivial⟩, ⟨by omega, htm2, hmo2⟩⟩, by omega⟩
   ·have h58 := nm h58r
    refine wp_exit ?_
    refine hK51 _ _ ?_; clear hK51
    refine wp_seq_k (fun K69 hK68 => ?_)
    refine sr fun K hK => ?_
    refine rn 1 E S ?_; clear E S; intro a w E S
    apply hK; clear hK K
    refine wp_block ?_
    have hm1 : b.ms.length = 0 ∨ b.pol.time = 3 := by
     rcases htm with h | h
     ·exact .inl (by omega)
     ·exact .inr h
    have hmo1 : ∀ j, j < b.ms.length → momOk b j = true := fun j hj => hmo j (by omega)
    clear hmo
    have hmo := hmo1
    refine loop (fun (i : Nat) a' w' => St w0 G [] G w' [[(B1, Cells 32 (PC b [(14, .slice Ae b.es.length ce), (15, .slice Am b.ms.length cm), (16, .slice Ar b.rs.length cr)]))]] ∧ Env a' 185 [] [(1, .pointer (some ⟨B1, 0, none⟩)), (2, .bool false), (9, .int .i64 (i : Int))] ∧ (i ≤ b.rs.length ∧ (i = 0 ∨ b.pol.note = 4) ∧ ∀ j, j < i → remOk b j = true)) (fun (i : Nat) => b.rs.length - i) 0 ⟨S, E.cut ⟨rfl, rfl, rfl, trivial⟩, ⟨Nat.zero_le _, .inl rfl, fun j hj => absurd hj (Nat.not_lt_zero _)⟩⟩ ?_
    clear E S; intro i a w ⟨S, E, ⟨hi, htm, hro⟩⟩
    refine wp_seq_k (fun K73 hK72 => ?_)
    refine sr fun K hK => ?_
    refine rn 5 E S ?_; clear E S; intro a w E S
    apply hK; clear hK K
    refine cond E rfl (fun h75r => ?_) (fun h75r => ?_)
    ·have h75 := nm h75r
     refine wp_skip ?_
     refine hK72 _ _ ?_; clear hK72
     refine wp_seq_k (fun K77 hK76 => ?_)
     refine wp_block ?_
     refine sr fun K hK => ?_
     refine rn 3 E S ?_; clear E S; intro a w E S
     have hi78 : (i : Int).toNat < b.rs.length := by omega
     obtain ⟨eb78, eo78, hA78, el78⟩ := Rd.at hRr (List.getElem?_eq_getElem hi78); cases hA78
     rw [show b.rs[(i : Int).toNat] = (b.rs.getD i REM0) from getD_get (i := i) hi78 _] at el78
     have el78 := kRem_open el78
     refine o_ixL E rfl rfl rfl T.l30 ⟨by omega, by omega⟩ ?_; clear E; intro a E
     refine o_ldIA E rfl S rfl el78 T.a76 ?_; clear E; intro a E
     refine o_allocZ E rfl S ?_; clear E S; intro B10 w a S E
     refine rn 1 E S ?_; clear E S; intro a w E S
     apply hK; clear hK K
     refine wp_seq_k (fun K81 hK80 => ?_)
     have hsr9 := hrw _ (remm (b := b) (i := i) (by omega))
     obtain ⟨eb82, eo82, hc82⟩ : ∃ eb eo, ((((!decide (b.pol.note = 4)) || (decide (((b.rs.getD i REM0).ev) < 1))) || (decide (4096 < ((b.rs.getD i REM0).ev)))) = false ∧ (decide (0 < (i : Int))) = true → ((some ⟨eb78, eo78, none⟩) : Option Addr) = some ⟨eb, eo, none⟩ ∧ ElAt kRem G eb (eo + ((i : Int) - 1).toNat * 2) (b.rs.getD ((i : Int) - 1).toNat REM0)) := by
      by_cases hg : (((!decide (b.pol.note = 4)) || (decide (((b.rs.getD i REM0).ev) < 1))) || (decide (4096 < ((b.rs.getD i REM0).ev)))) = false ∧ (decide (0 < (i : Int))) = true
      ·have hg2 := hg; try simp only [Bool.not_eq_true', Bool.not_eq_false', Bool.and_eq_true, Bool.or_eq_false_iff, decide_eq_true_eq, decide_eq_false_iff_not] at hg2; have hi : ((i : Int) - 1).toNat < b.rs.length := by omega
       obtain ⟨eb, eo, hA, el⟩ := Rd.at hRr (List.getElem?_eq_getElem hi)
       exact ⟨eb, eo, fun _ => ⟨hA, by rw [show b.rs[((i : Int) - 1).toNat] = (b.rs.getD ((i : Int) - 1).toNat REM0) from getD_get (i := ((i : Int) - 1).toNat) hi _] at el; exact el⟩⟩
      ·exact ⟨0, 0, fun h => absurd h hg⟩
     replace E := E.cut (L' := [(1, .pointer (some ⟨B1, 0, none⟩)), (2, .bool false), (9, .int .i64 (i : Int)), (10, .pointer (some ⟨B10, 0, none⟩)), (137, .int .i64 (i : Int)), (138, .pointer (some ⟨B1, 16, none⟩)), (139, .slice (some ⟨eb78, eo78, none⟩) b.rs.length cr), (140, .int .i64 (b.rs.length : Int)), (141, .bool (decide ((i : Int) < (b.rs.length : Int)))), (144, .pointer (some ⟨B1, 16, none⟩)), (145, .slice (some ⟨eb78, eo78, none⟩) b.rs.length cr), (146, .int .i64 (i : Int)), (147, .pointer (some ⟨eb78, eo78 + (i : Int).toNat * 2, none⟩)), (148, .agg #[.int .i64 ((b.rs.getD i REM0).ev), str ((b.rs.getD i REM0).note)])]) ⟨rfl, rfl, rfl, rfl, rfl, rfl, rfl, rfl, rfl, rfl, rfl, rfl, rfl, rfl, trivial⟩
     refine drawnP [fun v => v = .pointer (some ⟨B1, 0, none⟩), fun v => v = .pointer (some ⟨B1, 11, none⟩), fun v => v = .int .i64 b.pol.note, fun v => v = .bool (!decide (b.pol.note = 4)), fun v => v = .bool (!decide (b.pol.note = 4)), fun v => (!decide (b.pol.note = 4)) = false → v = .pointer (some ⟨B10, 0, none⟩), fun v => (!decide (b.pol.note = 4)) = false → v = .int .i64 ((b.rs.getD i REM0).ev), fun v => (!decide (b.pol.note = 4)) = false → v = .bool (decide (((b.rs.getD i REM0).ev) < 1)), fun v => v = .bool ((!decide (b.pol.note = 4)) || (decide (((b.rs.getD i REM0).ev) < 1))), fun v => v = .bool ((!decide (b.pol.note = 4)) || (decide (((b.rs.getD i REM0).ev) < 1))), fun v => ((!decide (b.pol.note = 4)) || (decide (((b.rs.getD i REM0).ev) < 1))) = false → v = .pointer (some ⟨B10, 0, none⟩), fun v => ((!decide (b.pol.note = 4)) || (decide (((b.rs.getD i REM0).ev) < 1))) = false → v = .int .i64 ((b.rs.getD i REM0).ev), fun v => ((!decide (b.pol.note = 4)) || (decide (((b.rs.getD i REM0).ev) < 1))) = false → v = .bool (decide (4096 < ((b.rs.getD i REM0).ev))), fun v => v = .bool (((!decide (b.pol.note = 4)) || (decide (((b.rs.getD i REM0).ev) < 1))) || (decide (4096 < ((b.rs.getD i REM0).ev)))), fun v => v = .bool (((!decide (b.pol.note = 4)) || (decide (((b.rs.getD i REM0).ev) < 1))) || (decide (4096 < ((b.rs.getD i REM0).ev)))), fun v => (((!decide (b.pol.note = 4)) || (decide (((b.rs.getD i REM0).ev) < 1))) || (decide (4096 < ((b.rs.getD i REM0).ev)))) = false → v = .int .i64 (i : Int), fun v => (((!decide (b.pol.note = 4)) || (decide (((b.rs.getD i REM0).ev) < 1))) || (decide (4096 < ((b.rs.getD i REM0).ev)))) = false → v = .bool (decide (0 < (i : Int))), fun v => ((((!decide (b.pol.note = 4)) || (decide (((b.rs.getD i REM0).ev) < 1))) || (decide (4096 < ((b.rs.getD i REM0).ev)))) = false → v = .bool (decide (0 < (i : Int)))) ∧ ((((!decide (b.pol.note = 4)) || (decide (((b.rs.getD i REM0).ev) < 1))) || (decide (4096 < ((b.rs.getD i REM0).ev)))) = true → v = undef), fun v => (((!decide (b.pol.note = 4)) || (decide (((b.rs.getD i REM0).ev) < 1))) || (decide (4096 < ((b.rs.getD i REM0).ev)))) = false → (decide (0 < (i : Int))) = true → v = .pointer (some ⟨B10, 0, none⟩), fun v => (((!decide (b.pol.note = 4)) || (decide (((b.rs.getD i REM0).ev) < 1))) || (decide (4096 < ((b.rs.getD i REM0).ev)))) = false → (decide (0 < (i : Int))) = true → v = .int .i64 ((b.rs.getD i REM0).ev), fun v => (((!decide (b.pol.note = 4)) || (decide (((b.rs.getD i REM0).ev) < 1))) || (decide (4096 < ((b.rs.getD i REM0).ev)))) = false → (decide (0 < (i : Int))) = true → v = .pointer (some ⟨B1, 16, none⟩), fun v => (((!decide (b.pol.note = 4)) || (decide (((b.rs.getD i REM0).ev) < 1))) || (decide (4096 < ((b.rs.getD i REM0).ev)))) = false → (decide (0 < (i : Int))) = true → v = .slice (some ⟨eb78, eo78, none⟩) b.rs.length cr, fun v => (((!decide (b.pol.note = 4)) || (decide (((b.rs.getD i REM0).ev) < 1))) || (decide (4096 < ((b.rs.getD i REM0).ev)))) = false → (decide (0 < (i : Int))) = true → v = .int .i64 (i : Int), fun v => (((!decide (b.pol.note = 4)) || (decide (((b.rs.getD i REM0).ev) < 1))) || (decide (4096 < ((b.rs.getD i REM0).ev)))) = false → (decide (0 < (i : Int))) = true → v = .int .i64 ((i : Int) - 1), fun v => (((!decide (b.pol.note = 4)) || (decide (((b.rs.getD i REM0).ev) < 1))) || (decide (4096 < ((b.rs.getD i REM0).ev)))) = false → (decide (0 < (i : Int))) = true → v = .pointer (some ⟨eb82, eo82 + ((i : Int) - 1).toNat * 2, none⟩), fun v => (((!decide (b.pol.note = 4)) || (decide (((b.rs.getD i REM0).ev) < 1))) || (decide (4096 < ((b.rs.getD i REM0).ev)))) = false → (decide (0 < (i : Int))) = true → v = .pointer (some ⟨eb82, eo82 + ((i : Int) - 1).toNat * 2 + 0, none⟩), fun v => (((!decide (b.pol.note = 4)) || (decide (((b.rs.getD i REM0).ev) < 1))) || (decide (4096 < ((b.rs.getD i REM0).ev)))) = false → (decide (0 < (i : Int))) = true → v = .int .i64 ((b.rs.getD ((i : Int) - 1).toNat REM0).ev), fun v => (((!decide (b.pol.note = 4)) || (decide (((b.rs.getD i REM0).ev) < 1))) || (decide (4096 < ((b.rs.getD i REM0).ev)))) = false → (decide (0 < (i : Int))) = true → v = .bool (decide (((b.rs.getD i REM0).ev) ≤ ((b.rs.getD ((i : Int) - 1).toNat REM0).ev))), fun v => (((!decide (b.pol.note = 4)) || (decide (((b.rs.getD i REM0).ev) < 1))) || (decide (4096 < ((b.rs.getD i REM0).ev)))) = false → v = .bool ((decide (0 < (i : Int))) && (decide (((b.rs.getD i REM0).ev) ≤ ((b.rs.getD ((i : Int) - 1).toNat REM0).ev)))), fun v => v = .bool ((((!decide (b.pol.note = 4)) || (decide (((b.rs.getD i REM0).ev) < 1))) || (decide (4096 < ((b.rs.getD i REM0).ev)))) || ((decide (0 < (i : Int))) && (decide (((b.rs.getD i REM0).ev) ≤ ((b.rs.getD ((i : Int) - 1).toNat REM0).ev))))), fun v => v = .bool ((((!decide (b.pol.note = 4)) || (decide (((b.rs.getD i REM0).ev) < 1))) || (decide (4096 < ((b.rs.getD i REM0).ev)))) || ((decide (0 < (i : Int))) && (decide (((b.rs.getD i REM0).ev) ≤ ((b.rs.getD ((i : Int) - 1).toNat REM0).ev))))), fun v => ((((!decide (b.pol.note = 4)) || (decide (((b.rs.getD i REM0).ev) < 1))) || (decide (4096 < ((b.rs.getD i REM0).ev)))) || ((decide (0 < (i : Int))) && (decide (((b.rs.getD i REM0).ev) ≤ ((b.rs.getD ((i : Int) - 1).toNat REM0).ev))))) = false → v = .pointer (some ⟨B10, 1, none⟩), fun v => ((((!decide (b.pol.note = 4)) || (decide (((b.rs.getD i REM0).ev) < 1))) || (decide (4096 < ((b.rs.getD i REM0).ev)))) || ((decide (0 < (i : Int))) && (decide (((b.rs.getD i REM0).ev) ≤ ((b.rs.getD ((i : Int) - 1).toNat REM0).ev))))) = false → v = str ((b.rs.getD i REM0).note), fun v => ((((!decide (b.pol.note = 4)) || (decide (((b.rs.getD i REM0).ev) < 1))) || (decide (4096 < ((b.rs.getD i REM0).ev)))) || ((decide (0 < (i : Int))) && (decide (((b.rs.getD i REM0).ev) ≤ ((b.rs.getD ((i : Int) - 1).toNat REM0).ev))))) = false → v = .bool (plainB ((b.rs.getD i REM0).note)), fun v => ((((!decide (b.pol.note = 4)) || (decide (((b.rs.getD i REM0).ev) < 1))) || (decide (4096 < ((b.rs.getD i REM0).ev)))) || ((decide (0 < (i : Int))) && (decide (((b.rs.getD i REM0).ev) ≤ ((b.rs.getD ((i : Int) - 1).toNat REM0).ev))))) = false → v = .bool (!(plainB ((b.rs.getD i REM0).note))), fun v => v = .bool (((((!decide (b.pol.note = 4)) || (decide (((b.rs.getD i REM0).ev) < 1))) || (decide (4096 < ((b.rs.getD i REM0).ev)))) || ((decide (0 < (i : Int))) && (decide (((b.rs.getD i REM0).ev) ≤ ((b.rs.getD ((i : Int) - 1).toNat REM0).ev))))) || (!(plainB ((b.rs.getD i REM0).note))))] T.mix rfl E S rfl ⟨?_, ?_, ?_, ?_, ?_, ?_, ?_, ?_, ?_, ?_, ?_, ?_, ?_, ?_, ?_, ?_, ?_, ?_, ?_, ?_, ?_, ?_, ?_, ?_, ?_, ?_, ?_, ?_, ?_, ?_, ?_, ?_, ?_, ?_, ?_, ?_, trivial⟩ ?_
     ·intro a w G1 hl S E hp
      refine o_fld E rfl rfl T.f32_0 ?_; clear E; intro a E
      exact ⟨_, _, S, rfl, E.get _ _ rfl, E.defers, rfl⟩
     ·intro a w G1 hl S E hp
      obtain ⟨_, e0, rfl⟩ := hp 0 149 _ rfl rfl rfl; replace E := E.add e0
      refine o_fld E rfl rfl T.f27_2 ?_; clear E; intro a E
      exact ⟨_, _, S, rfl, E.get _ _ rfl, E.defers, rfl⟩
     ·intro a w G1 hl S E hp
      obtain ⟨_, e1, rfl⟩ := hp 1 150 _ rfl rfl rfl; replace E := E.add e1
      refine o_ld E rfl S rfl T.s3 (.there (.here .here)) rfl ?_; clear E; intro a E
      exact ⟨_, _, S, rfl, E.get _ _ rfl, E.defers, rfl⟩
     ·intro a w G1 hl S E hp
      obtain ⟨_, e2, rfl⟩ := hp 2 151 _ rfl rfl rfl; replace E := E.add e2
      refine o_neI E rfl rfl rfl ?_; clear E; intro a E
      exact ⟨_, _, S, rfl, E.get _ _ rfl, E.defers, rfl⟩
     ·intro a w G1 hl S E hp
      obtain ⟨_, e3, rfl⟩ := hp 3 152 _ rfl rfl rfl; replace E := E.add e3
      refine o_move E rfl rfl ?_; clear E; intro a E
      exact ⟨_, _, S, rfl, E.get _ _ rfl, E.defers, rfl⟩
     ·intro a w G1 hl S E hp
      refine (Bool.eq_false_or_eq_true (!decide (b.pol.note = 4))).elim (fun hgd0 => ?_) (fun hgd0 => ?_)
      ·obtain ⟨_, e4, rfl⟩ := hp 4 153 _ rfl rfl rfl; replace E := E.add e4
       refine g_off E rfl rfl rfl hgd0 ?_; clear E; intro a E
       exact ⟨_, _, S, rfl, E.get _ _ rfl, E.defers, fun x0 => absurd (hgd0.symm.trans x0) (by decide)⟩
      ·obtain ⟨_, e4, rfl⟩ := hp 4 153 _ rfl rfl rfl; replace E := E.add e4
       refine op_on E rfl rfl hgd0 ?_
       refine o_fld E rfl rfl T.f76_0 ?_; clear E; intro a E
       exact ⟨_, _, S, rfl, E.get _ _ rfl, E.defers, fun x0 => rfl⟩
     ·intro a w G1 hl S E hp
      refine (Bool.eq_false_or_eq_true (!decide (b.pol.note = 4))).elim (fun hgd0 => ?_) (fun hgd0 => ?_)
      ·obtain ⟨_, e4, rfl⟩ := hp 4 153 _ rfl rfl rfl; replace E := E.add e4
       refine g_off E rfl rfl rfl hgd0 ?_; clear E; intro a E
       exact ⟨_, _, S, rfl, E.get _ _ rfl, E.defers, fun x0 => absurd (hgd0.symm.trans x0) (by decide)⟩
      ·obtain ⟨_, e4, rfl⟩ := hp 4 153 _ rfl rfl rfl; replace E := E.add e4
       obtain ⟨_, e5, h5v⟩ := hp 5 154 _ rfl rfl rfl; cases h5v hgd0; replace E := E.add e5
       refine op_on E rfl rfl hgd0 ?_
       refine o_ld E rfl S rfl T.s3 (.here .here) rfl ?_; clear E; intro a E
       exact ⟨_, _, S, rfl, E.get _ _ rfl, E.defers, fun x0 => rfl⟩
     ·intro a w G1 hl S E hp
      refine (Bool.eq_false_or_eq_true (!decide (b.pol.note = 4))).elim (fun hgd0 => ?_) (fun hgd0 => ?_)
      ·obtain ⟨_, e4, rfl⟩ := hp 4 153 _ rfl rfl rfl; replace E := E.add e4
       refine g_off E rfl rfl rfl hgd0 ?_; clear E; intro a E
       exact ⟨_, _, S, rfl, E.get _ _ rfl, E.defers, fun x0 => absurd (hgd0.symm.trans x0) (by decide)⟩
      ·obtain ⟨_, e4, rfl⟩ := hp 4 153 _ rfl rfl rfl; replace E := E.add e4
       obtain ⟨_, e6, h6v⟩ := hp 6 155 _ rfl rfl rfl; cases h6v hgd0; replace E := E.add e6
       refine op_on E rfl rfl hgd0 ?_
       refine o_lss E rfl rfl rfl ?_; clear E; intro a E
       exact ⟨_, _, S, rfl, E.get _ _ rfl, E.defers, fun x0 => rfl⟩
     ·intro a w G1 hl S E hp
      obtain ⟨_, e4, rfl⟩ := hp 4 153 _ rfl rfl rfl; replace E := E.add e4
      refine (Bool.eq_false_or_eq_true (!decide (b.pol.note = 4))).elim (fun hgd0 => ?_) (fun hgd0 => ?_)
      ·refine o_pick_t E rfl rfl hgd0 rfl ?_; clear E; intro a E
       exact ⟨_, _, S, rfl, E.get _ _ rfl, E.defers, (by rw [hgd0]; rfl)⟩
      ·obtain ⟨_, e7, h7v⟩ := hp 7 156 _ rfl rfl rfl; cases h7v hgd0; replace E := E.add e7
       refine o_pick_f E rfl rfl hgd0 rfl ?_; clear E; intro a E
       exact ⟨_, _, S, rfl, E.get _ _ rfl, E.defers, (by rw [hgd0]; rfl)⟩
     ·intro a w G1 hl S E hp
      obtain ⟨_, e8, rfl⟩ := hp 8 157 _ rfl rfl rfl; replace E := E.add e8
      refine o_move E rfl rfl ?_; clear E; intro a E
      exact ⟨_, _, S, rfl, E.get _ _ rfl, E.defers, rfl⟩
     ·intro a w G1 hl S E hp
      refine (Bool.eq_false_or_eq_true ((!decide (b.pol.note = 4)) || (decide (((b.rs.getD i REM0).ev) < 1)))).elim (fun hgd0 => ?_) (fun hgd0 => ?_)
      ·obtain ⟨_, e9, rfl⟩ := hp 9 158 _ rfl rfl rfl; replace E := E.add e9
       refine g_off E rfl rfl rfl hgd0 ?_; clear E; intro a E
       exact ⟨_, _, S, rfl, E.get _ _ rfl, E.defers, fun x0 => absurd (hgd0.symm.trans x0) (by decide)⟩
      ·obtain ⟨_, e9, rfl⟩ := hp 9 158 _ rfl rfl rfl; replace E := E.add e9
       refine op_on E rfl rfl hgd0 ?_
       refine o_fld E rfl rfl T.f76_0 ?_; clear E; intro a E
       exact ⟨_, _, S, rfl, E.get _ _ rfl, E.defers, fun x0 => rfl⟩
     ·intro a w G1 hl S E hp
      refine (Bool.eq_false_or_eq_true ((!decide (b.pol.note = 4)) || (decide (((b.rs.getD i REM0).ev) < 1)))).elim (fun hgd0 => ?_) (fun hgd0 => ?_)
      ·obtain ⟨_, e9, rfl⟩ := hp 9 158 _ rfl rfl rfl; replace E := E.add e9
       refine g_off E rfl rfl rfl hgd0 ?_; clear E; intro a E
       exact ⟨_, _, S, rfl, E.get _ _ rfl, E.defers, fun x0 => absurd (hgd0.symm.trans x0) (by decide)⟩
      ·obtain ⟨_, e9, rfl⟩ := hp 9 158 _ rfl rfl rfl; replace E := E.add e9
       obtain ⟨_, e10, h10v⟩ := hp 10 159 _ rfl rfl rfl; cases h10v hgd0; replace E := E.add e10
       refine op_on E rfl rfl hgd0 ?_
       refine o_ld E rfl S rfl T.s3 (.here .here) rfl ?_; clear E; intro a E
       exact ⟨_, _, S, rfl, E.get _ _ rfl, E.defers, fun x0 => rfl⟩
     ·intro a w G1 hl S E hp
      refine (Bool.eq_false_or_eq_true ((!decide (b.pol.note = 4)) || (decide (((b.rs.getD i REM0).ev) < 1)))).elim (fun hgd0 => ?_) (fun hgd0 => ?_)
      ·obtain ⟨_, e9, rfl⟩ := hp 9 158 _ rfl rfl rfl; replace E := E.add e9
       refine g_off E rfl rfl rfl hgd0 ?_; clear E; intro a E
       exact ⟨_, _, S, rfl, E.get _ _ rfl, E.defers, fun x0 => absurd (hgd0.symm.trans x0) (by decide)⟩
      ·obtain ⟨_, e9, rfl⟩ := hp 9 158 _ rfl rfl rfl; replace E := E.add e9
       obtain ⟨_, e11, h11v⟩ := hp 11 160 _ rfl rfl rfl; cases h11v hgd0; replace E := E.add e11
       refine op_on E rfl rfl hgd0 ?_
       refine o_gtr E rfl rfl rfl ?_; clear E; intro a E
       exact ⟨_, _, S, rfl, E.get _ _ rfl, E.defers, fun x0 => rfl⟩
     ·intro a w G1 hl S E hp
      obtain ⟨_, e9, rfl⟩ := hp 9 158 _ rfl rfl rfl; replace E := E.add e9
      refine (Bool.eq_false_or_eq_true ((!decide (b.pol.note = 4)) || (decide (((b.rs.getD i REM0).ev) < 1)))).elim (fun hgd0 => ?_) (fun hgd0 => ?_)
      ·refine o_pick_t E rfl rfl hgd0 rfl ?_; clear E; intro a E
       exact ⟨_, _, S, rfl, E.get _ _ rfl, E.defers, (by rw [hgd0]; rfl)⟩
      ·obtain ⟨_, e12, h12v⟩ := hp 12 161 _ rfl rfl rfl; cases h12v hgd0; replace E := E.add e12
       refine o_pick_f E rfl rfl hgd0 rfl ?_; clear E; intro a E
       exact ⟨_, _, S, rfl, E.get _ _ rfl, E.defers, (by rw [hgd0]; rfl)⟩
     ·intro a w G1 hl S E hp
      obtain ⟨_, e13, rfl⟩ := hp 13 162 _ rfl rfl rfl; replace E := E.add e13
      refine o_move E rfl rfl ?_; clear E; intro a E
      exact ⟨_, _, S, rfl, E.get _ _ rfl, E.defers, rfl⟩
     ·intro a w G1 hl S E hp
      refine (Bool.eq_false_or_eq_true (((!decide (b.pol.note = 4)) || (decide (((b.rs.getD i REM0).ev) < 1))) || (decide (4096 < ((b.rs.getD i REM0).ev))))).elim (fun hgd0 => ?_) (fun hgd0 => ?_)
      ·obtain ⟨_, e14, rfl⟩ := hp 14 163 _ rfl rfl rfl; replace E := E.add e14
       refine g_off E rfl rfl rfl hgd0 ?_; clear E; intro a E
       exact ⟨_, _, S, rfl, E.get _ _ rfl, E.defers, fun x0 => absurd (hgd0.symm.trans x0) (by decide)⟩
      ·obtain ⟨_, e14, rfl⟩ := hp 14 163 _ rfl rfl rfl; replace E := E.add e14
       refine op_on E rfl rfl hgd0 ?_
       refine o_move E rfl rfl ?_; clear E; intro a E
       exact ⟨_, _, S, rfl, E.get _ _ rfl, E.defers, fun x0 => rfl⟩
     ·intro a w G1 hl S E hp
      refine (Bool.eq_false_or_eq_true (((!decide (b.pol.note = 4)) || (decide (((b.rs.getD i REM0).ev) < 1))) || (decide (4096 < ((b.rs.getD i REM0).ev))))).elim (fun hgd0 => ?_) (fun hgd0 => ?_)
      ·obtain ⟨_, e14, rfl⟩ := hp 14 163 _ rfl rfl rfl; replace E := E.add e14
       refine g_off E rfl rfl rfl hgd0 ?_; clear E; intro a E
       exact ⟨_, _, S, rfl, E.get _ _ rfl, E.defers, fun x0 => absurd (hgd0.symm.trans x0) (by decide)⟩
      ·obtain ⟨_, e14, rfl⟩ := hp 14 163 _ rfl rfl rfl; replace E := E.add e14
       obtain ⟨_, e15, h15v⟩ := hp 15 164 _ rfl rfl rfl; cases h15v hgd0; replace E := E.add e15
       refine op_on E rfl rfl hgd0 ?_
       refine o_gtr E rfl rfl rfl ?_; clear E; intro a E
       exact ⟨_, _, S, rfl, E.get _ _ rfl, E.defers, fun x0 => rfl⟩
     ·intro a w G1 hl S E hp
      refine (Bool.eq_false_or_eq_true (((!decide (b.pol.note = 4)) || (decide (((b.rs.getD i REM0).ev) < 1))) || (decide (4096 < ((b.rs.getD i REM0).ev))))).elim (fun hgd0 => ?_) (fun hgd0 => ?_)
      ·obtain ⟨_, e14, rfl⟩ := hp 14 163 _ rfl rfl rfl; replace E := E.add e14
       refine g_off E rfl rfl rfl hgd0 ?_; clear E; intro a E
       exact ⟨_, _, S, rfl, E.get _ _ rfl, E.defers, ⟨fun x0 => absurd (hgd0.symm.trans x0) (by decide), fun x0 => rfl⟩⟩
      ·obtain ⟨_, e14, rfl⟩ := hp 14 163 _ rfl rfl rfl; replace E := E.add e14
       obtain ⟨_, e16, h16v⟩ := hp 16 165 _ rfl rfl rfl; cases h16v hgd0; replace E := E.add e16
       refine op_on E rfl rfl hgd0 ?_
       refine o_move E rfl rfl ?_; clear E; intro a E
       exact ⟨_, _, S, rfl, E.get _ _ rfl, E.defers, ⟨fun x0 => rfl, fun x0 => absurd (hgd0.symm.trans x0) (by decide)⟩⟩
     ·intro a w G1 hl S E hp
      refine (Bool.eq_false_or_eq_true (((!decide (b.pol.note = 4)) || (decide (((b.rs.getD i REM0).ev) < 1))) || (decide (4096 < ((b.rs.getD i REM0).ev))))).elim (fun hgd0 => ?_) (fun hgd0 => ?_)
      ·obtain ⟨_, eg, hgv⟩ := hp 17 166 _ rfl rfl rfl; cases hgv.2 hgd0; replace E := E.add eg
       refine g_offu E rfl rfl rfl ?_; clear E; intro a E
       exact ⟨_, _, S, rfl, E.get _ _ rfl, E.defers, fun x0 x1 => absurd (hgd0.symm.trans x0) (by decide)⟩
      ·refine (Bool.eq_false_or_eq_true (decide (0 < (i : Int)))).elim (fun hgd1 => ?_) (fun hgd1 => ?_)
       ·obtain ⟨_, e17, h17v⟩ := hp 17 166 _ rfl rfl rfl; cases h17v.1 hgd0; replace E := E.add e17
        refine op_on E rfl rfl hgd1 ?_
        refine o_fld E rfl rfl T.f76_0 ?_; clear E; intro a E
        exact ⟨_, _, S, rfl, E.get _ _ rfl, E.defers, fun x0 x1 => rfl⟩
       ·obtain ⟨_, e17, h17v⟩ := hp 17 166 _ rfl rfl rfl; cases h17v.1 hgd0; replace E := E.add e17
        refine g_off E rfl rfl rfl hgd1 ?_; clear E; intro a E
        exact ⟨_, _, S, rfl, E.get _ _ rfl, E.defers, fun x0 x1 => absurd (hgd1.symm.trans x1) (by decide)⟩
     ·intro a w G1 hl S E hp
      refine (Bool.eq_false_or_eq_true (((!decide (b.pol.note = 4)) || (decide (((b.rs.getD i REM0).ev) < 1))) || (decide (4096 < ((b.rs.getD i REM0).ev))))).elim (fun hgd0 => ?_) (fun hgd0 => ?_)
      ·obtain ⟨_, eg, hgv⟩ := hp 17 166 _ rfl rfl rfl; cases hgv.2 hgd0; replace E := E.add eg
       refine g_offu E rfl rfl rfl ?_; clear E; intro a E
       exact ⟨_, _, S, rfl, E.get _ _ rfl, E.defers, fun x0 x1 => absurd (hgd0.symm.trans x0) (by decide)⟩
      ·refine (Bool.eq_false_or_eq_true (decide (0 < (i : Int)))).elim (fun hgd1 => ?_) (fun hgd1 => ?_)
       ·obtain ⟨_, e17, h17v⟩ := hp 17 166 _ rfl rfl rfl; cases h17v.1 hgd0; replace E := E.add e17
        obtain ⟨_, e18, h18v⟩ := hp 18 167 _ rfl rfl rfl; cases h18v hgd0 hgd1; replace E := E.add e18
        refine op_on E rfl rfl hgd1 ?_
        refine o_ld E rfl S rfl T.s3 (.here .here) rfl ?_; clear E; intro a E
        exact ⟨_, _, S, rfl, E.get _ _ rfl, E.defers, fun x0 x1 => rfl⟩
       ·obtain ⟨_, e17, h17v⟩ := hp 17 166 _ rfl rfl rfl; cases h17v.1 hgd0; replace E := E.add e17
        refine g_off E rfl rfl rfl hgd1 ?_; clear E; intro a E
        exact ⟨_, _, S, rfl, E.get _ _ rfl, E.defers, fun x0 x1 => absurd (hgd1.symm.trans x1) (by decide)⟩
     ·intro a w G1 hl S E hp
      refine (Bool.eq_false_or_eq_true (((!decide (b.pol.note = 4)) || (decide (((b.rs.getD i REM0).ev) < 1))) || (decide (4096 < ((b.rs.getD i REM0).ev))))).elim (fun hgd0 => ?_) (fun hgd0 => ?_)
      ·obtain ⟨_, eg, hgv⟩ := hp 17 166 _ rfl rfl rfl; cases hgv.2 hgd0; replace E := E.add eg
       refine g_offu E rfl rfl rfl ?_; clear E; intro a E
       exact ⟨_, _, S, rfl, E.get _ _ rfl, E.defers, fun x0 x1 => absurd (hgd0.symm.trans x0) (by decide)⟩
      ·refine (Bool.eq_false_or_eq_true (decide (0 < (i : Int)))).elim (fun hgd1 => ?_) (fun hgd1 => ?_)
       ·obtain ⟨_, e17, h17v⟩ := hp 17 166 _ rfl rfl rfl; cases h17v.1 hgd0; replace E := E.add e17
        refine op_on E rfl rfl hgd1 ?_
        refine o_fld E rfl rfl T.f32_3 ?_; clear E; intro a E
        exact ⟨_, _, S, rfl, E.get _ _ rfl, E.defers, fun x0 x1 => rfl⟩
       ·obtain ⟨_, e17, h17v⟩ := hp 17 166 _ rfl rfl rfl; cases h17v.1 hgd0; replace E := E.add e17
        refine g_off E rfl rfl rfl hgd1 ?_; clear E; intro a E
        exact ⟨_, _, S, rfl, E.get _ _ rfl, E.defers, fun x0 x1 => absurd (hgd1.symm.trans x1) (by decide)⟩
     ·intro a w G1 hl S E hp
      refine (Bool.eq_false_or_eq_true (((!decide (b.pol.note = 4)) || (decide (((b.rs.getD i REM0).ev) < 1))) || (decide (4096 < ((b.rs.getD i REM0).ev))))).elim (fun hgd0 => ?_) (fun hgd0 => ?_)
      ·obtain ⟨_, eg, hgv⟩ := hp 17 166 _ rfl rfl rfl; cases hgv.2 hgd0; replace E := E.add eg
       refine g_offu E rfl rfl rfl ?_; clear E; intro a E
       exact ⟨_, _, S, rfl, E.get _ _ rfl, E.defers, fun x0 x1 => absurd (hgd0.symm.trans x0) (by decide)⟩
      ·refine (Bool.eq_false_or_eq_true (decide (0 < (i : Int)))).elim (fun hgd1 => ?_) (fun hgd1 => ?_)
       ·obtain ⟨_, e17, h17v⟩ := hp 17 166 _ rfl rfl rfl; cases h17v.1 hgd0; replace E := E.add e17
        obtain ⟨_, e20, h20v⟩ := hp 20 169 _ rfl rfl rfl; cases h20v hgd0 hgd1; replace E := E.add e20
        refine op_on E rfl rfl hgd1 ?_
        refine o_ld E rfl S rfl T.s30 (.there (.here .here)) rfl ?_; clear E; intro a E
        exact ⟨_, _, S, rfl, E.get _ _ rfl, E.defers, fun x0 x1 => rfl⟩
       ·obtain ⟨_, e17, h17v⟩ := hp 17 166 _ rfl rfl rfl; cases h17v.1 hgd0; replace E := E.add e17
        refine g_off E rfl rfl rfl hgd1 ?_; clear E; intro a E
        exact ⟨_, _, S, rfl, E.get _ _ rfl, E.defers, fun x0 x1 => absurd (hgd1.symm.trans x1) (by decide)⟩
     ·intro a w G1 hl S E hp
      refine (Bool.eq_false_or_eq_true (((!decide (b.pol.note = 4)) || (decide (((b.rs.getD i REM0).ev) < 1))) || (decide (4096 < ((b.rs.getD i REM0).ev))))).elim (fun hgd0 => ?_) (fun hgd0 => ?_)
      ·obtain ⟨_, eg, hgv⟩ := hp 17 166 _ rfl rfl rfl; cases hgv.2 hgd0; replace E := E.add eg
       refine g_offu E rfl rfl rfl ?_; clear E; intro a E
       exact ⟨_, _, S, rfl, E.get _ _ rfl, E.defers, fun x0 x1 => absurd (hgd0.symm.trans x0) (by decide)⟩
      ·refine (Bool.eq_false_or_eq_true (decide (0 < (i : Int)))).elim (fun hgd1 => ?_) (fun hgd1 => ?_)
       ·obtain ⟨_, e17, h17v⟩ := hp 17 166 _ rfl rfl rfl; cases h17v.1 hgd0; replace E := E.add e17
        refine op_on E rfl rfl hgd1 ?_
        refine o_move E rfl rfl ?_; clear E; intro a E
        exact ⟨_, _, S, rfl, E.get _ _ rfl, E.defers, fun x0 x1 => rfl⟩
       ·obtain ⟨_, e17, h17v⟩ := hp 17 166 _ rfl rfl rfl; cases h17v.1 hgd0; replace E := E.add e17
        refine g_off E rfl rfl rfl hgd1 ?_; clear E; intro a E
        exact ⟨_, _, S, rfl, E.get _ _ rfl, E.defers, fun x0 x1 => absurd (hgd1.symm.trans x1) (by decide)⟩
     ·intro a w G1 hl S E hp
      refine (Bool.eq_false_or_eq_true (((!decide (b.pol.note = 4)) || (decide (((b.rs.getD i REM0).ev) < 1))) || (decide (4096 < ((b.rs.getD i REM0).ev))))).elim (fun hgd0 => ?_) (fun hgd0 => ?_)
      ·obtain ⟨_, eg, hgv⟩ := hp 17 166 _ rfl rfl rfl; cases hgv.2 hgd0; replace E := E.add eg
       refine g_offu E rfl rfl rfl ?_; clear E; intro a E
       exact ⟨_, _, S, rfl, E.get _ _ rfl, E.defers, fun x0 x1 => absurd (hgd0.symm.trans x0) (by decide)⟩
      ·refine (Bool.eq_false_or_eq_true (decide (0 < (i : Int)))).elim (fun hgd1 => ?_) (fun hgd1 => ?_)
       ·obtain ⟨_, e17, h17v⟩ := hp 17 166 _ rfl rfl rfl; cases h17v.1 hgd0; replace E := E.add e17
        obtain ⟨_, e22, h22v⟩ := hp 22 171 _ rfl rfl rfl; cases h22v hgd0 hgd1; replace E := E.add e22
        refine op_on E rfl rfl hgd1 ?_
        refine o_sub E rfl rfl rfl (by omega) ?_; clear E; intro a E
        exact ⟨_, _, S, rfl, E.get _ _ rfl, E.defers, fun x0 x1 => rfl⟩
       ·obtain ⟨_, e17, h17v⟩ := hp 17 166 _ rfl rfl rfl; cases h17v.1 hgd0; replace E := E.add e17
        refine g_off E rfl rfl rfl hgd1 ?_; clear E; intro a E
        exact ⟨_, _, S, rfl, E.get _ _ rfl, E.defers, fun x0 x1 => absurd (hgd1.symm.trans x1) (by decide)⟩
     ·intro a w G1 hl S E hp
      refine (Bool.eq_false_or_eq_true (((!decide (b.pol.note = 4)) || (decide (((b.rs.getD i REM0).ev) < 1))) || (decide (4096 < ((b.rs.getD i REM0).ev))))).elim (fun hgd0 => ?_) (fun hgd0 => ?_)
      ·obtain ⟨_, eg, hgv⟩ := hp 17 166 _ rfl rfl rfl; cases hgv.2 hgd0; replace E := E.add eg
       refine g_offu E rfl rfl rfl ?_; clear E; intro a E
       exact ⟨_, _, S, rfl, E.get _ _ rfl, E.defers, fun x0 x1 => absurd (hgd0.symm.trans x0) (by decide)⟩
      ·refine (Bool.eq_false_or_eq_true (decide (0 < (i : Int)))).elim (fun hgd1 => ?_) (fun hgd1 => ?_)
       ·obtain ⟨_, e17, h17v⟩ := hp 17 166 _ rfl rfl rfl; cases h17v.1 hgd0; replace E := E.add e17
        obtain ⟨_, e21, h21v⟩ := hp 21 170 _ rfl rfl rfl; cases h21v hgd0 hgd1; replace E := E.add e21
        obtain ⟨_, e23, h23v⟩ := hp 23 172 _ rfl rfl rfl; cases h23v hgd0 hgd1; replace E := E.add e23
        refine op_on E rfl rfl hgd1 ?_
        have hbk := And.intro hgd0 (hgd1); try simp only [Bool.not_eq_true', Bool.not_eq_false', Bool.and_eq_true, Bool.or_eq_false_iff, decide_eq_true_eq, decide_eq_false_iff_not] at hbk
        obtain ⟨hA82, el82⟩ := hc82 (And.intro hgd0 (hgd1)); cases hA82
        refine o_ixL E rfl rfl rfl T.l30 ⟨by omega, by omega⟩ ?_; clear E; intro a E
        exact ⟨_, _, S, rfl, E.get _ _ rfl, E.defers, fun x0 x1 => rfl⟩
       ·obtain ⟨_, e17, h17v⟩ := hp 17 166 _ rfl rfl rfl; cases h17v.1 hgd0; replace E := E.add e17
        refine g_off E rfl rfl rfl hgd1 ?_; clear E; intro a E
        exact ⟨_, _, S, rfl, E.get _ _ rfl, E.defers, fun x0 x1 => absurd (hgd1.symm.trans x1) (by decide)⟩
     ·intro a w G1 hl S E hp
      refine (Bool.eq_false_or_eq_true (((!decide (b.pol.note = 4)) || (decide (((b.rs.getD i REM0).ev) < 1))) || (decide (4096 < ((b.rs.getD i REM0).ev))))).elim (fun hgd0 => ?_) (fun hgd0 => ?_)
      ·obtain ⟨_, eg, hgv⟩ := hp 17 166 _ rfl rfl rfl; cases hgv.2 hgd0; replace E := E.add eg
       refine g_offu E rfl rfl rfl ?_; clear E; intro a E
       exact ⟨_, _, S, rfl, E.get _ _ rfl, E.defers, fun x0 x1 => absurd (hgd0.symm.trans x0) (by decide)⟩
      ·refine (Bool.eq_false_or_eq_true (decide (0 < (i : Int)))).elim (fun hgd1 => ?_) (fun hgd1 => ?_)
       ·obtain ⟨_, e17, h17v⟩ := hp 17 166 _ rfl rfl rfl; cases h17v.1 hgd0; replace E := E.add e17
        obtain ⟨_, e24, h24v⟩ := hp 24 173 _ rfl rfl rfl; cases h24v hgd0 hgd1; replace E := E.add e24
        refine op_on E rfl rfl hgd1 ?_
        refine o_fld E rfl rfl T.f76_0 ?_; clear E; intro a E
        exact ⟨_, _, S, rfl, E.get _ _ rfl, E.defers, fun x0 x1 => rfl⟩
       ·obtain ⟨_, e17, h17v⟩ := hp 17 166 _ rfl rfl rfl; cases h17v.1 hgd0; replace E := E.add e17
        refine g_off E rfl rfl rfl hgd1 ?_; clear E; intro a E
        exact ⟨_, _, S, rfl, E.get _ _ rfl, E.defers, fun x0 x1 => absurd (hgd1.symm.trans x1) (by decide)⟩
     ·intro a w G1 hl S E hp
      refine (Bool.eq_false_or_eq_true (((!decide (b.pol.note = 4)) || (decide (((b.rs.getD i REM0).ev) < 1))) || (decide (4096 < ((b.rs.getD i REM0).ev))))).elim (fun hgd0 => ?_) (fun hgd0 => ?_)
      ·obtain ⟨_, eg, hgv⟩ := hp 17 166 _ rfl rfl rfl; cases hgv.2 hgd0; replace E := E.add eg
       refine g_offu E rfl rfl rfl ?_; clear E; intro a E
       exact ⟨_, _, S, rfl, E.get _ _ rfl, E.defers, fun x0 x1 => absurd (hgd0.symm.trans x0) (by decide)⟩
      ·refine (Bool.eq_false_or_eq_true (decide (0 < (i : Int)))).elim (fun hgd1 => ?_) (fun hgd1 => ?_)
       ·obtain ⟨_, e17, h17v⟩ := hp 17 166 _ rfl rfl rfl; cases h17v.1 hgd0; replace E := E.add e17
        obtain ⟨_, e25, h25v⟩ := hp 25 174 _ rfl rfl rfl; cases h25v hgd0 hgd1; replace E := E.add e25
        refine op_on E rfl rfl hgd1 ?_
        obtain ⟨_, el82⟩ := hc82 (And.intro hgd0 (hgd1))
        have el82 := kRem_open el82
        refine o_ldI E rfl S rfl T.s3 (el82.le hl) (j := 0) rfl rfl ?_; clear E; intro a E
        exact ⟨_, _, S, rfl, E.get _ _ rfl, E.defers, fun x0 x1 => rfl⟩
       ·obtain ⟨_, e17, h17v⟩ := hp 17 166 _ rfl rfl rfl; cases h17v.1 hgd0; replace E := E.add e17
        refine g_off E rfl rfl rfl hgd1 ?_; clear E; intro a E
        exact ⟨_, _, S, rfl, E.get _ _ rfl, E.defers, fun x0 x1 => absurd (hgd1.symm.trans x1) (by decide)⟩
     ·intro a w G1 hl S E hp
      refine (Bool.eq_false_or_eq_true (((!decide (b.pol.note = 4)) || (decide (((b.rs.getD i REM0).ev) < 1))) || (decide (4096 < ((b.rs.getD i REM0).ev))))).elim (fun hgd0 => ?_) (fun hgd0 => ?_)
      ·obtain ⟨_, eg, hgv⟩ := hp 17 166 _ rfl rfl rfl; cases hgv.2 hgd0; replace E := E.add eg
       refine g_offu E rfl rfl rfl ?_; clear E; intro a E
       exact ⟨_, _, S, rfl, E.get _ _ rfl, E.defers, fun x0 x1 => absurd (hgd0.symm.trans x0) (by decide)⟩
      ·refine (Bool.eq_false_or_eq_true (decide (0 < (i : Int)))).elim (fun hgd1 => ?_) (fun hgd1 => ?_)
       ·obtain ⟨_, e17, h17v⟩ := hp 17 166 _ rfl rfl rfl; cases h17v.1 hgd0; replace E := E.add e17
        obtain ⟨_, e19, h19v⟩ := hp 19 168 _ rfl rfl rfl; cases h19v hgd0 hgd1; replace E := E.add e19
        obtain ⟨_, e26, h26v⟩ := hp 26 175 _ rfl rfl rfl; cases h26v hgd0 hgd1; replace E := E.add e26
        refine op_on E rfl rfl hgd1 ?_
        refine o_leq E rfl rfl rfl ?_; clear E; intro a E
        exact ⟨_, _, S, rfl, E.get _ _ rfl, E.defers, fun x0 x1 => rfl⟩
       ·obtain ⟨_, e17, h17v⟩ := hp 17 166 _ rfl rfl rfl; cases h17v.1 hgd0; replace E := E.add e17
        refine g_off E rfl rfl rfl hgd1 ?_; clear E; intro a E
        exact ⟨_, _, S, rfl, E.get _ _ rfl, E.defers, fun x0 x1 => absurd (hgd1.symm.trans x1) (by decide)⟩
     ·intro a w G1 hl S E hp
      refine (Bool.eq_false_or_eq_true (((!decide (b.pol.note = 4)) || (decide (((b.rs.getD i REM0).ev) < 1))) || (decide (4096 < ((b.rs.getD i REM0).ev))))).elim (fun hgd0 => ?_) (fun hgd0 => ?_)
      ·obtain ⟨_, e14, rfl⟩ := hp 14 163 _ rfl rfl rfl; replace E := E.add e14
       refine g_off E rfl rfl rfl hgd0 ?_; clear E; intro a E
       exact ⟨_, _, S, rfl, E.get _ _ rfl, E.defers, fun x0 => absurd (hgd0.symm.trans x0) (by decide)⟩
      ·obtain ⟨_, e14, rfl⟩ := hp 14 163 _ rfl rfl rfl; replace E := E.add e14
       refine op_on E rfl rfl hgd0 ?_
       obtain ⟨_, e17, h17v⟩ := hp 17 166 _ rfl rfl rfl; cases h17v.1 hgd0; replace E := E.add e17
       refine (Bool.eq_false_or_eq_true (decide (0 < (i : Int)))).elim (fun hgd1 => ?_) (fun hgd1 => ?_)
       ·obtain ⟨_, e27, h27v⟩ := hp 27 176 _ rfl rfl rfl; cases h27v hgd0 hgd1; replace E := E.add e27
        refine o_pick_t E rfl rfl hgd1 rfl ?_; clear E; intro a E
        exact ⟨_, _, S, rfl, E.get _ _ rfl, E.defers, fun x0 => (by rw [hgd1]; rfl)⟩
       ·refine o_pick_f E rfl rfl hgd1 rfl ?_; clear E; intro a E
        exact ⟨_, _, S, rfl, E.get _ _ rfl, E.defers, fun x0 => (by rw [hgd1]; rfl)⟩
     ·intro a w G1 hl S E hp
      obtain ⟨_, e14, rfl⟩ := hp 14 163 _ rfl rfl rfl; replace E := E.add e14
      refine (Bool.eq_false_or_eq_true (((!decide (b.pol.note = 4)) || (decide (((b.rs.getD i REM0).ev) < 1))) || (decide (4096 < ((b.rs.getD i REM0).ev))))).elim (fun hgd0 => ?_) (fun hgd0 => ?_)
      ·refine o_pick_t E rfl rfl hgd0 rfl ?_; clear E; intro a E
       exact ⟨_, _, S, rfl, E.get _ _ rfl, E.defers, (by rw [hgd0]; rfl)⟩
      ·obtain ⟨_, e28, h28v⟩ := hp 28 177 _ rfl rfl rfl; cases h28v hgd0; replace E := E.add e28
       refine o_pick_f E rfl rfl hgd0 rfl ?_; clear E; intro a E
       exact ⟨_, _, S, rfl, E.get _ _ rfl, E.defers, (by rw [hgd0]; rfl)⟩
     ·intro a w G1 hl S E hp
      obtain ⟨_, e29, rfl⟩ := hp 29 178 _ rfl rfl rfl; replace E := E.add e29
      refine o_move E rfl rfl ?_; clear E; intro a E
      exact ⟨_, _, S, rfl, E.get _ _ rfl, E.defers, rfl⟩
     ·intro a w G1 hl S E hp
      refine (Bool.eq_false_or_eq_true ((((!decide (b.pol.note = 4)) || (decide (((b.rs.getD i REM0).ev) < 1))) || (decide (4096 < ((b.rs.getD i REM0).ev)))) || ((decide (0 < (i : Int))) && (decide (((b.rs.getD i REM0).ev) ≤ ((b.rs.getD ((i : Int) - 1).toNat REM0).ev)))))).elim (fun hgd0 => ?_) (fun hgd0 => ?_)
      ·obtain ⟨_, e30, rfl⟩ := hp 30 179 _ rfl rfl rfl; replace E := E.add e30
       refine g_off E rfl rfl rfl hgd0 ?_; clear E; intro a E
       exact ⟨_, _, S, rfl, E.get _ _ rfl, E.defers, fun x0 => absurd (hgd0.symm.trans x0) (by decide)⟩
      ·obtain ⟨_, e30, rfl⟩ := hp 30 179 _ rfl rfl rfl; replace E := E.add e30
       refine op_on E rfl rfl hgd0 ?_
       refine o_fld E rfl rfl T.f76_1 ?_; clear E; intro a E
       exact ⟨_, _, S, rfl, E.get _ _ rfl, E.defers, fun x0 => rfl⟩
     ·intro a w G1 hl S E hp
      refine (Bool.eq_false_or_eq_true ((((!decide (b.pol.note = 4)) || (decide (((b.rs.getD i REM0).ev) < 1))) || (decide (4096 < ((b.rs.getD i REM0).ev)))) || ((decide (0 < (i : Int))) && (decide (((b.rs.getD i REM0).ev) ≤ ((b.rs.getD ((i : Int) - 1).toNat REM0).ev)))))).elim (fun hgd0 => ?_) (fun hgd0 => ?_)
      ·obtain ⟨_, e30, rfl⟩ := hp 30 179 _ rfl rfl rfl; replace E := E.add e30
       refine g_off E rfl rfl rfl hgd0 ?_; clear E; intro a E
       exact ⟨_, _, S, rfl, E.get _ _ rfl, E.defers, fun x0 => absurd (hgd0.symm.trans x0) (by decide)⟩
      ·obtain ⟨_, e30, rfl⟩ := hp 30 179 _ rfl rfl rfl; replace E := E.add e30
       obtain ⟨_, e31, h31v⟩ := hp 31 180 _ rfl rfl rfl; cases h31v hgd0; replace E := E.add e31
       refine op_on E rfl rfl hgd0 ?_
       refine o_ld E rfl S rfl T.s9 (.here .here) rfl ?_; clear E; intro a E
       exact ⟨_, _, S, rfl, E.get _ _ rfl, E.defers, fun x0 => rfl⟩
     ·intro a w G1 hl S E hp
      refine (Bool.eq_false_or_eq_true ((((!decide (b.pol.note = 4)) || (decide (((b.rs.getD i REM0).ev) < 1))) || (decide (4096 < ((b.rs.getD i REM0).ev)))) || ((decide (0 < (i : Int))) && (decide (((b.rs.getD i REM0).ev) ≤ ((b.rs.getD ((i : Int) - 1).toNat REM0).ev)))))).elim (fun hgd0 => ?_) (fun hgd0 => ?_)
      ·obtain ⟨_, e30, rfl⟩ := hp 30 179 _ rfl rfl rfl; replace E := E.add e30
       refine g_off E rfl rfl rfl hgd0 ?_; clear E; intro a E
       exact ⟨_, _, S, rfl, E.get _ _ rfl, E.defers, fun x0 => absurd (hgd0.symm.trans x0) (by decide)⟩
      ·obtain ⟨_, e30, rfl⟩ := hp 30 179 _ rfl rfl rfl; replace E := E.add e30
       obtain ⟨_, e32, h32v⟩ := hp 32 181 _ rfl rfl rfl; cases h32v hgd0; replace E := E.add e32
       refine op_on E rfl rfl hgd0 ?_
       refine o_callP E rfl S rfl rfl T.g25 (c_plain29 ((b.rs.getD i REM0).note) _ _ S.sub (by first | omega | exact hsr9)) ?_
       clear E S; rintro _ w a S rfl E
       exact ⟨_, _, S, rfl, E.get _ _ rfl, E.defers, fun x0 => rfl⟩
     ·intro a w G1 hl S E hp
      refine (Bool.eq_false_or_eq_true ((((!decide (b.pol.note = 4)) || (decide (((b.rs.getD i REM0).ev) < 1))) || (decide (4096 < ((b.rs.getD i REM0).ev)))) || ((decide (0 < (i : Int))) && (decide (((b.rs.getD i REM0).ev) ≤ ((b.rs.getD ((i : Int) - 1).toNat REM0).ev)))))).elim (fun hgd0 => ?_) (fun hgd0 => ?_)
      ·obtain ⟨_, e30, rfl⟩ := hp 30 179 _ rfl rfl rfl; replace E := E.add e30
       refine g_off E rfl rfl rfl hgd0 ?_; clear E; intro a E
       exact ⟨_, _, S, rfl, E.get _ _ rfl, E.defers, fun x0 => absurd (hgd0.symm.trans x0) (by decide)⟩
      ·obtain ⟨_, e30, rfl⟩ := hp 30 179 _ rfl rfl rfl; replace E := E.add e30
       obtain ⟨_, e33, h33v⟩ := hp 33 182 _ rfl rfl rfl; cases h33v hgd0; replace E := E.add e33
       refine op_on E rfl rfl hgd0 ?_
       refine o_not E rfl rfl ?_; clear E; intro a E
       exact ⟨_, _, S, rfl, E.get _ _ rfl, E.defers, fun x0 => rfl⟩
     ·intro a w G1 hl S E hp
      obtain ⟨_, e30, rfl⟩ := hp 30 179 _ rfl rfl rfl; replace E := E.add e30
      refine (Bool.eq_false_or_eq_true ((((!decide (b.pol.note = 4)) || (decide (((b.rs.getD i REM0).ev) < 1))) || (decide (4096 < ((b.rs.getD i REM0).ev)))) || ((decide (0 < (i : Int))) && (decide (((b.rs.getD i REM0).ev) ≤ ((b.rs.getD ((i : Int) - 1).toNat REM0).ev)))))).elim (fun hgd0 => ?_) (fun hgd0 => ?_)
      ·refine o_pick_t E rfl rfl hgd0 rfl ?_; clear E; intro a E
       exact ⟨_, _, S, rfl, E.get _ _ rfl, E.defers, (by rw [hgd0]; rfl)⟩
      ·obtain ⟨_, e34, h34v⟩ := hp 34 183 _ rfl rfl rfl; cases h34v hgd0; replace E := E.add e34
       refine o_pick_f E rfl rfl hgd0 rfl ?_; clear E; intro a E
       exact ⟨_, _, S, rfl, E.get _ _ rfl, E.defers, (by rw [hgd0]; rfl)⟩
     clear E S; intro a w S E hp
     obtain ⟨_, e35, rfl⟩ := hp 35 184 _ rfl rfl; replace E := E.add e35
     clear hp
     refine hK80 _ _ ?_; clear hK80
     refine cond E rfl (fun h83r => ?_) (fun h83r => ?_)
     ·have h83 := nm h83r
      refine sr fun K hK => ?_
      refine rn 1 E S ?_; clear E S; intro a w E S
      apply hK; clear hK K
      refine rt hQ E S ?_
      have he : bookB b = false := book_n (rem_fail (i := i) (by omega) h83r)
      show _ = _
      rw [he]
      rfl
     ·have h83 := nm h83r
      refine wp_skip ?_
      refine hK76 _ _ ?_; clear hK76
      refine wp_region_lit ?_
      refine rn 3 E S ?_; clear E S; intro a w E S
      replace S := S.drop (M' := [_]) (sub_drop (sub_keep sub_nil))
      have htm2 : i + 1 = 0 ∨ b.pol.note = 4 := .inr (rem_pass h83r).1
      have hro2 : ∀ j, j < i + 1 → remOk b j = true := by
       intro j hj
       rcases Nat.lt_or_ge j i with h_9 | h_9
       ·exact hro j h_9
       ·obtain rfl : j = i := by omega
        exact (rem_pass h83r).2
      exact ⟨i + 1, ⟨S, E.cut ⟨rfl, rfl, rfl, trivial⟩, ⟨by omega, htm2, hro2⟩⟩, by omega⟩
    ·have h75 := nm h75r
     refine wp_exit ?_
     refine hK68 _ _ ?_; clear hK68
     refine sr fun K hK => ?_
     refine rn 1 E S ?_; clear E S; intro a w E S
     apply hK; clear hK K
     refine rt hQ E S ?_
     have he : bookB b = true := book_yes (by simpa using h5) (rall_yes fun j hj => hall j (by omega)) (moms_yes (hm1.elim (fun h => Or.inl (by omega)) Or.inr) fun j hj => hmo j (by omega)) (rems_yes (htm.elim (fun h => Or.inl (by omega)) Or.inr) fun j hj => hro j (by omega))
     show _ = _
     rw [he]
     rfl
end Go.Proofs.YtnfadpkhjfillaaDoor.T28
