/- Own text. -/
import Derived.Test.YtnfadpkhjfillaaDoorU7
import Derived.Test.YtnfadpkhjfillaaDoorX35
set_option linter.unusedVariables false
set_option linter.unusedSimpArgs false
set_option maxRecDepth 100000
set_option maxHeartbeats 4000000
namespace Go.Proofs.YtnfadpkhjfillaaDoor.T28
open Go Go.Proofs.YtnfadpkhjfillaaDoor.X
theorem T.F99_0 : fldOf Tryd.prog 99 0 = some (0, 59) := by kernel_rfl
instance : FL Tryd.prog 99 0 0 59 := ⟨T.F99_0⟩
instance : UN Tryd.prog 85 (.slice 89) := ⟨Tryd.underlying85⟩
theorem T.g14 : goFn Tryd.prog 14 = true := by kernel_rfl
theorem T.g31 : goFn Tryd.prog 31 = true := by kernel_rfl
theorem T.g46 : goFn Tryd.prog 46 = true := by kernel_rfl
theorem T.l55 : slOf Tryd.prog 55 = some (59, 1) := by kernel_rfl
theorem T.p22 : apOf Tryd.prog 22 = some (52, 14, 168) := by kernel_rfl
theorem T.p55 : apOf Tryd.prog 55 = some (59, 1, 24) := by kernel_rfl

theorem called_eq {h : List Evt} {i j : Nat} (hj : 0 < j) (hla : lastCall h (h.getD i E0).client (i + 1) = lastCall h (h.getD i E0).client j) (ht : (h.getD (j - 1) E0).type = 1 ∧ (h.getD (j - 1) E0).client = (h.getD i E0).client) : calledE h i = h.getD (j - 1) E0 := by
  unfold calledE
  have := called_hit (h := h) (at_ := i) (j := j - 1) (c := (h.getD i E0).client) ht
  rw [show j - 1 + 1 = j by omega] at this
  rw [hla, this]
theorem called_no {h : List Evt} {i : Nat} (hla : lastCall h (h.getD i E0).client (i + 1) = lastCall h (h.getD i E0).client 0) : calledE h i = E0 := by
  unfold calledE
  rw [hla]
  rfl
def withE (x : Evt) (l : List Val) : Evt :=
  if x.type = 1 then ⟨x.time, l.getD 0 ⟨0, 0, []⟩, x.type, x.model, l.getD 1 ⟨0, 0, []⟩, x.op, l.drop 2, x.out, x.noted, x.note⟩
  else if x.type = 2 then ⟨x.time, l.getD 0 ⟨0, 0, []⟩, x.type, x.model, x.key, x.op, x.args, l.drop 1, x.noted, x.note⟩
  else ⟨x.time, l.getD 0 ⟨0, 0, []⟩, x.type, x.model, x.key, x.op, x.args, x.out, x.noted, x.note⟩
theorem own_len (x : Evt) : (ownE x).length = if x.type = 1 then x.args.length + 2 else if x.type = 2 then x.out.length + 1 else 1 := by
  unfold ownE
  split
  · simp only [List.length_append, List.length_cons, List.length_nil]; omega
  split
  · simp only [List.length_append, List.length_cons, List.length_nil]; omega
  · rfl
theorem take_step {h : List Evt} {i : Nat} (hi : i < h.length) : h.take i ++ [h.getD i E0] = h.take (i + 1) := by
  rw [List.take_add_one, List.getD_eq_getElem?_getD, List.getElem?_eq_getElem hi]
  rfl
/-! `incognito/incognitoref28.called` -/
theorem c_called (h : List Evt) (A : Option Addr) (c : Nat) (i : Nat) (w0 : World) (G : Heap) (hG : Sub G w0) (hR : Rd kEvt G A h) (hl : h.length ≤ 9223372036854775806) (hi : i < h.length):
  Calls Tryd.prog 46 #[.slice A h.length c, .int .i64 (i : Int)] w0 (Ret w0 G (fun v G' => ∃ A1 c1 A2 c2, v = .agg (evtCells (calledE h i) A1 c1 A2 c2).toArray ∧ (calledE h i).args.length ≤ c1 ∧ Rd kVal G' A1 (calledE h i).args ∧ (calledE h i).out.length ≤ c2 ∧ Rd kVal G' A2 (calledE h i).out)) := by
 refine enter Tryd.func46 rfl Tryd.ntmps46 rfl ?_
 intro Q hQ a E
 have S := St.start0 hG
 refine sr fun K hK => ?_
 refine o_allocZ E rfl S ?_; clear E S; intro B4 w a S E
 apply hK; clear hK K
 refine wp_seq_k (fun K3 hK2 => ?_)
 refine sr fun K hK => ?_
 refine rn 2 E S ?_; clear E S; intro a w E S
 apply hK; clear hK K
 refine wp_block ?_
 have hv0 : (i : Int) = (((i + 1 : Nat)) : Int) - 1 := by omega
 refine loop (fun (j : Nat) a' w' => St w0 G [] G w' [[(B4, Cells 52 [(0, .int .i64 0), (1, .int .i64 0), (2, .int .i64 0), (3, str []), (4, .int .i64 0), (5, .int .i64 0), (6, .int .i64 0), (7, .int .i64 0), (8, str []), (9, .int .i64 0), (10, .slice none 0 0), (11, .slice none 0 0), (12, .bool false), (13, str [])])]] ∧ Env a' 35 [] [(0, .slice A h.length c), (1, .int .i64 (i : Int)), (4, .pointer (some ⟨B4, 0, none⟩)), (5, .int .i64 ((j : Int) - 1))] ∧ (j ≤ i + 1 ∧ lastCall h (h.getD i E0).client (i + 1) = lastCall h (h.getD i E0).client j)) (fun (j : Nat) => j) (i + 1) ⟨S, E.cut ⟨rfl, rfl, rfl, (by rw [← hv0]; rfl), trivial⟩, ⟨Nat.le_refl _, rfl⟩⟩ ?_
 clear E S; intro j a w ⟨S, E, ⟨hj, hla⟩⟩
 refine wp_seq_k (fun K7 hK6 => ?_)
 refine sr fun K hK => ?_
 refine rn 2 E S ?_; clear E S; intro a w E S
 apply hK; clear hK K
 refine cond E rfl (fun h9r => ?_) (fun h9r => ?_)
 ·have h9 := nm h9r
  refine wp_skip ?_
  refine hK6 _ _ ?_; clear hK6
  refine wp_seq_k (fun K11 hK10 => ?_)
  refine wp_block ?_
  refine wp_seq_k (fun K13 hK12 => ?_)
  have hi14 : ((j : Int) - 1).toNat < h.length := by omega
  obtain ⟨eb14, eo14, hA14, el14⟩ := Rd.at hR (List.getElem?_eq_getElem hi14); cases hA14
  rw [show h[((j : Int) - 1).toNat] = (h.getD ((j : Int) - 1).toNat E0) from getD_get (i := ((j : Int) - 1).toNat) hi14 _] at el14
  obtain ⟨A1_14, c1_14, A2_14, c2_14, el14, ha1_14, hr1_14, ha2_14, hr2_14⟩ := kEvt_open el14
  obtain ⟨eb15, eo15, hc15⟩ : ∃ eb eo, ((decide (((h.getD ((j : Int) - 1).toNat E0).type) = 1)) = true → ((some ⟨eb14, eo14, none⟩) : Option Addr) = some ⟨eb, eo, none⟩ ∧ ElAt kEvt G eb (eo + (i : Int).toNat * 14) (h.getD i E0)) := by
   by_cases hg : (decide (((h.getD ((j : Int) - 1).toNat E0).type) = 1)) = true
   ·have hg2 := hg; try simp only [Bool.not_eq_true', Bool.not_eq_false', Bool.and_eq_true, Bool.or_eq_false_iff, decide_eq_true_eq, decide_eq_false_iff_not] at hg2; have hi : (i : Int).toNat < h.length := by omega
    obtain ⟨eb, eo, hA, el⟩ := Rd.at hR (List.getElem?_eq_getElem hi)
    exact ⟨eb, eo, fun _ => ⟨hA, by rw [show h[(i : Int).toNat] = (h.getD i E0) from getD_get (i := i) hi _] at el; exact el⟩⟩
   ·exact ⟨0, 0, fun h => absurd h hg⟩
  refine drawnP [fun v => v = .slice (some ⟨eb14, eo14, none⟩) h.length c, fun v => v = .int .i64 ((j : Int) - 1), fun v => v = .pointer (some ⟨eb14, eo14 + ((j : Int) - 1).toNat * 14, none⟩), fun v => v = .pointer (some ⟨eb14, eo14 + ((j : Int) - 1).toNat * 14 + 4, none⟩), fun v => v = .int .i64 ((h.getD ((j : Int) - 1).toNat E0).type), fun v => v = .bool (decide (((h.getD ((j : Int) - 1).toNat E0).type) = 1)), fun v => v = .bool (decide (((h.getD ((j : Int) - 1).toNat E0).type) = 1)), fun v => (decide (((h.getD ((j : Int) - 1).toNat E0).type) = 1)) = true → v = .slice (some ⟨eb14, eo14, none⟩) h.length c, fun v => (decide (((h.getD ((j : Int) - 1).toNat E0).type) = 1)) = true → v = .int .i64 ((j : Int) - 1), fun v => (decide (((h.getD ((j : Int) - 1).toNat E0).type) = 1)) = true → v = .pointer (some ⟨eb14, eo14 + ((j : Int) - 1).toNat * 14, none⟩), fun v => (decide (((h.getD ((j : Int) - 1).toNat E0).type) = 1)) = true → v = .pointer (some ⟨eb14, eo14 + ((j : Int) - 1).toNat * 14 + 1, none⟩), fun v => (decide (((h.getD ((j : Int) - 1).toNat E0).type) = 1)) = true → v = .agg #[.int .i64 ((h.getD ((j : Int) - 1).toNat E0).client.k), .int .i64 ((h.getD ((j : Int) - 1).toNat E0).client.n), str ((h.getD ((j : Int) - 1).toNat E0).client.s)], fun v => (decide (((h.getD ((j : Int) - 1).toNat E0).type) = 1)) = true → v = .slice (some ⟨eb14, eo14, none⟩) h.length c, fun v => (decide (((h.getD ((j : Int) - 1).toNat E0).type) = 1)) = true → v = .int .i64 (i : Int), fun v => (decide (((h.getD ((j : Int) - 1).toNat E0).type) = 1)) = true → v = .pointer (some ⟨eb15, eo15 + (i : Int).toNat * 14, none⟩), fun v => (decide (((h.getD ((j : Int) - 1).toNat E0).type) = 1)) = true → v = .pointer (some ⟨eb15, eo15 + (i : Int).toNat * 14 + 1, none⟩), fun v => (decide (((h.getD ((j : Int) - 1).toNat E0).type) = 1)) = true → v = .agg #[.int .i64 ((h.getD i E0).client.k), .int .i64 ((h.getD i E0).client.n), str ((h.getD i E0).client.s)], fun v => (decide (((h.getD ((j : Int) - 1).toNat E0).type) = 1)) = true → v = .bool (decide (((h.getD ((j : Int) - 1).toNat E0).client.k) = ((h.getD i E0).client.k)) && (decide (((h.getD ((j : Int) - 1).toNat E0).client.n) = ((h.getD i E0).client.n)) && (((h.getD ((j : Int) - 1).toNat E0).client.s) == ((h.getD i E0).client.s) && true))), fun v => v = .bool ((decide (((h.getD ((j : Int) - 1).toNat E0).type) = 1)) && (decide (((h.getD ((j : Int) - 1).toNat E0).client.k) = ((h.getD i E0).client.k)) && (decide (((h.getD ((j : Int) - 1).toNat E0).client.n) = ((h.getD i E0).client.n)) && (((h.getD ((j : Int) - 1).toNat E0).client.s) == ((h.getD i E0).client.s) && true))))] T.mix rfl E S rfl ⟨?_, ?_, ?_, ?_, ?_, ?_, ?_, ?_, ?_, ?_, ?_, ?_, ?_, ?_, ?_, ?_, ?_, ?_, ?_, trivial⟩ ?_
  ·intro a w G1 hl S E hp
   refine o_move E rfl rfl ?_; clear E; intro a E
   exact ⟨_, _, S, rfl, E.get _ _ rfl, E.defers, rfl⟩
  ·intro a w G1 hl S E hp
   refine o_move E rfl rfl ?_; clear E; intro a E
   exact ⟨_, _, S, rfl, E.get _ _ rfl, E.defers, rfl⟩
  ·intro a w G1 hl S E hp
   obtain ⟨_, e0, rfl⟩ := hp 0 11 _ rfl rfl rfl; replace E := E.add e0
   obtain ⟨_, e1, rfl⟩ := hp 1 12 _ rfl rfl rfl; replace E := E.add e1
   refine o_ixL E rfl rfl rfl T.l22 ⟨by omega, by omega⟩ ?_; clear E; intro a E
   exact ⟨_, _, S, rfl, E.get _ _ rfl, E.defers, rfl⟩
  ·intro a w G1 hl S E hp
   obtain ⟨_, e2, rfl⟩ := hp 2 13 _ rfl rfl rfl; replace E := E.add e2
   refine o_fld E rfl rfl T.f52_2 ?_; clear E; intro a E
   exact ⟨_, _, S, rfl, E.get _ _ rfl, E.defers, rfl⟩
  ·intro a w G1 hl S E hp
   obtain ⟨_, e3, rfl⟩ := hp 3 14 _ rfl rfl rfl; replace E := E.add e3
   refine o_ldI E rfl S rfl T.s3 (el14.le hl) (j := 4) rfl rfl ?_; clear E; intro a E
   exact ⟨_, _, S, rfl, E.get _ _ rfl, E.defers, rfl⟩
  ·intro a w G1 hl S E hp
   obtain ⟨_, e4, rfl⟩ := hp 4 15 _ rfl rfl rfl; replace E := E.add e4
   refine o_eqI E rfl rfl rfl ?_; clear E; intro a E
   exact ⟨_, _, S, rfl, E.get _ _ rfl, E.defers, rfl⟩
  ·intro a w G1 hl S E hp
   obtain ⟨_, e5, rfl⟩ := hp 5 16 _ rfl rfl rfl; replace E := E.add e5
   refine o_move E rfl rfl ?_; clear E; intro a E
   exact ⟨_, _, S, rfl, E.get _ _ rfl, E.defers, rfl⟩
  ·intro a w G1 hl S E hp
   obtain ⟨_, eg, rfl⟩ := hp 6 17 _ rfl rfl rfl; replace E := E.add eg
   refine (Bool.eq_false_or_eq_true (decide (((h.getD ((j : Int) - 1).toNat E0).type) = 1))).elim (fun hb => ?_) (fun hb => ?_)
   ·refine op_on E rfl rfl hb ?_
    refine o_move E rfl rfl ?_; clear E; intro a E
    exact ⟨_, _, S, rfl, E.get _ _ rfl, E.defers, fun _ => rfl⟩
   ·refine g_off E rfl rfl rfl hb ?_; clear E; intro a E
    exact ⟨_, _, S, rfl, E.get _ _ rfl, E.defers, fun h => absurd (hb.symm.trans h) (by decide)⟩
  ·intro a w G1 hl S E hp
   obtain ⟨_, eg, rfl⟩ := hp 6 17 _ rfl rfl rfl; replace E := E.add eg
   refine (Bool.eq_false_or_eq_true (decide (((h.getD ((j : Int) - 1).toNat E0).type) = 1))).elim (fun hb => ?_) (fun hb => ?_)
   ·refine op_on E rfl rfl hb ?_
    refine o_move E rfl rfl ?_; clear E; intro a E
    exact ⟨_, _, S, rfl, E.get _ _ rfl, E.defers, fun _ => rfl⟩
   ·refine g_off E rfl rfl rfl hb ?_; clear E; intro a E
    exact ⟨_, _, S, rfl, E.get _ _ rfl, E.defers, fun h => absurd (hb.symm.trans h) (by decide)⟩
  ·intro a w G1 hl S E hp
   obtain ⟨_, eg, rfl⟩ := hp 6 17 _ rfl rfl rfl; replace E := E.add eg
   refine (Bool.eq_false_or_eq_true (decide (((h.getD ((j : Int) - 1).toNat E0).type) = 1))).elim (fun hb => ?_) (fun hb => ?_)
   ·obtain ⟨_, e7, h7v⟩ := hp 7 18 _ rfl rfl rfl; cases h7v hb; replace E := E.add e7
    obtain ⟨_, e8, h8v⟩ := hp 8 19 _ rfl rfl rfl; cases h8v hb; replace E := E.add e8
    refine op_on E rfl rfl hb ?_
    refine o_ixL E rfl rfl rfl T.l22 ⟨by omega, by omega⟩ ?_; clear E; intro a E
    exact ⟨_, _, S, rfl, E.get _ _ rfl, E.defers, fun _ => rfl⟩
   ·refine g_off E rfl rfl rfl hb ?_; clear E; intro a E
    exact ⟨_, _, S, rfl, E.get _ _ rfl, E.defers, fun h => absurd (hb.symm.trans h) (by decide)⟩
  ·intro a w G1 hl S E hp
   obtain ⟨_, eg, rfl⟩ := hp 6 17 _ rfl rfl rfl; replace E := E.add eg
   refine (Bool.eq_false_or_eq_true (decide (((h.getD ((j : Int) - 1).toNat E0).type) = 1))).elim (fun hb => ?_) (fun hb => ?_)
   ·obtain ⟨_, e9, h9v⟩ := hp 9 20 _ rfl rfl rfl; cases h9v hb; replace E := E.add e9
    refine op_on E rfl rfl hb ?_
    refine o_fld E rfl rfl T.f52_1 ?_; clear E; intro a E
    exact ⟨_, _, S, rfl, E.get _ _ rfl, E.defers, fun _ => rfl⟩
   ·refine g_off E rfl rfl rfl hb ?_; clear E; intro a E
    exact ⟨_, _, S, rfl, E.get _ _ rfl, E.defers, fun h => absurd (hb.symm.trans h) (by decide)⟩
  ·intro a w G1 hl S E hp
   obtain ⟨_, eg, rfl⟩ := hp 6 17 _ rfl rfl rfl; replace E := E.add eg
   refine (Bool.eq_false_or_eq_true (decide (((h.getD ((j : Int) - 1).toNat E0).type) = 1))).elim (fun hb => ?_) (fun hb => ?_)
   ·obtain ⟨_, e10, h10v⟩ := hp 10 21 _ rfl rfl rfl; cases h10v hb; replace E := E.add e10
    refine op_on E rfl rfl hb ?_
    refine o_ldIA E rfl S rfl ((el14.le hl).part 1 3) T.a49 ?_; clear E; intro a E
    exact ⟨_, _, S, rfl, E.get _ _ rfl, E.defers, fun _ => rfl⟩
   ·refine g_off E rfl rfl rfl hb ?_; clear E; intro a E
    exact ⟨_, _, S, rfl, E.get _ _ rfl, E.defers, fun h => absurd (hb.symm.trans h) (by decide)⟩
  ·intro a w G1 hl S E hp
   obtain ⟨_, eg, rfl⟩ := hp 6 17 _ rfl rfl rfl; replace E := E.add eg
   refine (Bool.eq_false_or_eq_true (decide (((h.getD ((j : Int) - 1).toNat E0).type) = 1))).elim (fun hb => ?_) (fun hb => ?_)
   ·refine op_on E rfl rfl hb ?_
    refine o_move E rfl rfl ?_; clear E; intro a E
    exact ⟨_, _, S, rfl, E.get _ _ rfl, E.defers, fun _ => rfl⟩
   ·refine g_off E rfl rfl rfl hb ?_; clear E; intro a E
    exact ⟨_, _, S, rfl, E.get _ _ rfl, E.defers, fun h => absurd (hb.symm.trans h) (by decide)⟩
  ·intro a w G1 hl S E hp
   obtain ⟨_, eg, rfl⟩ := hp 6 17 _ rfl rfl rfl; replace E := E.add eg
   refine (Bool.eq_false_or_eq_true (decide (((h.getD ((j : Int) - 1).toNat E0).type) = 1))).elim (fun hb => ?_) (fun hb => ?_)
   ·refine op_on E rfl rfl hb ?_
    refine o_move E rfl rfl ?_; clear E; intro a E
    exact ⟨_, _, S, rfl, E.get _ _ rfl, E.defers, fun _ => rfl⟩
   ·refine g_off E rfl rfl rfl hb ?_; clear E; intro a E
    exact ⟨_, _, S, rfl, E.get _ _ rfl, E.defers, fun h => absurd (hb.symm.trans h) (by decide)⟩
  ·intro a w G1 hl S E hp
   obtain ⟨_, eg, rfl⟩ := hp 6 17 _ rfl rfl rfl; replace E := E.add eg
   refine (Bool.eq_false_or_eq_true (decide (((h.getD ((j : Int) - 1).toNat E0).type) = 1))).elim (fun hb => ?_) (fun hb => ?_)
   ·obtain ⟨_, e12, h12v⟩ := hp 12 23 _ rfl rfl rfl; cases h12v hb; replace E := E.add e12
    obtain ⟨_, e13, h13v⟩ := hp 13 24 _ rfl rfl rfl; cases h13v hb; replace E := E.add e13
    refine op_on E rfl rfl hb ?_
    have hbk := hb; try simp only [Bool.not_eq_true', Bool.not_eq_false', Bool.and_eq_true, Bool.or_eq_false_iff, decide_eq_true_eq, decide_eq_false_iff_not] at hbk
    obtain ⟨hA15, el15⟩ := hc15 (hb); cases hA15
    refine o_ixL E rfl rfl rfl T.l22 ⟨by omega, by omega⟩ ?_; clear E; intro a E
    exact ⟨_, _, S, rfl, E.get _ _ rfl, E.defers, fun _ => rfl⟩
   ·refine g_off E rfl rfl rfl hb ?_; clear E; intro a E
    exact ⟨_, _, S, rfl, E.get _ _ rfl, E.defers, fun h => absurd (hb.symm.trans h) (by decide)⟩
  ·intro a w G1 hl S E hp
   obtain ⟨_, eg, rfl⟩ := hp 6 17 _ rfl rfl rfl; replace E := E.add eg
   refine (Bool.eq_false_or_eq_true (decide (((h.getD ((j : Int) - 1).toNat E0).type) = 1))).elim (fun hb => ?_) (fun hb => ?_)
   ·obtain ⟨_, e14, h14v⟩ := hp 14 25 _ rfl rfl rfl; cases h14v hb; replace E := E.add e14
    refine op_on E rfl rfl hb ?_
    refine o_fld E rfl rfl T.f52_1 ?_; clear E; intro a E
    exact ⟨_, _, S, rfl, E.get _ _ rfl, E.defers, fun _ => rfl⟩
   ·refine g_off E rfl rfl rfl hb ?_; clear E; intro a E
    exact ⟨_, _, S, rfl, E.get _ _ rfl, E.defers, fun h => absurd (hb.symm.trans h) (by decide)⟩
  ·intro a w G1 hl S E hp
   obtain ⟨_, eg, rfl⟩ := hp 6 17 _ rfl rfl rfl; replace E := E.add eg
   refine (Bool.eq_false_or_eq_true (decide (((h.getD ((j : Int) - 1).toNat E0).type) = 1))).elim (fun hb => ?_) (fun hb => ?_)
   ·obtain ⟨_, e15, h15v⟩ := hp 15 26 _ rfl rfl rfl; cases h15v hb; replace E := E.add e15
    refine op_on E rfl rfl hb ?_
    obtain ⟨_, el15⟩ := hc15 (hb)
    obtain ⟨A1_15, c1_15, A2_15, c2_15, el15, ha1_15, hr1_15, ha2_15, hr2_15⟩ := kEvt_open el15
    refine o_ldIA E rfl S rfl ((el15.le hl).part 1 3) T.a49 ?_; clear E; intro a E
    exact ⟨_, _, S, rfl, E.get _ _ rfl, E.defers, fun _ => rfl⟩
   ·refine g_off E rfl rfl rfl hb ?_; clear E; intro a E
    exact ⟨_, _, S, rfl, E.get _ _ rfl, E.defers, fun h => absurd (hb.symm.trans h) (by decide)⟩
  ·intro a w G1 hl S E hp
   obtain ⟨_, eg, rfl⟩ := hp 6 17 _ rfl rfl rfl; replace E := E.add eg
   refine (Bool.eq_false_or_eq_true (decide (((h.getD ((j : Int) - 1).toNat E0).type) = 1))).elim (fun hb => ?_) (fun hb => ?_)
   ·obtain ⟨_, e11, h11v⟩ := hp 11 22 _ rfl rfl rfl; cases h11v hb; replace E := E.add e11
    obtain ⟨_, e16, h16v⟩ := hp 16 27 _ rfl rfl rfl; cases h16v hb; replace E := E.add e16
    refine op_on E rfl rfl hb ?_
    refine o_eqA (b := decide (((h.getD ((j : Int) - 1).toNat E0).client.k) = ((h.getD i E0).client.k)) && (decide (((h.getD ((j : Int) - 1).toNat E0).client.n) = ((h.getD i E0).client.n)) && (((h.getD ((j : Int) - 1).toNat E0).client.s) == ((h.getD i E0).client.s) && true))) E rfl rfl rfl T.q49 rfl rfl ?_; clear E; intro a E
    exact ⟨_, _, S, rfl, E.get _ _ rfl, E.defers, fun _ => rfl⟩
   ·refine g_off E rfl rfl rfl hb ?_; clear E; intro a E
    exact ⟨_, _, S, rfl, E.get _ _ rfl, E.defers, fun h => absurd (hb.symm.trans h) (by decide)⟩
  ·intro a w G1 hl S E hp
   obtain ⟨_, e6, rfl⟩ := hp 6 17 _ rfl rfl rfl; replace E := E.add e6
   refine (Bool.eq_false_or_eq_true (decide (((h.getD ((j : Int) - 1).toNat E0).type) = 1))).elim (fun hb => ?_) (fun hb => ?_)
   ·obtain ⟨_, e17, h17v⟩ := hp 17 28 _ rfl rfl rfl; cases h17v hb; replace E := E.add e17
    refine o_pick_t E rfl rfl hb rfl ?_; clear E; intro a E
    exact ⟨_, _, S, rfl, E.get _ _ rfl, E.defers, by rw [hb]; rfl⟩
   ·refine o_pick_f E rfl rfl hb rfl ?_; clear E; intro a E
    exact ⟨_, _, S, rfl, E.get _ _ rfl, E.defers, by rw [hb]; rfl⟩
  clear E S; intro a w S E hp
  obtain ⟨_, e18, rfl⟩ := hp 18 29 _ rfl rfl; replace E := E.add e18
  clear hp
  refine hK12 _ _ ?_; clear hK12
  refine cond E rfl (fun h16r => ?_) (fun h16r => ?_)
  ·have h16 := nm h16r
   refine sr fun K hK => ?_
   refine rn 2 E S ?_; clear E S; intro a w E S
   refine o_ixL E rfl rfl rfl T.l22 ⟨by omega, by omega⟩ ?_; clear E; intro a E
   refine o_ldIA E rfl S rfl el14 T.a52 ?_; clear E; intro a E
   refine rn 1 E S ?_; clear E S; intro a w E S
   apply hK; clear hK K
   refine rt hQ E S ?_
   have hj9 : ((j : Int) - 1).toNat = j - 1 := by omega
   have hq := h16r
   rw [same_val, Bool.and_eq_true, decide_eq_true_eq, decide_eq_true_eq] at hq
   have he : calledE h i = h.getD ((j : Int) - 1).toNat E0 := by rw [hj9] at hq ⊢; exact called_eq (by omega) hla hq
   rw [he]
   exact ⟨_, _, _, _, rfl, ha1_14, hr1_14, ha2_14, hr2_14⟩
  ·have h16 := nm h16r
   refine wp_skip ?_
   refine hK10 _ _ ?_; clear hK10
   refine wp_region_lit ?_
   refine rn 3 E S ?_; clear E S; intro a w E S
   have hj9 : ((j : Int) - 1).toNat = j - 1 := by omega
   have hq := h16r
   rw [same_val] at hq
   rw [hj9] at hq
   have hla2 : lastCall h (h.getD i E0).client (i + 1) = lastCall h (h.getD i E0).client (j - 1) := by
    rw [hla]
    have := called_miss (h := h) (j := j - 1) (c := (h.getD i E0).client) (by intro e; rw [e.1, e.2] at hq; simp at hq)
    rw [show j - 1 + 1 = j by omega] at this
    exact this
   have hv9 : ((j : Int) - 1) - 1 = (((j - 1 : Nat)) : Int) - 1 := by omega
   rw [hv9] at E
   exact ⟨j - 1, ⟨S, E.cut ⟨rfl, rfl, rfl, rfl, trivial⟩, ⟨by omega, hla2⟩⟩, by omega⟩
 ·have h9 := nm h9r
  refine wp_exit ?_
  refine hK2 _ _ ?_; clear hK2
  refine sr fun K hK => ?_
  refine o_build (cs := #[.int .i64 0, .int .i64 0, .int .i64 0, str [], .int .i64 0, .int .i64 0, .int .i64 0, .int .i64 0, str [], .int .i64 0, .slice none 0 0, .slice none 0 0, .bool false, str []]) E rfl rfl (by kernel_rfl) ?_; clear E; intro a E
  refine rn 1 E S ?_; clear E S; intro a w E S
  apply hK; clear hK K
  refine rt hQ E S ?_
  have hj9 : j = 0 := by omega
  subst hj9
  rw [called_no hla]
  exact ⟨_, _, _, _, rfl, Nat.zero_le _, .nil, Nat.zero_le _, .nil⟩

/-! `incognito/incognitoref28.With` -/
theorem c_With (x : Evt) (A1 : Option Addr) (c1 : Nat) (A2 : Option Addr) (c2 : Nat) (l : List Val) (A : Option Addr) (c : Nat) (w0 : World) (G : Heap) (hG : Sub G w0) (hr1 : Rd kVal G A1 x.args) (hr2 : Rd kVal G A2 x.out) (ha1 : x.args.length ≤ c1) (ha2 : x.out.length ≤ c2) (hR : Rd kVal G A l) (hlc : l.length ≤ c) (hc9 : l.length ≤ 9223372036854775807) (h1 : 1 ≤ l.length) (h2 : x.type = 1 → 2 ≤ l.length):
  Calls Tryd.prog 30 #[.agg #[.int .i64 x.time, .int .i64 x.client.k, .int .i64 x.client.n, str x.client.s, .int .i64 x.type, .int .i64 x.model, .int .i64 x.key.k, .int .i64 x.key.n, str x.key.s, .int .i64 x.op, .slice A1 x.args.length c1, .slice A2 x.out.length c2, .bool x.noted, str x.note], .slice A l.length c] w0 (Ret w0 G (fun v G' => ∃ A1 c1 A2 c2, v = .agg (evtCells (withE x l) A1 c1 A2 c2).toArray ∧ (withE x l).args.length ≤ c1 ∧ Rd kVal G' A1 (withE x l).args ∧ (withE x l).out.length ≤ c2 ∧ Rd kVal G' A2 (withE x l).out)) := by
 refine enter Tryd.func30 rfl Tryd.ntmps30 rfl ?_
 intro Q hQ a E
 have S := St.start0 hG
 refine sr fun K hK => ?_
 refine o_bx14 E rfl S rfl ?_; clear E S; intro B2 w a S E
 refine o_allocZ E rfl S ?_; clear E S; intro B4 w a S E
 apply hK; clear hK K
 refine sr fun K hK => ?_
 refine rn 1 E S ?_; clear E S; intro a w E S
 have hi2 : (0 : Int).toNat < l.length := by omega
 obtain ⟨eb2, eo2, hA2, el2⟩ := Rd.at hR (List.getElem?_eq_getElem hi2); cases hA2
 rw [show l[(0 : Int).toNat] = (l.getD 0 ⟨0, 0, []⟩) from getD_get (i := 0) hi2 _] at el2
 have el2 := kVal_open el2
 refine o_ixL E rfl rfl rfl T.l50 ⟨by omega, by omega⟩ ?_; clear E; intro a E
 refine o_ldIA E rfl S rfl el2 T.a49 ?_; clear E; intro a E
 refine rn 2 E S ?_; clear E S; intro a w E S
 apply hK; clear hK K
 refine wp_seq_k (fun K5 hK4 => ?_)
 refine sr fun K hK => ?_
 refine rn 3 E S ?_; clear E S; intro a w E S
 apply hK; clear hK K
 refine cond E rfl (fun h7r => ?_) (fun h7r => ?_)
 ·have h7 := nm h7r
  refine sr fun K hK => ?_
  have h29 := h2 (by simpa using h7)
  refine rn 1 E S ?_; clear E S; intro a w E S
  have hi8 : (1 : Int).toNat < l.length := by omega
  obtain ⟨eb8, eo8, hA8, el8⟩ := Rd.at hR (List.getElem?_eq_getElem hi8); cases hA8
  rw [show l[(1 : Int).toNat] = (l.getD 1 ⟨0, 0, []⟩) from getD_get (i := 1) hi8 _] at el8
  have el8 := kVal_open el8
  refine o_ixL E rfl rfl rfl T.l50 ⟨by omega, by omega⟩ ?_; clear E; intro a E
  refine o_ldIA E rfl S rfl el8 T.a49 ?_; clear E; intro a E
  refine rn 2 E S ?_; clear E S; intro a w E S
  apply hK; clear hK K
  refine wp_region_lit ?_
  refine rn 1 E S ?_; clear E S; intro a w E S
  refine o_sliceRLo (K := kVal) (k := 2) E rfl rfl rfl T.l50 rfl hR rfl hlc ⟨by omega, by omega⟩ ?_; clear E; intro vA10 vc10 a hR10 hcp10 E
  rw [show (2 : Int).toNat = 2 from rfl] at E hR10 hcp10
  refine rn 2 E S ?_; clear E S; intro a w E S
  refine hK4 _ _ ?_; clear hK4
  refine wp_seq_k (fun K12 hK11 => ?_)
  refine sr fun K hK => ?_
  refine rn 3 E S ?_; clear E S; intro a w E S
  apply hK; clear hK K
  refine cond E rfl (fun h14r => ?_) (fun h14r => ?_)
  ·have h14 := nm h14r
   refine wp_region_lit ?_
   refine rn 1 E S ?_; clear E S; intro a w E S
   refine o_sliceRLo (K := kVal) (k := 1) E rfl rfl rfl T.l50 rfl hR rfl hlc ⟨by omega, by omega⟩ ?_; clear E; intro vA15 vc15 a hR15 hcp15 E
   rw [show (1 : Int).toNat = 1 from rfl] at E hR15 hcp15
   refine rn 2 E S ?_; clear E S; intro a w E S
   refine hK11 _ _ ?_; clear hK11
   refine sr fun K hK => ?_
   refine rn 2 E S ?_; clear E S; intro a w E S
   apply hK; clear hK K
   refine rt hQ E S ?_
   exfalso; omega
  ·have h14 := nm h14r
   refine wp_skip ?_
   refine hK11 _ _ ?_; clear hK11
   refine sr fun K hK => ?_
   refine rn 2 E S ?_; clear E S; intro a w E S
   apply hK; clear hK K
   refine rt hQ E S ?_
   have he : withE x l = (⟨x.time, (l.getD 0 ⟨0, 0, []⟩), x.type, x.model, (l.getD 1 ⟨0, 0, []⟩), x.op, ((l).drop 2), x.out, x.noted, x.note⟩ : Evt) := by unfold withE; rw [if_pos (by simpa using h7)]
   rw [he]
   exact ⟨_, _, _, _, rfl, hcp10, hR10, ha2, hr2⟩
 ·have h7 := nm h7r
  refine wp_skip ?_
  refine hK4 _ _ ?_; clear hK4
  refine wp_seq_k (fun K19 hK18 => ?_)
  refine sr fun K hK => ?_
  refine rn 3 E S ?_; clear E S; intro a w E S
  apply hK; clear hK K
  refine cond E rfl (fun h21r => ?_) (fun h21r => ?_)
  ·have h21 := nm h21r
   refine wp_region_lit ?_
   refine rn 1 E S ?_; clear E S; intro a w E S
   refine o_sliceRLo (K := kVal) (k := 1) E rfl rfl rfl T.l50 rfl hR rfl hlc ⟨by omega, by omega⟩ ?_; clear E; intro vA22 vc22 a hR22 hcp22 E
   rw [show (1 : Int).toNat = 1 from rfl] at E hR22 hcp22
   refine rn 2 E S ?_; clear E S; intro a w E S
   refine hK18 _ _ ?_; clear hK18
   refine sr fun K hK => ?_
   refine rn 2 E S ?_; clear E S; intro a w E S
   apply hK; clear hK K
   refine rt hQ E S ?_
   have he : withE x l = (⟨x.time, (l.getD 0 ⟨0, 0, []⟩), x.type, x.model, x.key, x.op, x.args, ((l).drop 1), x.noted, x.note⟩ : Evt) := by unfold withE; rw [if_neg (by simpa using h7)]; rw [if_pos (by simpa using h21)]
   rw [he]
   exact ⟨_, _, _, _, rfl, ha1, hr1, hcp22, hR22⟩
  ·have h21 := nm h21r
   refine wp_skip ?_
   refine hK18 _ _ ?_; clear hK18
   refine sr fun K hK => ?_
   refine rn 2 E S ?_; clear E S; intro a w E S
   apply hK; clear hK K
   refine rt hQ E S ?_
   have he : withE x l = (⟨x.time, (l.getD 0 ⟨0, 0, []⟩), x.type, x.model, x.key, x.op, x.args, x.out, x.noted, x.note⟩ : Evt) := by unfold withE; rw [if_neg (by simpa using h7)]; rw [if_neg (by simpa using h21)]
   rw [he]
   exact ⟨_, _, _, _, rfl, ha1, hr1, ha2, hr2⟩

/-! `incognito/incognitoref28.Own` -/
theorem c_Own (x : Evt) (A1 : Option Addr) (c1 : Nat) (A2 : Option Addr) (c2 : Nat) (w0 : World) (G : Heap) (hG : Sub G w0) (hr1 : Rd kVal G A1 x.args) (hr2 : Rd kVal G A2 x.out) (ha1 : x.args.length ≤ c1) (ha2 : x.out.length ≤ c2) (hla : x.args.length ≤ 1000000) (hlo : x.out.length ≤ 1000000):
  Calls Tryd.prog 27 #[.agg #[.int .i64 x.time, .int .i64 x.client.k, .int .i64 x.client.n, str x.client.s, .int .i64 x.type, .int .i64 x.model, .int .i64 x.key.k, .int .i64 x.key.n, str x.key.s, .int .i64 x.op, .slice A1 x.args.length c1, .slice A2 x.out.length c2, .bool x.noted, str x.note]] w0 (X.Ends w0 G (X.keys []) (fun v G' C' => ∃ A' c', v = .slice A' (ownE x).length c' ∧ X.Own kVal 49 G' A' c' (ownE x) C') (fun _ _ _ => False)) := by
 refine enter Tryd.func27 rfl Tryd.ntmps27 rfl ?_
 intro Q hQ a E
 have S := St.start0 hG
 refine sr fun K hK => ?_
 refine o_bx14 E rfl S rfl ?_; clear E S; intro B1 w a S E
 refine rn 1 E S ?_; clear E S; intro a w E S
 apply hK; clear hK K
 refine sr fun K hK => ?_
 refine rn 2 E S ?_; clear E S; intro a w E S
 refine o_buildO (K := kVal) (xs := [x.client]) (cs := #[.int .i64 x.client.k, .int .i64 x.client.n, str x.client.s]) E rfl S rfl T.l50 (by kernel_rfl) ⟨rfl, rfl⟩ rfl rfl rfl (by decide) ?_; clear E S; intro oA2 oc2 oC2 w a S oH2 E
 refine rn 1 E S ?_; clear E S; intro a w E S
 apply hK; clear hK K
 refine wp_seq_k (fun K5 hK4 => ?_)
 refine sr fun K hK => ?_
 refine rn 3 E S ?_; clear E S; intro a w E S
 apply hK; clear hK K
 refine cond E rfl (fun h7r => ?_) (fun h7r => ?_)
 ·have h7 := nm h7r
  refine sr fun K hK => ?_
  refine rn 3 E S ?_; clear E S; intro a w E S
  refine o_buildSl (cs := #[.int .i64 x.key.k, .int .i64 x.key.n, str x.key.s]) [(0, _), (1, _), (2, _)] E rfl S rfl T.l50 (by kernel_rfl) ⟨rfl, rfl, rfl, trivial⟩ ?_; clear E S; intro B13 w a S E
  refine o_appendL (K := kVal) (ys := [x.key]) (n := 3) E rfl S (.there .here) oH2 rfl rfl T.p50 (.here .here) rfl ⟨rfl, rfl⟩ rfl rfl (by (simp; done)) (by (simp; done)) ?_
  clear E S; intro oA8 oc8 oC8 w a S oH8 E
  refine rn 1 E S ?_; clear E S; intro a w E S
  apply hK; clear hK K
  refine wp_region_lit ?_
  refine rn 3 E S ?_; clear E S; intro a w E S
  refine o_append (K := kVal) E rfl S .here oH8 rfl rfl T.p50 hr1 kVal_one (by (simp; omega)) (by (simp; omega)) ?_
  clear E S; intro oA10 oc10 oC10 w a S oH10 E
  refine rn 1 E S ?_; clear E S; intro a w E S
  refine hK4 _ _ ?_; clear hK4
  refine wp_seq_k (fun K12 hK11 => ?_)
  refine sr fun K hK => ?_
  refine rn 3 E S ?_; clear E S; intro a w E S
  apply hK; clear hK K
  refine cond E rfl (fun h14r => ?_) (fun h14r => ?_)
  ·have h14 := nm h14r
   refine wp_region_lit ?_
   refine rn 3 E S ?_; clear E S; intro a w E S
   refine o_append (K := kVal) E rfl S .here oH10 rfl rfl T.p50 hr2 kVal_one (by (simp; omega)) (by (simp; omega)) ?_
   clear E S; intro oA15 oc15 oC15 w a S oH15 E
   refine rn 1 E S ?_; clear E S; intro a w E S
   refine hK11 _ _ ?_; clear hK11
   refine sr fun K hK => ?_
   refine rn 2 E S ?_; clear E S; intro a w E S
   apply hK; clear hK K
   refine rtE hQ E S ?_
   exfalso; omega
  ·have h14 := nm h14r
   refine wp_skip ?_
   refine hK11 _ _ ?_; clear hK11
   refine sr fun K hK => ?_
   refine rn 2 E S ?_; clear E S; intro a w E S
   apply hK; clear hK K
   refine rtE hQ E S ?_
   have he : ownE x = [x.client] ++ [x.key] ++ x.args := by unfold ownE; rw [if_pos (by simpa using h7)]
   rw [he]
   exact ⟨_, _, S.stop (List.sublist_append_left _ _), _, _, rfl, oH10⟩
 ·have h7 := nm h7r
  refine wp_skip ?_
  refine hK4 _ _ ?_; clear hK4
  refine wp_seq_k (fun K19 hK18 => ?_)
  refine sr fun K hK => ?_
  refine rn 3 E S ?_; clear E S; intro a w E S
  apply hK; clear hK K
  refine cond E rfl (fun h21r => ?_) (fun h21r => ?_)
  ·have h21 := nm h21r
   refine wp_region_lit ?_
   refine rn 3 E S ?_; clear E S; intro a w E S
   refine o_append (K := kVal) E rfl S .here oH2 rfl rfl T.p50 hr2 kVal_one (by (simp; omega)) (by (simp; omega)) ?_
   clear E S; intro oA22 oc22 oC22 w a S oH22 E
   refine rn 1 E S ?_; clear E S; intro a w E S
   refine hK18 _ _ ?_; clear hK18
   refine sr fun K hK => ?_
   refine rn 2 E S ?_; clear E S; intro a w E S
   apply hK; clear hK K
   refine rtE hQ E S ?_
   have he : ownE x = [x.client] ++ x.out := by unfold ownE; rw [if_neg (by simpa using h7)]; rw [if_pos (by simpa using h21)]
   rw [he]
   exact ⟨_, _, S.stop (List.sublist_append_left _ _), _, _, rfl, oH22⟩
  ·have h21 := nm h21r
   refine wp_skip ?_
   refine hK18 _ _ ?_; clear hK18
   refine sr fun K hK => ?_
   refine rn 2 E S ?_; clear E S; intro a w E S
   apply hK; clear hK K
   refine rtE hQ E S ?_
   have he : ownE x = [x.client] := by unfold ownE; rw [if_neg (by simpa using h7)]; rw [if_neg (by simpa using h21)]
   rw [he]
   exact ⟨_, _, S.stop (List.sublist_append_left _ _), _, _, rfl, oH2⟩

/-! `incognito/incognitoref10.Copy` -/
theorem c_Copy10 (x : Evt) (A1 : Option Addr) (c1 : Nat) (A2 : Option Addr) (c2 : Nat) (w0 : World) (G : Heap) (hG : Sub G w0) (hr1 : Rd kVal G A1 x.args) (hr2 : Rd kVal G A2 x.out) (ha1 : x.args.length ≤ c1) (ha2 : x.out.length ≤ c2) (hla : x.args.length ≤ 4398046511104) (hlo : x.out.length ≤ 4398046511104):
  Calls Tryd.prog 14 #[.agg #[.int .i64 x.time, .int .i64 x.client.k, .int .i64 x.client.n, str x.client.s, .int .i64 x.type, .int .i64 x.model, .int .i64 x.key.k, .int .i64 x.key.n, str x.key.s, .int .i64 x.op, .slice A1 x.args.length c1, .slice A2 x.out.length c2, .bool x.noted, str x.note]] w0 (Ret w0 G (fun v G' => ∃ A1 c1 A2 c2, v = .agg (evtCells x A1 c1 A2 c2).toArray ∧ x.args.length ≤ c1 ∧ Rd kVal G' A1 x.args ∧ x.out.length ≤ c2 ∧ Rd kVal G' A2 x.out)) := by
 refine enter Tryd.func14 rfl Tryd.ntmps14 rfl ?_
 intro Q hQ a E
 have S := St.start0 hG
 refine sr fun K hK => ?_
 refine o_bx14 E rfl S rfl ?_; clear E S; intro B1 w a S E
 refine o_allocZ E rfl S ?_; clear E S; intro B2 w a S E
 apply hK; clear hK K
 refine sr fun K hK => ?_
 refine o_buildNil (K := kVal) E rfl S T.p50 ?_; clear E S; intro oA2 oc2 oC2 w a S oH2 E
 refine rn 2 E S ?_; clear E S; intro a w E S
 refine o_append (K := kVal) E rfl S .here oH2 rfl rfl T.p50 hr1 kVal_one (by (simp; omega)) (by (simp; omega)) ?_
 clear E S; intro oA3 oc3 oC3 w a S oH3 E
 refine rn 2 E S ?_; clear E S; intro a w E S
 apply hK; clear hK K
 refine sr fun K hK => ?_
 refine o_buildNil (K := kVal) E rfl S T.p50 ?_; clear E S; intro oA5 oc5 oC5 w a S oH5 E
 refine rn 2 E S ?_; clear E S; intro a w E S
 refine o_append (K := kVal) E rfl S .here oH5 rfl rfl T.p50 hr2 kVal_one (by (simp; omega)) (by (simp; omega)) ?_
 clear E S; intro oA6 oc6 oC6 w a S oH6 E
 refine rn 2 E S ?_; clear E S; intro a w E S
 apply hK; clear hK K
 refine sr fun K hK => ?_
 have hcphR9 := oH3.cap
 obtain ⟨G8, hle10, S', hR9⟩ := X.Own.still S (.there .here) oH3; clear S; have S := S'; clear S'
 replace hr1 := hr1.le hle10
 replace hr2 := hr2.le hle10
 replace oH6 := oH6.le hle10
 have hcphR12 := oH6.cap
 obtain ⟨G11, hle13, S', hR12⟩ := X.Own.still S .here oH6; clear S; have S := S'; clear S'
 replace hr1 := hr1.le hle13
 replace hr2 := hr2.le hle13
 replace hR9 := hR9.le hle13
 skip
 refine rn 2 E S ?_; clear E S; intro a w E S
 apply hK; clear hK K
 refine rt hQ E S ?_
 exact ⟨_, _, _, _, rfl, hcphR9, hR9, hcphR12, hR12⟩

/-! `incognito/incognitoref11.Copy` -/
theorem c_Copy11 (h : List Evt) (A : Option Addr) (c : Nat) (w0 : World) (G : Heap) (hG : Sub G w0) (hR : Rd kEvt G A h) (hl : h.length ≤ 1000000) (hsm : ∀ x ∈ h, x.args.length ≤ 4398046511104 ∧ x.out.length ≤ 4398046511104):
  Calls Tryd.prog 7 #[.slice A h.length c] w0 (Ret w0 G (fun v G' => SlV kEvt G' v h)) := by
 refine enter Tryd.func7 rfl Tryd.ntmps7 rfl ?_
 intro Q hQ a E
 have S := St.start0 hG
 refine sr fun K hK => ?_
 refine rn 1 E S ?_; clear E S; intro a w E S
 apply hK; clear hK K
 refine sr fun K hK => ?_
 refine rn 1 E S ?_; clear E S; intro a w E S
 apply hK; clear hK K
 refine wp_seq_k (fun K4 hK3 => ?_)
 refine sr fun K hK => ?_
 refine rn 1 E S ?_; clear E S; intro a w E S
 apply hK; clear hK K
 refine wp_block ?_
 replace S := S.nilChunk
 have oH7 : X.Own kEvt 52 G none 0 ([] : List Evt) [] := X.Own.nil
 refine loop (fun (i : Nat) a' w' => ∃ (oA3_1 : Option Addr) (oc3_1 : Nat) (oC3_1 : Chunk), ∃ GL8, Heap.le G GL8 ∧ St w0 G [] GL8 w' [oC3_1] ∧ Env a' 20 [] [(0, .slice A h.length c), (2, .slice none 0 0), (3, .slice oA3_1 ((h.take i).length) oc3_1), (4, .int .i64 (i : Int))] ∧ X.Own kEvt 52 GL8 oA3_1 oc3_1 (h.take i) oC3_1 ∧ (i ≤ h.length)) (fun (i : Nat) => h.length - i) 0 ⟨_, _, _, _, Heap.le.refl _, S, E.cut ⟨rfl, rfl, rfl, rfl, trivial⟩, X.Own.nil (K := kEvt), Nat.zero_le _⟩ ?_
 clear E S; intro i a w ⟨oA3_1, oc3_1, oC3_1, GL8, hle9, S, E, oH3_1, hi⟩
 replace hR := hR.le hle9
 refine wp_seq_k (fun K11 hK10 => ?_)
 refine sr fun K hK => ?_
 refine rn 4 E S ?_; clear E S; intro a w E S
 apply hK; clear hK K
 refine cond E rfl (fun h13r => ?_) (fun h13r => ?_)
 ·have h13 := nm h13r
  refine wp_skip ?_
  refine hK10 _ _ ?_; clear hK10
  refine wp_seq_k (fun K15 hK14 => ?_)
  refine wp_block ?_
  refine wp_region_lit ?_
  refine rn 3 E S ?_; clear E S; intro a w E S
  have hi16 : (i : Int).toNat < h.length := by omega
  obtain ⟨eb16, eo16, hA16, el16⟩ := Rd.at hR (List.getElem?_eq_getElem hi16); cases hA16
  rw [show h[(i : Int).toNat] = (h.getD i E0) from getD_get (i := i) hi16 _] at el16
  obtain ⟨A1_16, c1_16, A2_16, c2_16, el16, ha1_16, hr1_16, ha2_16, hr2_16⟩ := kEvt_open el16
  refine o_ixL E rfl rfl rfl T.l22 ⟨by omega, by omega⟩ ?_; clear E; intro a E
  have hs9 := hsm _ (evm (h := h) (i := i) (by omega))
  have hs91 := hs9.1
  have hs92 := hs9.2
  refine o_ldIA E rfl S rfl el16 T.a52 ?_; clear E; intro a E
  refine o_call E rfl S rfl rfl T.g14 (c_Copy10 (h.getD i E0) _ _ _ _ _ _ S.sub hr1_16 hr2_16 ha1_16 ha2_16 (by omega) (by omega)) ?_
  clear E S; rintro _ G17 w a S hle17 ⟨A1_17, c1_17, A2_17, c2_17, rfl, ha1_17, hr1_17, ha2_17, hr2_17⟩ E
  replace hR := hR.le hle17
  replace hr1_16 := hr1_16.le hle17
  replace hr2_16 := hr2_16.le hle17
  replace oH3_1 := oH3_1.le hle17
  refine o_buildSl (cs := #[.int .i64 ((h.getD i E0).time), .int .i64 ((h.getD i E0).client.k), .int .i64 ((h.getD i E0).client.n), str ((h.getD i E0).client.s), .int .i64 ((h.getD i E0).type), .int .i64 ((h.getD i E0).model), .int .i64 ((h.getD i E0).key.k), .int .i64 ((h.getD i E0).key.n), str ((h.getD i E0).key.s), .int .i64 ((h.getD i E0).op), .slice A1_17 ((h.getD i E0).args.length) c1_17, .slice A2_17 ((h.getD i E0).out.length) c2_17, .bool ((h.getD i E0).noted), str ((h.getD i E0).note)]) [(0, _), (1, _), (2, _), (3, _), (4, _), (5, _), (6, _), (7, _), (8, _), (9, _), (10, _), (11, _), (12, _), (13, _)] E rfl S rfl T.l22 (by kernel_rfl) ⟨rfl, rfl, rfl, rfl, rfl, rfl, rfl, rfl, rfl, rfl, rfl, rfl, rfl, rfl, trivial⟩ ?_; clear E S; intro B17 w a S E
  refine o_appendL (K := kEvt) (ys := [(h.getD i E0)]) (n := 14) E rfl S (.there .here) oH3_1 rfl rfl T.p22 (.here .here) rfl ⟨kEvt_mk (h.getD i E0) ha1_17 hr1_17 ha2_17 hr2_17, rfl⟩ rfl rfl (by (simp; omega)) (by (simp; omega)) ?_
  clear E S; intro oA18 oc18 oC18 w a S oH18 E
  refine rn 1 E S ?_; clear E S; intro a w E S
  refine hK14 _ _ ?_; clear hK14
  refine wp_region_lit ?_
  refine rn 3 E S ?_; clear E S; intro a w E S
  replace S := S.drop (M' := [_]) (sub_keep (sub_drop sub_nil))
  have hxs : ((h.take i) ++ [(h.getD i E0)]) = h.take (i + 1) := take_step (h := h) (i := i) (by omega)
  rw [hxs] at E oH18; clear hxs
  exact ⟨i + 1, ⟨_, _, _, _, (hle9.trans hle17), S, E.cut ⟨rfl, rfl, rfl, rfl, trivial⟩, oH18, by omega⟩, by omega⟩
 ·have h13 := nm h13r
  refine wp_exit ?_
  refine hK3 _ _ ?_; clear hK3
  refine sr fun K hK => ?_
  refine rn 2 E S ?_; clear E S; intro a w E S
  apply hK; clear hK K
  have hcphR21 := oH3_1.cap
  obtain ⟨G20, hle22, S', hR21⟩ := X.Own.still S .here oH3_1; clear S; have S := S'; clear S'
  replace hR := hR.le hle22
  refine rt hQ E S ?_
  have hi9 : i = h.length := by omega
  subst hi9
  rw [List.take_length] at *
  exact ⟨_, _, rfl, by assumption, by assumption⟩

/-! `incognito/incognitoref28.Domains` -/
theorem c_Dom28 (h : List Evt) (A : Option Addr) (c : Nat) (i : Nat) (w0 : World) (G : Heap) (hG : Sub G w0) (hR : Rd kEvt G A h) (hl : h.length ≤ 1000000000) (hi : i < h.length) (hwo : ∀ v ∈ (h.getD i E0).out, v.Wf) (hlo : (h.getD i E0).out.length ≤ 1000000):
  Calls Tryd.prog 28 #[.slice A h.length c, .int .i64 (i : Int)] w0 (Ret w0 G (fun v G' => SlV (Knd.int .i64) G' v (domsE h i))) := by
 refine enter Tryd.func28 rfl Tryd.ntmps28 rfl ?_
 intro Q hQ a E
 have S := St.start0 hG
 refine sr fun K hK => ?_
 refine rn 1 E S ?_; clear E S; intro a w E S
 apply hK; clear hK K
 refine sr fun K hK => ?_
 refine o_buildO (K := (Knd.int .i64)) (xs := [0]) (cs := #[.int .i64 0]) E rfl S rfl T.l59 (by kernel_rfl) ⟨rfl, rfl⟩ rfl rfl rfl (by decide) ?_; clear E S; intro oA2 oc2 oC2 w a S oH2 E
 refine rn 1 E S ?_; clear E S; intro a w E S
 apply hK; clear hK K
 refine sr fun K hK => ?_
 refine rn 2 E S ?_; clear E S; intro a w E S
 have hi4 : (i : Int).toNat < h.length := by omega
 obtain ⟨eb4, eo4, hA4, el4⟩ := Rd.at hR (List.getElem?_eq_getElem hi4); cases hA4
 rw [show h[(i : Int).toNat] = (h.getD i E0) from getD_get (i := i) hi4 _] at el4
 obtain ⟨A1_4, c1_4, A2_4, c2_4, el4, ha1_4, hr1_4, ha2_4, hr2_4⟩ := kEvt_open el4
 refine o_ixL E rfl rfl rfl T.l22 ⟨by omega, by omega⟩ ?_; clear E; intro a E
 refine o_ldIA E rfl S rfl el4 T.a52 ?_; clear E; intro a E
 refine o_allocZ E rfl S ?_; clear E S; intro B6 w a S E
 refine rn 1 E S ?_; clear E S; intro a w E S
 apply hK; clear hK K
 refine wp_seq_k (fun K7 hK6 => ?_)
 refine sr fun K hK => ?_
 refine rn 3 E S ?_; clear E S; intro a w E S
 apply hK; clear hK K
 refine cond E rfl (fun h9r => ?_) (fun h9r => ?_)
 ·have h9 := nm h9r
  refine sr fun K hK => ?_
  refine rn 1 E S ?_; clear E S; intro a w E S
  refine o_buildSl (cs := #[.int .i64 1]) [(0, _)] E rfl S rfl T.l59 (by kernel_rfl) ⟨rfl, trivial⟩ ?_; clear E S; intro B19 w a S E
  refine o_appendL (K := (Knd.int .i64)) (ys := [1]) (n := 1) E rfl S (.there (.there .here)) oH2 rfl rfl T.p59 (.here .here) rfl ⟨rfl, rfl⟩ rfl rfl (by (simp; done)) (by (simp; done)) ?_
  clear E S; intro oA10 oc10 oC10 w a S oH10 E
  refine rn 1 E S ?_; clear E S; intro a w E S
  apply hK; clear hK K
  refine wp_region_lit ?_
  refine rn 5 E S ?_; clear E S; intro a w E S
  refine o_call E rfl S rfl rfl T.g45 (c_Find9 ((h.getD i E0).model) ((h.getD i E0).op) _ _ S.sub) ?_
  clear E S; rintro _ G12 w a S hle12 ⟨vA12, vc12, rfl, hcp12, hR12⟩ E
  replace hR := hR.le hle12
  replace hr1_4 := hr1_4.le hle12
  replace hr2_4 := hr2_4.le hle12
  replace oH10 := oH10.le hle12
  refine rn 1 E S ?_; clear E S; intro a w E S
  refine o_append (K := (Knd.int .i64)) E rfl S .here oH10 rfl rfl T.p59 hR12 int_one (by (have := args_len (h.getD i E0).model (h.getD i E0).op; rw [args_doms] at this; simp only [List.length_append, List.length_cons, List.length_nil]; omega)) (by (have := args_len (h.getD i E0).model (h.getD i E0).op; rw [args_doms] at this; simp only [List.length_append, List.length_cons, List.length_nil]; omega)) ?_
  clear E S; intro oA13 oc13 oC13 w a S oH13 E
  refine rn 1 E S ?_; clear E S; intro a w E S
  refine hK6 _ _ ?_; clear hK6
  refine wp_seq_k (fun K15 hK14 => ?_)
  refine sr fun K hK => ?_
  refine rn 3 E S ?_; clear E S; intro a w E S
  apply hK; clear hK K
  refine cond E rfl (fun h17r => ?_) (fun h17r => ?_)
  ·have h17 := nm h17r
   refine sr fun K hK => ?_
   refine rn 2 E S ?_; clear E S; intro a w E S
   refine o_call E rfl S rfl rfl T.g46 (c_called h _ _ i _ _ S.sub hR (by omega) (by omega)) ?_
   clear E S; rintro _ G18 w a S hle18 ⟨A1_18, c1_18, A2_18, c2_18, rfl, ha1_18, hr1_18, ha2_18, hr2_18⟩ E
   replace hR := hR.le hle18
   replace hr1_4 := hr1_4.le hle18
   replace hr2_4 := hr2_4.le hle18
   replace hR12 := hR12.le hle18
   replace oH13 := oH13.le hle18
   refine o_allocZ E rfl S ?_; clear E S; intro B7 w a S E
   refine rn 1 E S ?_; clear E S; intro a w E S
   apply hK; clear hK K
   refine sr fun K hK => ?_
   refine rn 6 E S ?_; clear E S; intro a w E S
   refine o_call E rfl S rfl rfl T.g42 (c_Outs9 ((calledE h i).model) ((calledE h i).op) ((h.getD i E0).out) _ _ _ _ S.sub hr2_4 (by omega) hwo) ?_
   clear E S; rintro _ G20 w a S hle20 ⟨vA20, vc20, rfl, hcp20, hR20⟩ E
   replace hR := hR.le hle20
   replace hr1_4 := hr1_4.le hle20
   replace hr2_4 := hr2_4.le hle20
   replace hR12 := hR12.le hle20
   replace hr1_18 := hr1_18.le hle20
   replace hr2_18 := hr2_18.le hle20
   replace oH13 := oH13.le hle20
   refine rn 5 E S ?_; clear E S; intro a w E S
   apply hK; clear hK K
   refine wp_region_lit ?_
   refine rn 2 E S ?_; clear E S; intro a w E S
   refine o_append (K := (Knd.int .i64)) E rfl S (.there .here) oH13 rfl rfl T.p59 hR20 int_one (by (have := outs_len (calledE h i).model (calledE h i).op (h.getD i E0).out hlo; simp only [List.length_append, List.length_cons, List.length_nil]; omega)) (by (have := outs_len (calledE h i).model (calledE h i).op (h.getD i E0).out hlo; simp only [List.length_append, List.length_cons, List.length_nil]; omega)) ?_
   clear E S; intro oA22 oc22 oC22 w a S oH22 E
   refine rn 1 E S ?_; clear E S; intro a w E S
   refine hK14 _ _ ?_; clear hK14
   refine sr fun K hK => ?_
   refine rn 2 E S ?_; clear E S; intro a w E S
   apply hK; clear hK K
   have hcphR25 := oH22.cap
   obtain ⟨G24, hle26, S', hR25⟩ := X.Own.still S .here oH22; clear S; have S := S'; clear S'
   replace hR := hR.le hle26
   replace hr1_4 := hr1_4.le hle26
   replace hr2_4 := hr2_4.le hle26
   replace hR12 := hR12.le hle26
   replace hr1_18 := hr1_18.le hle26
   replace hr2_18 := hr2_18.le hle26
   replace hR20 := hR20.le hle26
   refine rt hQ E S ?_
   exfalso; omega
  ·have h17 := nm h17r
   refine wp_skip ?_
   refine hK14 _ _ ?_; clear hK14
   refine sr fun K hK => ?_
   refine rn 2 E S ?_; clear E S; intro a w E S
   apply hK; clear hK K
   have hcphR29 := oH13.cap
   obtain ⟨G28, hle30, S', hR29⟩ := X.Own.still S .here oH13; clear S; have S := S'; clear S'
   replace hR := hR.le hle30
   replace hr1_4 := hr1_4.le hle30
   replace hr2_4 := hr2_4.le hle30
   replace hR12 := hR12.le hle30
   refine rt hQ E S ?_
   have he : domsE h i = [0] ++ [1] ++ (doms (findS ((h.getD i E0).model) ((h.getD i E0).op)).1.ins) := by unfold domsE; rw [if_pos (by simpa using h9)]
   rw [he]
   exact ⟨_, _, rfl, by assumption, by assumption⟩
 ·have h9 := nm h9r
  refine wp_skip ?_
  refine hK6 _ _ ?_; clear hK6
  refine wp_seq_k (fun K32 hK31 => ?_)
  refine sr fun K hK => ?_
  refine rn 3 E S ?_; clear E S; intro a w E S
  apply hK; clear hK K
  refine cond E rfl (fun h34r => ?_) (fun h34r => ?_)
  ·have h34 := nm h34r
   refine sr fun K hK => ?_
   refine rn 2 E S ?_; clear E S; intro a w E S
   refine o_call E rfl S rfl rfl T.g46 (c_called h _ _ i _ _ S.sub hR (by omega) (by omega)) ?_
   clear E S; rintro _ G35 w a S hle35 ⟨A1_35, c1_35, A2_35, c2_35, rfl, ha1_35, hr1_35, ha2_35, hr2_35⟩ E
   replace hR := hR.le hle35
   replace hr1_4 := hr1_4.le hle35
   replace hr2_4 := hr2_4.le hle35
   replace oH2 := oH2.le hle35
   refine o_allocZ E rfl S ?_; clear E S; intro B7 w a S E
   refine rn 1 E S ?_; clear E S; intro a w E S
   apply hK; clear hK K
   refine sr fun K hK => ?_
   refine rn 6 E S ?_; clear E S; intro a w E S
   refine o_call E rfl S rfl rfl T.g42 (c_Outs9 ((calledE h i).model) ((calledE h i).op) ((h.getD i E0).out) _ _ _ _ S.sub hr2_4 (by omega) hwo) ?_
   clear E S; rintro _ G37 w a S hle37 ⟨vA37, vc37, rfl, hcp37, hR37⟩ E
   replace hR := hR.le hle37
   replace hr1_4 := hr1_4.le hle37
   replace hr2_4 := hr2_4.le hle37
   replace hr1_35 := hr1_35.le hle37
   replace hr2_35 := hr2_35.le hle37
   replace oH2 := oH2.le hle37
   refine rn 5 E S ?_; clear E S; intro a w E S
   apply hK; clear hK K
   refine wp_region_lit ?_
   refine rn 2 E S ?_; clear E S; intro a w E S
   refine o_append (K := (Knd.int .i64)) E rfl S (.there (.there .here)) oH2 rfl rfl T.p59 hR37 int_one (by (have := outs_len (calledE h i).model (calledE h i).op (h.getD i E0).out hlo; simp only [List.length_append, List.length_cons, List.length_nil]; omega)) (by (have := outs_len (calledE h i).model (calledE h i).op (h.getD i E0).out hlo; simp only [List.length_append, List.length_cons, List.length_nil]; omega)) ?_
   clear E S; intro oA39 oc39 oC39 w a S oH39 E
   refine rn 1 E S ?_; clear E S; intro a w E S
   refine hK31 _ _ ?_; clear hK31
   refine sr fun K hK => ?_
   refine rn 2 E S ?_; clear E S; intro a w E S
   apply hK; clear hK K
   have hcphR42 := oH39.cap
   obtain ⟨G41, hle43, S', hR42⟩ := X.Own.still S .here oH39; clear S; have S := S'; clear S'
   replace hR := hR.le hle43
   replace hr1_4 := hr1_4.le hle43
   replace hr2_4 := hr2_4.le hle43
   replace hr1_35 := hr1_35.le hle43
   replace hr2_35 := hr2_35.le hle43
   replace hR37 := hR37.le hle43
   refine rt hQ E S ?_
   have he : domsE h i = [0] ++ ((outsS ((calledE h i).model) ((calledE h i).op) ((h.getD i E0).out)).1) := by unfold domsE; rw [if_neg (by simpa using h9)]; rw [if_pos (by simpa using h34)]
   rw [he]
   exact ⟨_, _, rfl, by assumption, by assumption⟩
  ·have h34 := nm h34r
   refine wp_skip ?_
   refine hK31 _ _ ?_; clear hK31
   refine sr fun K hK => ?_
   refine rn 2 E S ?_; clear E S; intro a w E S
   apply hK; clear hK K
   have hcphR46 := oH2.cap
   obtain ⟨G45, hle47, S', hR46⟩ := X.Own.still S (.there .here) oH2; clear S; have S := S'; clear S'
   replace hR := hR.le hle47
   replace hr1_4 := hr1_4.le hle47
   replace hr2_4 := hr2_4.le hle47
   refine rt hQ E S ?_
   have he : domsE h i = [0] := by unfold domsE; rw [if_neg (by simpa using h9)]; rw [if_neg (by simpa using h34)]
   rw [he]
   exact ⟨_, _, rfl, by assumption, by assumption⟩

/-! `incognito/veil.Domains` -/
theorem c_Domains (h : List Evt) (A : Option Addr) (c : Nat) (w0 : World) (G : Heap) (hG : Sub G w0) (hg0 : CellsAt G 0 0 [.int .i64 3, .int .i64 1, str []]) (hg1 : CellsAt G 1 0 [.int .i64 3, .int .i64 0, str []]) (hR : Rd kEvt G A h) (hl : h.length ≤ 1000000) (hok : ∀ x ∈ h, x.Wf ∧ (rightE x = true → x.out.length ≤ 1000000)) (hal : ∀ x ∈ h, rightE x = true → x.args.length ≤ 1000000):
  Calls Tryd.prog 15 #[.slice A h.length c] w0 (Ret w0 G (fun v G' => ∃ A c, v = .tuple #[.slice A (domL h (allV h).length).length c, .agg #[.int .i64 (checkS h).1, .int .i64 (checkS h).2]] ∧ (domL h (allV h).length).length ≤ c ∧ Rd kLI G' A (domL h (allV h).length))) := by
 refine enter Tryd.func15 rfl Tryd.ntmps15 rfl ?_
 intro Q hQ a E
 have S := St.start0 hG
 refine sr fun K hK => ?_
 refine rn 1 E S ?_; clear E S; intro a w E S
 refine o_allocZ E rfl S ?_; clear E S; intro B3 w a S E
 apply hK; clear hK K
 refine sr fun K hK => ?_
 refine rn 1 E S ?_; clear E S; intro a w E S
 refine o_call E rfl S rfl rfl T.g31 (c_allV h _ _ _ _ S.sub hg0 hg1 hR (by omega) hok hal) ?_
 clear E S; rintro _ G2 w a S hle2 ⟨vA2, vc2, rfl, hcp2, hR2⟩ E
 replace hg0 := hg0.le hle2
 replace hg1 := hg1.le hle2
 replace hR := hR.le hle2
 refine rn 3 E S ?_; clear E S; intro a w E S
 refine o_allocZ E rfl S ?_; clear E S; intro B5 w a S E
 refine rn 2 E S ?_; clear E S; intro a w E S
 apply hK; clear hK K
 refine sr fun K hK => ?_
 refine rn 1 E S ?_; clear E S; intro a w E S
 apply hK; clear hK K
 refine wp_seq_k (fun K6 hK5 => ?_)
 refine sr fun K hK => ?_
 have hlv : (allV h).length ≤ h.length := allV_len h
 refine rn 3 E S ?_; clear E S; intro a w E S
 apply hK; clear hK K
 refine wp_block ?_
 replace S := S.nilChunk
 have oH9 : X.Own kLI 59 G2 none 0 ([] : List (List Int)) [] := X.Own.nil
 refine loop (fun (i : Nat) a' w' => ∃ (oA6_1 : Option Addr) (oc6_1 : Nat) (oC6_1 : Chunk), ∃ GL10, Heap.le G2 GL10 ∧ St w0 G [] GL10 w' [oC6_1, [(B5, Cells 39 [(0, .int .i64 ((checkS h).1)), (1, .int .i64 ((checkS h).2))])], [(B3, Cells 39 [(0, .int .i64 0), (1, .int .i64 0)])]] ∧ Env a' 28 [] [(3, .pointer (some ⟨B3, 0, none⟩)), (5, .pointer (some ⟨B5, 0, none⟩)), (6, .slice oA6_1 ((domL h i).length) oc6_1), (14, .slice vA2 ((allV h).length) vc2), (15, .int .i64 ((allV h).length : Int)), (16, .int .i64 (i : Int))] ∧ X.Own kLI 59 GL10 oA6_1 oc6_1 (domL h i) oC6_1 ∧ (i ≤ (allV h).length)) (fun (i : Nat) => (allV h).length - i) 0 ⟨_, _, _, _, Heap.le.refl _, S, E.cut ⟨rfl, rfl, rfl, rfl, rfl, rfl, trivial⟩, X.Own.nil (K := kLI), Nat.zero_le _⟩ ?_
 clear E S; intro i a w ⟨oA6_1, oc6_1, oC6_1, GL10, hle11, S, E, oH6_1, hi⟩
 replace hg0 := hg0.le hle11
 replace hg1 := hg1.le hle11
 replace hR := hR.le hle11
 replace hR2 := hR2.le hle11
 refine sr fun K hK => ?_
 refine rn 1 E S ?_; clear E S; intro a w E S
 apply hK; clear hK K
 refine wp_seq_k (fun K14 hK13 => ?_)
 refine cond E rfl (fun h15r => ?_) (fun h15r => ?_)
 ·have h15 := nm h15r
  refine wp_skip ?_
  refine hK13 _ _ ?_; clear hK13
  refine wp_seq_k (fun K17 hK16 => ?_)
  refine wp_block ?_
  refine sr fun K hK => ?_
  have hi18 : (i : Int).toNat < (allV h).length := by omega
  obtain ⟨eb18, eo18, hA18, el18⟩ := Rd.at hR2 (List.getElem?_eq_getElem hi18); cases hA18
  rw [show (allV h)[(i : Int).toNat] = ((allV h).getD i ⟨E0, []⟩) from getD_get (i := i) hi18 _] at el18
  obtain ⟨A1_18, c1_18, A2_18, c2_18, A3_18, c3_18, el18, ha1_18, hr1_18, ha2_18, hr2_18, ha3_18, hr3_18⟩ := kVE_open el18
  refine o_ixL E rfl rfl rfl T.l85 ⟨by omega, by omega⟩ ?_; clear E; intro a E
  refine o_ldIA E rfl S rfl el18 T.a89 ?_; clear E; intro a E
  refine o_allocZ E rfl S ?_; clear E S; intro B8 w a S E
  refine rn 1 E S ?_; clear E S; intro a w E S
  apply hK; clear hK K
  refine wp_region_lit ?_
  refine rn 3 E S ?_; clear E S; intro a w E S
  refine o_buildSl (cs := #[.slice A3_18 (((allV h).getD i ⟨E0, []⟩).ds.length) c3_18]) [(0, _)] E rfl S rfl T.l55 (by kernel_rfl) ⟨rfl, trivial⟩ ?_; clear E S; intro B23 w a S E
  have hdl := domL_len h i
  refine o_appendL (K := kLI) (ys := [((allV h).getD i ⟨E0, []⟩).ds]) (n := 1) E rfl S (.there (.there .here)) oH6_1 rfl rfl T.p55 (.here .here) rfl ⟨kLI_mk (((allV h).getD i ⟨E0, []⟩).ds) ha3_18 hr3_18, rfl⟩ rfl rfl (by (simp; omega)) (by (simp; omega)) ?_
  clear E S; intro oA20 oc20 oC20 w a S oH20 E
  refine rn 1 E S ?_; clear E S; intro a w E S
  refine hK16 _ _ ?_; clear hK16
  refine wp_region_lit ?_
  refine rn 2 E S ?_; clear E S; intro a w E S
  replace S := S.drop (M' := [_, _, _]) (sub_keep (sub_drop (sub_drop (sub_keep (sub_keep sub_nil)))))
  have hxs : ((domL h i) ++ [((allV h).getD i ⟨E0, []⟩).ds]) = domL h (i + 1) := domL_step h i
  rw [hxs] at E oH20; clear hxs
  exact ⟨i + 1, ⟨_, _, _, _, hle11, S, E.cut ⟨rfl, rfl, rfl, rfl, rfl, rfl, trivial⟩, oH20, by omega⟩, by omega⟩
 ·have h15 := nm h15r
  refine wp_exit ?_
  refine hK5 _ _ ?_; clear hK5
  refine wp_seq_k (fun K22 hK21 => ?_)
  have hcphR24 := oH6_1.cap
  obtain ⟨G23, hle25, S', hR24⟩ := X.Own.still S .here oH6_1; clear S; have S := S'; clear S'
  replace hg0 := hg0.le hle25
  replace hg1 := hg1.le hle25
  replace hR := hR.le hle25
  replace hR2 := hR2.le hle25
  replace E := E.cut (L' := [(3, .pointer (some ⟨B3, 0, none⟩)), (5, .pointer (some ⟨B5, 0, none⟩)), (6, .slice oA6_1 ((domL h i).length) oc6_1), (14, .slice vA2 ((allV h).length) vc2), (15, .int .i64 ((allV h).length : Int)), (16, .int .i64 (i : Int)), (17, .bool (decide ((i : Int) < ((allV h).length : Int))))]) ⟨rfl, rfl, rfl, rfl, rfl, rfl, rfl, trivial⟩
  refine drawnF (fun f G' w => Heap.le G23 G' ∧ St w0 G [] G' w [[(B5, Cells 39 [(0, .int .i64 ((checkS h).1)), (1, .int .i64 ((checkS h).2))])], [(B3, Cells 39 [(0, bif f 3 then .int .i64 ((checkS h).1) else .int .i64 0), (1, bif f 3 then .int .i64 ((checkS h).2) else .int .i64 0)])]]) [fun v _ => v = .slice oA6_1 ((domL h i).length) oc6_1, fun v _ => v = .agg #[.int .i64 ((checkS h).1), .int .i64 ((checkS h).2)], fun v _ => v = .slice oA6_1 ((domL h i).length) oc6_1, fun _ _ => True] [] T.mix rfl E ⟨Heap.le.refl _, S.drew⟩ rfl (by simp) (AllM.get ⟨fun _ _ _ _ h => h, fun _ _ _ _ h => h, fun _ _ _ _ h => h, fun _ _ _ _ h => h, trivial⟩) ⟨?_, ?_, ?_, ?_, trivial⟩ ?_
  ·intro a w G1 f hcl hfi hon hW E hp hO; obtain ⟨hl, S⟩ := hW
   refine o_move E rfl rfl ?_; clear E; intro a E
   exact ⟨_, _, Heap.le.refl _, ⟨hl, S⟩, fun d hd => (by cases hd; exact E.get _ _ rfl), E.defers, rfl⟩
  ·intro a w G1 f hcl hfi hon hW E hp hO; obtain ⟨hl, S⟩ := hW
   refine o_ldA E rfl S rfl T.a39 (.here .here) rfl ?_; clear E; intro a E
   exact ⟨_, _, Heap.le.refl _, ⟨hl, S⟩, fun d hd => (by cases hd; exact E.get _ _ rfl), E.defers, rfl⟩
  ·intro a w G1 f hcl hfi hon hW E hp hO; obtain ⟨hl, S⟩ := hW
   obtain ⟨_, e0, rfl⟩ := hp 0 26 _ (hon 0 rfl) rfl rfl; replace E := E.add e0
   refine o_assign E rfl rfl ?_; clear E; intro a E
   exact ⟨_, _, Heap.le.refl _, ⟨hl, S⟩, fun d hd => (by cases hd; exact E.get _ _ rfl), E.defers, rfl⟩
  ·intro a w G1 f hcl hfi hon hW E hp hO; obtain ⟨hl, S⟩ := hW
   obtain ⟨_, e1, rfl⟩ := hp 1 27 _ (hon 1 rfl) rfl rfl; replace E := E.add e1
   refine o_stA E S rfl rfl rfl T.a39 (.there (.here .here)) rfl ?_; clear S; intro w S
   replace S := S.conv (L2 := [(0, _), (1, _)]) (.there (.here .here)) ⟨rfl, rfl, trivial⟩
   exact ⟨.bool true, _, Heap.le.refl _, ⟨hl, S⟩, fun d hd => (by cases hd), E.defers, trivial⟩
  clear E S; intro a w G26 f hle27 hall HW E hp; obtain ⟨_, S⟩ := HW
  have hfw3 := hall 3 (by decide)
  simp only [hfw3, cond_true] at S
  replace hg0 := hg0.le hle27
  replace hg1 := hg1.le hle27
  replace hR := hR.le hle27
  replace hR2 := hR2.le hle27
  replace hR24 := hR24.le hle27
  obtain ⟨_, e2, rfl⟩ := hp 2 2 _ rfl rfl; replace E := E.add e2
  clear hp hall
  refine hK21 _ _ ?_; clear hK21
  refine rt hQ E S ?_
  have hi9 : i = (allV h).length := by omega
  subst hi9
  exact ⟨_, _, rfl, by assumption, by assumption⟩
end Go.Proofs.YtnfadpkhjfillaaDoor.T28
