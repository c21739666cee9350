/- EventRight walked. -/
import Derived.Test.YtiinipcmghhacaaGreatDoorZF7
set_option linter.unusedVariables false
set_option linter.unusedSimpArgs false
namespace Go.Proofs.YtiinipcmghhacaaGreatDoor.T10
open Go Go.Proofs.YtiinipcmghhacaaGreatDoor.X
theorem T.g10 : goFn Tryz.prog 10 = true := by kernel_rfl
theorem T.g5 : goFn Tryz.prog 5 = true := by kernel_rfl
theorem T.g6 : goFn Tryz.prog 6 = true := by kernel_rfl
theorem T.g9 : goFn Tryz.prog 9 = true := by kernel_rfl
/-! `incognito/incognitolaw10.EventRight` -/
set_option maxRecDepth 100000 in
set_option maxHeartbeats 4000000 in
theorem law_EventRight (e : Evt) (A1e : Option Addr) (c1e : Nat) (A2e : Option Addr) (c2e : Nat) (w0 : World) (G : Heap) (hG : Sub G w0) (m8 : Int) (h8 : CellsAt G 5 0 [.int .i64 m8]) (hg0 : CellsAt G 1 0 [.int .i64 3, .int .i64 1, str []]) (hg1 : CellsAt G 2 0 [.int .i64 3, .int .i64 0, str []]) (hgm : CellsAt G 3 0 [str [], str [114, 101, 103], str [99, 97, 115], str [115, 101, 116], str [109, 97, 112], str [102, 105, 102, 111], str [115, 116, 97, 99, 107], str [108, 111, 99, 107], str [99, 111, 117, 110, 116], str [109, 97, 120], str [111, 109, 97, 112]]) (hgo : CellsAt G 4 0 [str [], str [119, 114, 105, 116, 101], str [114, 101, 97, 100], str [115, 119, 97, 112], str [97, 100, 100], str [100, 101, 108], str [104, 97, 115], str [112, 117, 116], str [103, 101, 116], str [112, 117, 115, 104], str [112, 111, 112], str [116, 97, 107, 101], str [102, 114, 101, 101], str [115, 99, 97, 110]]) (hgn : CellsAt G 0 0 [str [], str [105, 110, 118, 111, 107, 101], str [111, 107], str [102, 97, 105, 108], str [105, 110, 102, 111]]) (hT : TabG G 6 .u64 Lib.pow10Tab) (hr1e : Rd kVal G A1e e.args) (hr2e : Rd kVal G A2e e.out) (hwe : e.Wf):
  Calls Tryz.prog 3 #[.agg #[.int .i64 e.time, .int .i64 e.client.k, .int .i64 e.client.n, str e.client.s, .int .i64 e.type, .int .i64 e.model, .int .i64 e.key.k, .int .i64 e.key.n, str e.key.s, .int .i64 e.op, .slice A1e e.args.length c1e, .slice A2e e.out.length c2e, .bool e.noted, str e.note]] w0 (Ret w0 G (fun v _ => v = .bool true)) := by
 have hla := hwe.argsLen
 have hlo2 := hwe.outLen
 have hlo9 : greatE e = false → rightE e = true → e.out.length ≤ 1000000 := fun h1 h2 => by have := great_out h2 h1; omega
 refine enter Tryz.func3 rfl Tryz.ntmps3 rfl ?_
 intro Q hQ a HE
 have HS := St.start0 hG
 refine sr fun K hK => ?_
 refine o_bx14 HE rfl HS rfl ?_; clear HE HS; intro B1 w a HS HE
 refine rn 1 HE HS ?_; clear HE HS; intro a w HE HS
 apply hK; clear hK K
 refine wp_seq_k (fun K3 hK2 => ?_)
 refine sr fun K hK => ?_
 refine o_callP HE rfl HS rfl rfl T.g5 (c_wakes10 _ _ HS.sub m8 h8 hg0 hg1 hgm hgo hgn) ?_
 clear HE HS; rintro _ w a HS rfl HE
 refine rn 1 HE HS ?_; clear HE HS; intro a w HE HS
 apply hK; clear hK K
 refine cond HE rfl (fun h5r => ?_) (fun h5r => ?_)
 ·have h5 := nm h5r
  refine sr fun K hK => ?_
  refine rn 1 HE HS ?_; clear HE HS; intro a w HE HS
  apply hK; clear hK K
  refine rt hQ HE HS ?_
  exact absurd h5r (by decide)
 ·have h5 := nm h5r
  refine wp_skip ?_
  refine hK2 _ _ ?_; clear hK2
  refine wp_seq_k (fun K8 hK7 => ?_)
  replace HE := HE.cut (L' := [(0, .agg #[.int .i64 e.time, .int .i64 e.client.k, .int .i64 e.client.n, str e.client.s, .int .i64 e.type, .int .i64 e.model, .int .i64 e.key.k, .int .i64 e.key.n, str e.key.s, .int .i64 e.op, .slice A1e e.args.length c1e, .slice A2e e.out.length c2e, .bool e.noted, str e.note]), (1, .pointer (some ⟨B1, 0, none⟩)), (3, .bool true), (4, .bool (!true))]) ⟨rfl, rfl, rfl, rfl, trivial⟩
  refine drawnP [fun v => v = .agg #[.int .i64 e.time, .int .i64 e.client.k, .int .i64 e.client.n, str e.client.s, .int .i64 e.type, .int .i64 e.model, .int .i64 e.key.k, .int .i64 e.key.n, str e.key.s, .int .i64 e.op, .slice A1e e.args.length c1e, .slice A2e e.out.length c2e, .bool e.noted, str e.note], fun v => v = .bool (greatE e), fun v => v = .bool (greatE e), fun v => (greatE e) = false → v = .agg #[.int .i64 e.time, .int .i64 e.client.k, .int .i64 e.client.n, str e.client.s, .int .i64 e.type, .int .i64 e.model, .int .i64 e.key.k, .int .i64 e.key.n, str e.key.s, .int .i64 e.op, .slice A1e e.args.length c1e, .slice A2e e.out.length c2e, .bool e.noted, str e.note], fun v => (greatE e) = false → v = .bool (rightE e), fun v => (greatE e) = false → v = .agg #[.int .i64 e.time, .int .i64 e.client.k, .int .i64 e.client.n, str e.client.s, .int .i64 e.type, .int .i64 e.model, .int .i64 e.key.k, .int .i64 e.key.n, str e.key.s, .int .i64 e.op, .slice A1e e.args.length c1e, .slice A2e e.out.length c2e, .bool e.noted, str e.note], fun v => (greatE e) = false → v = .bool (rightE e), fun v => (greatE e) = false → v = .bool ((rightE e) == (rightE e)), fun v => ((greatE e) = false → v = .bool ((rightE e) == (rightE e))) ∧ ((greatE e) = true → v = undef), fun v => (greatE e) = false → ((rightE e) == (rightE e)) = true → v = .agg #[.int .i64 e.time, .int .i64 e.client.k, .int .i64 e.client.n, str e.client.s, .int .i64 e.type, .int .i64 e.model, .int .i64 e.key.k, .int .i64 e.key.n, str e.key.s, .int .i64 e.op, .slice A1e e.args.length c1e, .slice A2e e.out.length c2e, .bool e.noted, str e.note], fun v => (greatE e) = false → ((rightE e) == (rightE e)) = true → v = str (printE e), fun v => (greatE e) = false → ((rightE e) == (rightE e)) = true → v = .agg #[.int .i64 e.time, .int .i64 e.client.k, .int .i64 e.client.n, str e.client.s, .int .i64 e.type, .int .i64 e.model, .int .i64 e.key.k, .int .i64 e.key.n, str e.key.s, .int .i64 e.op, .slice A1e e.args.length c1e, .slice A2e e.out.length c2e, .bool e.noted, str e.note], fun v => (greatE e) = false → ((rightE e) == (rightE e)) = true → v = str (printE e), fun v => (greatE e) = false → ((rightE e) == (rightE e)) = true → v = .bool ((printE e) == (printE e)), fun v => (greatE e) = false → v = .bool (((rightE e) == (rightE e)) && ((printE e) == (printE e))), fun v => v = .bool ((greatE e) || (((rightE e) == (rightE e)) && ((printE e) == (printE e)))), fun v => v = .bool ((greatE e) || (((rightE e) == (rightE e)) && ((printE e) == (printE e))))] T.mix rfl HE HS rfl ⟨?_, ?_, ?_, ?_, ?_, ?_, ?_, ?_, ?_, ?_, ?_, ?_, ?_, ?_, ?_, ?_, ?_, trivial⟩ ?_
  ·intro a w G1 hl HS HE hp
   refine o_ldA HE rfl HS rfl T.a26 (.here .here) rfl ?_; clear HE; intro a HE
   exact ⟨_, _, HS, rfl, HE.get _ _ rfl, HE.defers, rfl⟩
  ·intro a w G1 hl HS HE hp
   obtain ⟨_, e0, rfl⟩ := hp 0 5 _ rfl rfl rfl; replace HE := HE.add e0
   refine o_callP HE rfl HS rfl rfl T.g6 (c_Great e _ _ _ _ _ _ HS.sub (hr1e.le hl) (hr2e.le hl) (by first | assumption | exact hwe)) ?_
   clear HE HS; rintro _ w a HS rfl HE
   exact ⟨_, _, HS, rfl, HE.get _ _ rfl, HE.defers, rfl⟩
  ·intro a w G1 hl HS HE hp
   obtain ⟨_, e1, rfl⟩ := hp 1 6 _ rfl rfl rfl; replace HE := HE.add e1
   refine o_move HE rfl rfl ?_; clear HE; intro a HE
   exact ⟨_, _, HS, rfl, HE.get _ _ rfl, HE.defers, rfl⟩
  ·intro a w G1 hl HS HE hp
   obtain ⟨_, eg, rfl⟩ := hp 2 7 _ rfl rfl rfl; replace HE := HE.add eg
   refine (Bool.eq_false_or_eq_true (greatE e)).elim (fun hb => ?_) (fun hb => ?_)
   ·skip
    refine g_off HE rfl rfl rfl hb ?_; clear HE; intro a HE
    exact ⟨_, _, HS, rfl, HE.get _ _ rfl, HE.defers, fun h => absurd (hb.symm.trans h) (by decide)⟩
   ·skip
    refine op_on HE rfl rfl hb ?_
    refine o_ldA HE rfl HS rfl T.a26 (.here .here) rfl ?_; clear HE; intro a HE
    exact ⟨_, _, HS, rfl, HE.get _ _ rfl, HE.defers, fun _ => rfl⟩
  ·intro a w G1 hl HS HE hp
   obtain ⟨_, eg, rfl⟩ := hp 2 7 _ rfl rfl rfl; replace HE := HE.add eg
   refine (Bool.eq_false_or_eq_true (greatE e)).elim (fun hb => ?_) (fun hb => ?_)
   ·skip
    refine g_off HE rfl rfl rfl hb ?_; clear HE; intro a HE
    exact ⟨_, _, HS, rfl, HE.get _ _ rfl, HE.defers, fun h => absurd (hb.symm.trans h) (by decide)⟩
   ·skip
    obtain ⟨_, e3, h3v⟩ := hp 3 8 _ rfl rfl rfl; cases h3v hb; replace HE := HE.add e3
    refine op_on HE rfl rfl hb ?_
    refine o_callP HE rfl HS rfl rfl T.g7 (c_rightE e _ _ _ _ _ _ HS.sub (hg0.le hl) (hg1.le hl) (hr1e.le hl) (hr2e.le hl) (by first | assumption | exact hwe)) ?_
    clear HE HS; rintro _ w a HS rfl HE
    exact ⟨_, _, HS, rfl, HE.get _ _ rfl, HE.defers, fun _ => rfl⟩
  ·intro a w G1 hl HS HE hp
   obtain ⟨_, eg, rfl⟩ := hp 2 7 _ rfl rfl rfl; replace HE := HE.add eg
   refine (Bool.eq_false_or_eq_true (greatE e)).elim (fun hb => ?_) (fun hb => ?_)
   ·skip
    refine g_off HE rfl rfl rfl hb ?_; clear HE; intro a HE
    exact ⟨_, _, HS, rfl, HE.get _ _ rfl, HE.defers, fun h => absurd (hb.symm.trans h) (by decide)⟩
   ·skip
    refine op_on HE rfl rfl hb ?_
    refine o_ldA HE rfl HS rfl T.a26 (.here .here) rfl ?_; clear HE; intro a HE
    exact ⟨_, _, HS, rfl, HE.get _ _ rfl, HE.defers, fun _ => rfl⟩
  ·intro a w G1 hl HS HE hp
   obtain ⟨_, eg, rfl⟩ := hp 2 7 _ rfl rfl rfl; replace HE := HE.add eg
   refine (Bool.eq_false_or_eq_true (greatE e)).elim (fun hb => ?_) (fun hb => ?_)
   ·skip
    refine g_off HE rfl rfl rfl hb ?_; clear HE; intro a HE
    exact ⟨_, _, HS, rfl, HE.get _ _ rfl, HE.defers, fun h => absurd (hb.symm.trans h) (by decide)⟩
   ·skip
    obtain ⟨_, e5, h5v⟩ := hp 5 10 _ rfl rfl rfl; cases h5v hb; replace HE := HE.add e5
    refine op_on HE rfl rfl hb ?_
    refine o_callP HE rfl HS rfl rfl T.g8 (c_RightR e _ _ _ _ _ _ HS.sub (hr1e.le hl) (hr2e.le hl) (by first | assumption | exact hwe)) ?_
    clear HE HS; rintro _ w a HS rfl HE
    exact ⟨_, _, HS, rfl, HE.get _ _ rfl, HE.defers, fun _ => rfl⟩
  ·intro a w G1 hl HS HE hp
   obtain ⟨_, eg, rfl⟩ := hp 2 7 _ rfl rfl rfl; replace HE := HE.add eg
   refine (Bool.eq_false_or_eq_true (greatE e)).elim (fun hb => ?_) (fun hb => ?_)
   ·skip
    refine g_off HE rfl rfl rfl hb ?_; clear HE; intro a HE
    exact ⟨_, _, HS, rfl, HE.get _ _ rfl, HE.defers, fun h => absurd (hb.symm.trans h) (by decide)⟩
   ·skip
    obtain ⟨_, e4, h4v⟩ := hp 4 9 _ rfl rfl rfl; cases h4v hb; replace HE := HE.add e4
    obtain ⟨_, e6, h6v⟩ := hp 6 11 _ rfl rfl rfl; cases h6v hb; replace HE := HE.add e6
    refine op_on HE rfl rfl hb ?_
    refine o_eqB HE rfl rfl rfl Tryz.underlying4 ?_; clear HE; intro a HE
    exact ⟨_, _, HS, rfl, HE.get _ _ rfl, HE.defers, fun _ => rfl⟩
  ·intro a w G1 hl HS HE hp
   obtain ⟨_, eg, rfl⟩ := hp 2 7 _ rfl rfl rfl; replace HE := HE.add eg
   refine (Bool.eq_false_or_eq_true (greatE e)).elim (fun hb => ?_) (fun hb => ?_)
   ·skip
    refine g_off HE rfl rfl rfl hb ?_; clear HE; intro a HE
    exact ⟨_, _, HS, rfl, HE.get _ _ rfl, HE.defers, ⟨fun h => absurd (hb.symm.trans h) (by decide), fun _ => rfl⟩⟩
   ·skip
    obtain ⟨_, e7, h7v⟩ := hp 7 12 _ rfl rfl rfl; cases h7v hb; replace HE := HE.add e7
    refine op_on HE rfl rfl hb ?_
    refine o_move HE rfl rfl ?_; clear HE; intro a HE
    exact ⟨_, _, HS, rfl, HE.get _ _ rfl, HE.defers, ⟨fun _ => rfl, fun h => absurd (hb.symm.trans h) (by decide)⟩⟩
  ·intro a w G1 hl HS HE hp
   obtain ⟨_, eg, hgv⟩ := hp 8 13 _ rfl rfl rfl
   refine (Bool.eq_false_or_eq_true (greatE e)).elim (fun hbo => ?_) (fun hbo => ?_)
   ·skip
    cases hgv.2 hbo; replace HE := HE.add eg
    refine g_offu HE rfl rfl rfl ?_; clear HE; intro a HE
    exact ⟨_, _, HS, rfl, HE.get _ _ rfl, HE.defers, fun h _ => absurd (hbo.symm.trans h) (by decide)⟩
   ·skip
    cases hgv.1 hbo; replace HE := HE.add eg
    refine (Bool.eq_false_or_eq_true ((rightE e) == (rightE e))).elim (fun hb => ?_) (fun hb => ?_)
    ·skip
     refine op_on HE rfl rfl hb ?_
     refine o_ldA HE rfl HS rfl T.a26 (.here .here) rfl ?_; clear HE; intro a HE
     exact ⟨_, _, HS, rfl, HE.get _ _ rfl, HE.defers, fun _ _ => rfl⟩
    ·skip
     refine g_off HE rfl rfl rfl hb ?_; clear HE; intro a HE
     exact ⟨_, _, HS, rfl, HE.get _ _ rfl, HE.defers, fun _ h => absurd (hb.symm.trans h) (by decide)⟩
  ·intro a w G1 hl HS HE hp
   obtain ⟨_, eg, hgv⟩ := hp 8 13 _ rfl rfl rfl
   refine (Bool.eq_false_or_eq_true (greatE e)).elim (fun hbo => ?_) (fun hbo => ?_)
   ·skip
    cases hgv.2 hbo; replace HE := HE.add eg
    refine g_offu HE rfl rfl rfl ?_; clear HE; intro a HE
    exact ⟨_, _, HS, rfl, HE.get _ _ rfl, HE.defers, fun h _ => absurd (hbo.symm.trans h) (by decide)⟩
   ·skip
    cases hgv.1 hbo; replace HE := HE.add eg
    refine (Bool.eq_false_or_eq_true ((rightE e) == (rightE e))).elim (fun hb => ?_) (fun hb => ?_)
    ·skip
     obtain ⟨_, e9, h9v⟩ := hp 9 14 _ rfl rfl rfl; cases h9v hbo hb; replace HE := HE.add e9
     refine op_on HE rfl rfl hb ?_
     refine o_callP HE rfl HS rfl rfl T.g9 (c_PrintE e _ _ _ _ _ _ HS.sub (hg0.le hl) (hg1.le hl) (hgm.le hl) (hgo.le hl) (hgn.le hl) (hT.le hl) (hr1e.le hl) (hr2e.le hl) hwe (hlo9 hbo)) ?_
     clear HE HS; rintro _ w a HS rfl HE
     exact ⟨_, _, HS, rfl, HE.get _ _ rfl, HE.defers, fun _ _ => rfl⟩
    ·skip
     refine g_off HE rfl rfl rfl hb ?_; clear HE; intro a HE
     exact ⟨_, _, HS, rfl, HE.get _ _ rfl, HE.defers, fun _ h => absurd (hb.symm.trans h) (by decide)⟩
  ·intro a w G1 hl HS HE hp
   obtain ⟨_, eg, hgv⟩ := hp 8 13 _ rfl rfl rfl
   refine (Bool.eq_false_or_eq_true (greatE e)).elim (fun hbo => ?_) (fun hbo => ?_)
   ·skip
    cases hgv.2 hbo; replace HE := HE.add eg
    refine g_offu HE rfl rfl rfl ?_; clear HE; intro a HE
    exact ⟨_, _, HS, rfl, HE.get _ _ rfl, HE.defers, fun h _ => absurd (hbo.symm.trans h) (by decide)⟩
   ·skip
    cases hgv.1 hbo; replace HE := HE.add eg
    refine (Bool.eq_false_or_eq_true ((rightE e) == (rightE e))).elim (fun hb => ?_) (fun hb => ?_)
    ·skip
     refine op_on HE rfl rfl hb ?_
     refine o_ldA HE rfl HS rfl T.a26 (.here .here) rfl ?_; clear HE; intro a HE
     exact ⟨_, _, HS, rfl, HE.get _ _ rfl, HE.defers, fun _ _ => rfl⟩
    ·skip
     refine g_off HE rfl rfl rfl hb ?_; clear HE; intro a HE
     exact ⟨_, _, HS, rfl, HE.get _ _ rfl, HE.defers, fun _ h => absurd (hb.symm.trans h) (by decide)⟩
  ·intro a w G1 hl HS HE hp
   obtain ⟨_, eg, hgv⟩ := hp 8 13 _ rfl rfl rfl
   refine (Bool.eq_false_or_eq_true (greatE e)).elim (fun hbo => ?_) (fun hbo => ?_)
   ·skip
    cases hgv.2 hbo; replace HE := HE.add eg
    refine g_offu HE rfl rfl rfl ?_; clear HE; intro a HE
    exact ⟨_, _, HS, rfl, HE.get _ _ rfl, HE.defers, fun h _ => absurd (hbo.symm.trans h) (by decide)⟩
   ·skip
    cases hgv.1 hbo; replace HE := HE.add eg
    refine (Bool.eq_false_or_eq_true ((rightE e) == (rightE e))).elim (fun hb => ?_) (fun hb => ?_)
    ·skip
     obtain ⟨_, e11, h11v⟩ := hp 11 16 _ rfl rfl rfl; cases h11v hbo hb; replace HE := HE.add e11
     refine op_on HE rfl rfl hb ?_
     refine o_callP HE rfl HS rfl rfl T.g10 (c_PrintR e _ _ _ _ _ _ HS.sub (hg0.le hl) (hg1.le hl) (hgm.le hl) (hgo.le hl) (hgn.le hl) (hT.le hl) (hr1e.le hl) (hr2e.le hl) hwe (hlo9 hbo)) ?_
     clear HE HS; rintro _ w a HS rfl HE
     exact ⟨_, _, HS, rfl, HE.get _ _ rfl, HE.defers, fun _ _ => rfl⟩
    ·skip
     refine g_off HE rfl rfl rfl hb ?_; clear HE; intro a HE
     exact ⟨_, _, HS, rfl, HE.get _ _ rfl, HE.defers, fun _ h => absurd (hb.symm.trans h) (by decide)⟩
  ·intro a w G1 hl HS HE hp
   obtain ⟨_, eg, hgv⟩ := hp 8 13 _ rfl rfl rfl
   refine (Bool.eq_false_or_eq_true (greatE e)).elim (fun hbo => ?_) (fun hbo => ?_)
   ·skip
    cases hgv.2 hbo; replace HE := HE.add eg
    refine g_offu HE rfl rfl rfl ?_; clear HE; intro a HE
    exact ⟨_, _, HS, rfl, HE.get _ _ rfl, HE.defers, fun h _ => absurd (hbo.symm.trans h) (by decide)⟩
   ·skip
    cases hgv.1 hbo; replace HE := HE.add eg
    refine (Bool.eq_false_or_eq_true ((rightE e) == (rightE e))).elim (fun hb => ?_) (fun hb => ?_)
    ·skip
     obtain ⟨_, e10, h10v⟩ := hp 10 15 _ rfl rfl rfl; cases h10v hbo hb; replace HE := HE.add e10
     obtain ⟨_, e12, h12v⟩ := hp 12 17 _ rfl rfl rfl; cases h12v hbo hb; replace HE := HE.add e12
     refine op_on HE rfl rfl hb ?_
     refine o_eqS HE rfl rfl rfl ?_; clear HE; intro a HE
     exact ⟨_, _, HS, rfl, HE.get _ _ rfl, HE.defers, fun _ _ => rfl⟩
    ·skip
     refine g_off HE rfl rfl rfl hb ?_; clear HE; intro a HE
     exact ⟨_, _, HS, rfl, HE.get _ _ rfl, HE.defers, fun _ h => absurd (hb.symm.trans h) (by decide)⟩
  ·intro a w G1 hl HS HE hp
   obtain ⟨_, eg, rfl⟩ := hp 2 7 _ rfl rfl rfl; replace HE := HE.add eg
   refine (Bool.eq_false_or_eq_true (greatE e)).elim (fun hg => ?_) (fun hg => ?_)
   ·skip
    refine g_off HE rfl rfl rfl hg ?_; clear HE; intro a HE
    exact ⟨_, _, HS, rfl, HE.get _ _ rfl, HE.defers, fun h => absurd (hg.symm.trans h) (by decide)⟩
   ·skip
    refine op_on HE rfl rfl hg ?_
    obtain ⟨_, e8, h8v⟩ := hp 8 13 _ rfl rfl rfl; cases h8v.1 hg; replace HE := HE.add e8
    refine (Bool.eq_false_or_eq_true ((rightE e) == (rightE e))).elim (fun hb => ?_) (fun hb => ?_)
    ·skip
     obtain ⟨_, e13, h13v⟩ := hp 13 18 _ rfl rfl rfl; cases h13v hg hb; replace HE := HE.add e13
     refine o_pick_t HE rfl rfl hb rfl ?_; clear HE; intro a HE
     exact ⟨_, _, HS, rfl, HE.get _ _ rfl, HE.defers, fun _ => by rw [hb]; rfl⟩
    ·skip
     refine o_pick_f HE rfl rfl hb rfl ?_; clear HE; intro a HE
     exact ⟨_, _, HS, rfl, HE.get _ _ rfl, HE.defers, fun _ => by rw [hb]; rfl⟩
  ·intro a w G1 hl HS HE hp
   obtain ⟨_, e2, rfl⟩ := hp 2 7 _ rfl rfl rfl; replace HE := HE.add e2
   refine (Bool.eq_false_or_eq_true (greatE e)).elim (fun hb => ?_) (fun hb => ?_)
   ·skip
    refine o_pick_t HE rfl rfl hb rfl ?_; clear HE; intro a HE
    exact ⟨_, _, HS, rfl, HE.get _ _ rfl, HE.defers, by rw [hb]; rfl⟩
   ·skip
    obtain ⟨_, e14, h14v⟩ := hp 14 19 _ rfl rfl rfl; cases h14v hb; replace HE := HE.add e14
    refine o_pick_f HE rfl rfl hb rfl ?_; clear HE; intro a HE
    exact ⟨_, _, HS, rfl, HE.get _ _ rfl, HE.defers, by rw [hb]; rfl⟩
  ·intro a w G1 hl HS HE hp
   obtain ⟨_, e15, rfl⟩ := hp 15 20 _ rfl rfl rfl; replace HE := HE.add e15
   refine o_assign HE rfl rfl ?_; clear HE; intro a HE
   exact ⟨_, _, HS, rfl, HE.get _ _ rfl, HE.defers, rfl⟩
  clear HE HS; intro a w HS HE hp
  obtain ⟨_, e16, rfl⟩ := hp 16 2 _ rfl rfl; replace HE := HE.add e16
  clear hp
  refine hK7 _ _ ?_; clear hK7
  refine rt hQ HE HS ?_
  show _ = _
  simp only [packed, Value.bool.injEq]
  simp
end Go.Proofs.YtiinipcmghhacaaGreatDoor.T10
