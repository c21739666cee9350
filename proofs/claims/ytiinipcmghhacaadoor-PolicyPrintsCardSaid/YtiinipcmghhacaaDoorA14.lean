/- policy.Print walked, with its law. -/
import Derived.Test.YtiinipcmghhacaaDoorA13
import Derived.Test.YtiinipcmghhacaaDoorL27
set_option linter.unusedVariables false
set_option linter.unusedSimpArgs false
namespace Go.Proofs.YtiinipcmghhacaaDoor.T10.E
open Go Go.Proofs.YtiinipcmghhacaaDoor.X Go.Proofs.YtiinipcmghhacaaDoor.T10
theorem T.Q26 : flatG Tryd.prog 26 = some [.int .i64, .int .i64, .int .i64, .int .i64, .int .i64, .int .i64, .int .i64, .int .i64, .int .i64, .int .i64, .int .i64, .int .i64, .bool, .bool] := by kernel_rfl
instance : LZ Tryd.prog 23 [(0, .int .i64 0), (1, .int .i64 0)] := ⟨⟨.agg #[.int .i64 0, .int .i64 0], by kernel_rfl, ⟨rfl, rfl, trivial⟩⟩⟩
instance : LZ Tryd.prog 26 [(0, .int .i64 0), (1, .int .i64 0), (2, .int .i64 0), (3, .int .i64 0), (4, .int .i64 0), (5, .int .i64 0), (6, .int .i64 0), (7, .int .i64 0), (8, .int .i64 0), (9, .int .i64 0), (10, .int .i64 0), (11, .int .i64 0), (12, .bool false), (13, .bool false)] := ⟨⟨.agg #[.int .i64 0, .int .i64 0, .int .i64 0, .int .i64 0, .int .i64 0, .int .i64 0, .int .i64 0, .int .i64 0, .int .i64 0, .int .i64 0, .int .i64 0, .int .i64 0, .bool false, .bool false], by kernel_rfl, ⟨rfl, rfl, rfl, rfl, rfl, rfl, rfl, rfl, rfl, rfl, rfl, rfl, rfl, rfl, trivial⟩⟩⟩
instance : LZ Tryd.prog 33 [(0, .int .i64 0), (1, .int .i64 0)] := ⟨⟨.agg #[.int .i64 0, .int .i64 0], by kernel_rfl, ⟨rfl, rfl, trivial⟩⟩⟩
theorem T.a23 : aggSz Tryd.prog 23 = some 2 := by kernel_rfl
instance : AG Tryd.prog 23 2 := ⟨T.a23⟩
theorem T.a24 : aggSz Tryd.prog 24 = some 10 := by kernel_rfl
instance : AG Tryd.prog 24 10 := ⟨T.a24⟩
theorem T.a26 : aggSz Tryd.prog 26 = some 14 := by kernel_rfl
instance : AG Tryd.prog 26 14 := ⟨T.a26⟩
theorem T.a33 : aggSz Tryd.prog 33 = some 2 := by kernel_rfl
instance : AG Tryd.prog 33 2 := ⟨T.a33⟩
theorem T.f23_0 : fieldOff Tryd.prog 23 0 = some 0 := by kernel_rfl
instance : FO Tryd.prog 23 0 0 := ⟨T.f23_0⟩
theorem T.f23_1 : fieldOff Tryd.prog 23 1 = some 1 := by kernel_rfl
instance : FO Tryd.prog 23 1 1 := ⟨T.f23_1⟩
theorem T.f26_0 : fieldOff Tryd.prog 26 0 = some 0 := by kernel_rfl
instance : FO Tryd.prog 26 0 0 := ⟨T.f26_0⟩
theorem T.f26_1 : fieldOff Tryd.prog 26 1 = some 10 := by kernel_rfl
instance : FO Tryd.prog 26 1 10 := ⟨T.f26_1⟩
theorem T.f26_2 : fieldOff Tryd.prog 26 2 = some 11 := by kernel_rfl
instance : FO Tryd.prog 26 2 11 := ⟨T.f26_2⟩
theorem T.f26_3 : fieldOff Tryd.prog 26 3 = some 12 := by kernel_rfl
instance : FO Tryd.prog 26 3 12 := ⟨T.f26_3⟩
theorem T.f26_4 : fieldOff Tryd.prog 26 4 = some 13 := by kernel_rfl
instance : FO Tryd.prog 26 4 13 := ⟨T.f26_4⟩
theorem T.g14 : goFn Tryd.prog 14 = true := by kernel_rfl
theorem T.g15 : goFn Tryd.prog 15 = true := by kernel_rfl
theorem T.g16 : goFn Tryd.prog 16 = true := by kernel_rfl
theorem T.g17 : goFn Tryd.prog 17 = true := by kernel_rfl
theorem T.g19 : goFn Tryd.prog 19 = true := by kernel_rfl
theorem T.g20 : goFn Tryd.prog 20 = true := by kernel_rfl
theorem T.g42 : goFn Tryd.prog 42 = true := by kernel_rfl
theorem T.g43 : goFn Tryd.prog 43 = true := by kernel_rfl
theorem T.g44 : goFn Tryd.prog 44 = true := by kernel_rfl
theorem T.g45 : goFn Tryd.prog 45 = true := by kernel_rfl
theorem T.g80 : goFn Tryd.prog 80 = true := by kernel_rfl
theorem T.mix : Tryd.prog.follows .mixedOrders = true := by kernel_rfl
theorem T.q33 : flatT Tryd.prog 33 = some [.int .i64, .int .i64] := by kernel_rfl
theorem T.r24 : arrOf Tryd.prog 24 = some (5, 2) := by kernel_rfl
theorem T.r86 : arrOf Tryd.prog 86 = some (5, 1) := by kernel_rfl
theorem T.s3 : scal Tryd.prog 3 = true := by kernel_rfl
instance : SC Tryd.prog 3 := ⟨T.s3⟩
theorem T.s4 : scal Tryd.prog 4 = true := by kernel_rfl
instance : SC Tryd.prog 4 := ⟨T.s4⟩
theorem T.s9 : scal Tryd.prog 9 = true := by kernel_rfl
instance : SC Tryd.prog 9 := ⟨T.s9⟩
theorem gPow : Tryd.prog.globalNamed "internal/strconv.uint64pow10" = some 7 := by kernel_rfl

def preP (p : Pol) (i : Nat) : Bs := ((List.range i).map (sLine p)).flatMap (· ++ [10])
theorem pre_zero (p : Pol) : preP p 0 = [] := rfl
theorem pre_step {p : Pol} {i : Nat} (h : i < 5) : preP p (i + 1) = preP p i ++ (saidS (i : Int) (ruleAt p i) ++ [10]) := by
  unfold preP
  rw [List.range_succ, List.map_append, List.flatMap_append]
  have : sLine p i = saidS (i : Int) (ruleAt p i) := by unfold sLine; rw [if_neg (by omega), if_neg (by omega), if_neg (by omega), if_neg (by omega)]
  simp [this]
theorem pre_len {p : Pol} (hp : rightB p = true) : ∀ {i : Nat}, i ≤ 5 → (preP p i).length ≤ 41 * i
  | 0, _ => by simp [pre_zero]
  | i + 1, h => by
    have ih := pre_len hp (i := i) (by omega)
    have h1 := (sLine_plain hp (keys_7 p i (by omega))).2.1
    have : sLine p i = saidS (i : Int) (ruleAt p i) := by unfold sLine; rw [if_neg (by omega), if_neg (by omega), if_neg (by omega), if_neg (by omega)]
    rw [this] at h1
    rw [pre_step (by omega)]
    simp
    omega
theorem pol_at {p : Pol} {k : Nat} (h : k < 5) : lks (enum 0 [Value.int .i64 p.r0.way, .int .i64 p.r0.size, .int .i64 p.r1.way, .int .i64 p.r1.size, .int .i64 p.r2.way, .int .i64 p.r2.size, .int .i64 p.r3.way, .int .i64 p.r3.size, .int .i64 p.r4.way, .int .i64 p.r4.size]) (((k : Nat) : Int).toNat * 2) 2 = some [.int .i64 (ruleAt p k).way, .int .i64 (ruleAt p k).size] := by
  match k, h with
  | 0, _ => rfl
  | 1, _ => rfl
  | 2, _ => rfl
  | 3, _ => rfl
  | 4, _ => rfl
theorem dom_at {k : Nat} (h : k < 5) : [str [99, 108, 105, 101, 110, 116], str [111, 98, 106, 101, 99, 116], str [118, 97, 108, 117, 101], str [102, 105, 101, 108, 100], str [111, 114, 100, 101, 114]][k]? = some (str (domW.getD k [])) := by
  match k, h with
  | 0, _ => rfl
  | 1, _ => rfl
  | 2, _ => rfl
  | 3, _ => rfl
  | 4, _ => rfl
theorem way_at {k : Nat} (h : k < 5) : [str [107, 101, 101, 112], str [111, 114, 100, 105, 110, 97, 108], str [107, 101, 121, 101, 100], str [114, 97, 110, 107], str [100, 114, 111, 112]][k]? = some (str (wayW.getD k [])) := by
  match k, h with
  | 0, _ => rfl
  | 1, _ => rfl
  | 2, _ => rfl
  | 3, _ => rfl
  | 4, _ => rfl
theorem dom_len (k : Nat) : (domW.getD k []).length ≤ 6 := by
  match k with
  | 0 => decide
  | 1 => decide
  | 2 => decide
  | 3 => decide
  | 4 => decide
  | n + 5 => simp [domW]
theorem way_len (k : Nat) : (wayW.getD k []).length ≤ 7 := by
  match k with
  | 0 => decide
  | 1 => decide
  | 2 => decide
  | 3 => decide
  | 4 => decide
  | n + 5 => simp [wayW]
theorem dom_name {k : Nat} (h : k < 5) : nameS (k : Int) = domW.getD k [] := by
  match k, h with
  | 0, _ => rfl
  | 1, _ => rfl
  | 2, _ => rfl
  | 3, _ => rfl
  | 4, _ => rfl
theorem rule_way {d : Int} {r : Rul} (h : ruledB d r = true) : (0 ≤ r.way ∧ r.way ≤ 3) ∧ (0 ≤ r.size ∧ r.size ≤ 16) := by
  obtain ⟨w, n, rfl, h1, h2⟩ := ruled_nat h
  exact ⟨⟨by show (0 : Int) ≤ w; omega, by show (w : Int) ≤ 3; omega⟩, ⟨by show (0 : Int) ≤ n; omega, by show (n : Int) ≤ 16; omega⟩⟩
theorem itoa_16 {n : Int} (h : 0 ≤ n ∧ n ≤ 16) : (Lib.itoa n).length ≤ 2 := by
  have := itoa_len (a := n) (b := 16) (by omega) (by omega) h.2
  have e : (Lib.itoa 16).length = 2 := by decide +kernel
  omega
theorem said_2 {k : Nat} (hk : k < 5) {r : Rul} (h : r.way = 2) : saidS (k : Int) r = ((domW.getD k [] ++ [32]) ++ wayW.getD r.way.toNat []) ++ ([32] ++ Lib.itoa r.size) := by
  unfold saidS
  rw [if_neg (by omega), if_neg (by omega), if_pos h, dom_name hk, h]
  simp [wayW]
theorem said_n {k : Nat} (hk : k < 5) {r : Rul} (hw : 0 ≤ r.way ∧ r.way ≤ 3) (h : ¬ r.way = 2) : saidS (k : Int) r = (domW.getD k [] ++ [32]) ++ wayW.getD r.way.toNat [] := by
  unfold saidS
  have h3 : r.way = 0 ∨ r.way = 1 ∨ r.way = 3 := by omega
  rcases h3 with e | e | e <;> rw [dom_name hk, e] <;> simp [wayW]
theorem tail_6 {p : Pol} (hp : rightB p = true) : (((([116, 105, 109, 101, 32] ++ wayW.getD p.time.toNat []) ++ [10, 110, 111, 116, 101, 32]) ++ wayW.getD p.note.toNat []) ++ [10]) = (sLine p 5 ++ [10]) ++ (sLine p 6 ++ [10]) := by
  obtain ⟨h1, h2⟩ := right_time hp
  rcases h1 with e | e <;> rcases h2 with e2 | e2 <;> simp [sLine, e, e2, wayW, sTK, sTR, sNK, sND]
theorem print_pre {p : Pol} (hp : rightB p = true) : printR p = preP p 5 ++ ((sLine p 5 ++ [10]) ++ (sLine p 6 ++ [10])) ++ (if p.loose = true then [108, 111, 111, 115, 101, 10] else []) ++ (if p.force = true then [102, 111, 114, 99, 101, 10] else []) := by
  unfold printR
  rw [if_pos hp]
  have e : preP p 5 = ([0, 1, 2, 3, 4].map (sLine p)).flatMap (· ++ [10]) := rfl
  rw [e]
  unfold keysP
  by_cases h1 : p.loose = true <;> by_cases h2 : p.force = true <;> simp [h1, h2, sLine, sLo, sFo]
theorem parse_printR {p : Pol} (hp : rightB p = true) : parseP (printR p) = (p, 0) := by
  have e : printR p = ((keysP p).map (sLine p)).flatMap (· ++ [10]) := by unfold printR; rw [if_pos hp]
  rw [e]
  exact parse_keys hp (fun k h => h) (keys_nodup p) (fun k h => .inl h)
/-! `incognito/num.Print` -/
set_option maxRecDepth 100000 in
set_option maxHeartbeats 4000000 in
theorem c_print6 (n : Int) (w0 : World) (G : Heap) (hG : Sub G w0) (hn : I64 n) (hT : TabG G 7 .u64 Lib.pow10Tab):
  Calls Tryd.prog 43 #[.int .i64 n] w0 (Ret w0 G (fun v _ => v = str (Lib.itoa n))) := by
 refine enter Tryd.func43 rfl Tryd.ntmps43 rfl ?_
 intro Q hQ a HE
 have HS := St.start0 hG
 refine sr fun K hK => ?_
 refine rn 1 HE HS ?_; clear HE HS; intro a w HE HS
 apply hK; clear hK K
 refine sr fun K hK => ?_
 refine rn 1 HE HS ?_; clear HE HS; intro a w HE HS
 refine o_callP HE rfl HS rfl rfl T.g80 (calls_grow HS.sub (Tryd.strconv_FormatInt_10 n (by first | exact hn.1 | omega) (by first | exact hn.2 | omega) _ (TabG.is HS.sub gPow hT))) ?_
 clear HE HS; rintro _ w a HS rfl HE
 refine rn 1 HE HS ?_; clear HE HS; intro a w HE HS
 apply hK; clear hK K
 refine rt hQ HE HS ?_
 exact rfl

/-! `incognito/policy.Print` -/
set_option maxRecDepth 100000 in
set_option maxHeartbeats 4000000 in
theorem c_PrintP (p : Pol) (w0 : World) (G : Heap) (hG : Sub G w0) (hgw : CellsAt G 1 0 [str [107, 101, 101, 112], str [111, 114, 100, 105, 110, 97, 108], str [107, 101, 121, 101, 100], str [114, 97, 110, 107], str [100, 114, 111, 112]]) (hgd : CellsAt G 0 0 [str [99, 108, 105, 101, 110, 116], str [111, 98, 106, 101, 99, 116], str [118, 97, 108, 117, 101], str [102, 105, 101, 108, 100], str [111, 114, 100, 101, 114]]) (hT : TabG G 7 .u64 Lib.pow10Tab):
  Calls Tryd.prog 20 #[.agg #[.int .i64 p.r0.way, .int .i64 p.r0.size, .int .i64 p.r1.way, .int .i64 p.r1.size, .int .i64 p.r2.way, .int .i64 p.r2.size, .int .i64 p.r3.way, .int .i64 p.r3.size, .int .i64 p.r4.way, .int .i64 p.r4.size, .int .i64 p.time, .int .i64 p.note, .bool p.loose, .bool p.force]] w0 (Ret w0 G (fun v _ => v = str (printR p))) := by
 refine enter Tryd.func20 rfl Tryd.ntmps20 rfl ?_
 intro Q hQ a HE
 have HS := St.start0 hG
 refine sr fun K hK => ?_
 refine o_bx14 HE rfl HS rfl ?_; clear HE HS; intro B1 w a HS HE
 refine rn 1 HE HS ?_; clear HE HS; intro a w HE HS
 apply hK; clear hK K
 refine wp_seq_k (fun K3 hK2 => ?_)
 refine sr fun K hK => ?_
 refine rn 1 HE HS ?_; clear HE HS; intro a w HE HS
 refine o_callP HE rfl HS rfl rfl T.g19 (c_right p _ _ HS.sub) ?_
 clear HE HS; rintro _ w a HS rfl HE
 refine rn 1 HE HS ?_; clear HE HS; intro a w HE HS
 apply hK; clear hK K
 refine cond HE rfl (fun h5r => ?_) (fun h5r => ?_)
 ·have h5 := nm h5r
  refine sr fun K hK => ?_
  refine rn 1 HE HS ?_; clear HE HS; intro a w HE HS
  apply hK; clear hK K
  refine rt hQ HE HS ?_
  have e : printR p = [] := by
   unfold printR
   rw [if_neg (by simpa using h5)]
  show _ = _
  rw [e]
  rfl
 ·have h5 := nm h5r
  refine wp_skip ?_
  refine hK2 _ _ ?_; clear hK2
  refine sr fun K hK => ?_
  refine o_allocB (e := 5) HE rfl HS B.zB ?_; clear HE HS; intro B3 oC7 w a HS oH7 HE
  apply hK; clear hK K
  refine wp_seq_k (fun K10 hK9 => ?_)
  refine sr fun K hK => ?_
  have hp : rightB p = true := by simpa using h5
  refine rn 3 HE HS ?_; clear HE HS; intro a w HE HS
  apply hK; clear hK K
  refine wp_block ?_
  refine loop (fun (k : Nat) a' w' => ∃ oC3_1 : Chunk, St w0 G [] G w' [oC3_1, [(B1, Cells 26 [(0, .int .i64 p.r0.way), (1, .int .i64 p.r0.size), (2, .int .i64 p.r1.way), (3, .int .i64 p.r1.size), (4, .int .i64 p.r2.way), (5, .int .i64 p.r2.size), (6, .int .i64 p.r3.way), (7, .int .i64 p.r3.size), (8, .int .i64 p.r4.way), (9, .int .i64 p.r4.size), (10, .int .i64 p.time), (11, .int .i64 p.note), (12, .bool p.loose), (13, .bool p.force)])]] ∧ Env a' 55 [] [(1, .pointer (some ⟨B1, 0, none⟩)), (2, str []), (3, .pointer (some ⟨B3, 0, none⟩)), (10, .agg #[.int .i64 p.r0.way, .int .i64 p.r0.size, .int .i64 p.r1.way, .int .i64 p.r1.size, .int .i64 p.r2.way, .int .i64 p.r2.size, .int .i64 p.r3.way, .int .i64 p.r3.size, .int .i64 p.r4.way, .int .i64 p.r4.size]), (11, .int .i64 ((k : Nat) : Int))] ∧ BldT G B3 (preP p k) oC3_1 ∧ (k ≤ 5)) (fun (k : Nat) => 5 - k) 0 ⟨_, HS, HE.cut ⟨rfl, rfl, rfl, rfl, rfl, trivial⟩, oH7, Nat.zero_le _⟩ ?_
  clear HE HS; intro k a w ⟨oC3_1, HS, HE, oH3_1, hk⟩
  refine sr fun K hK => ?_
  refine rn 1 HE HS ?_; clear HE HS; intro a w HE HS
  apply hK; clear hK K
  refine wp_seq_k (fun K15 hK14 => ?_)
  refine cond HE rfl (fun h16r => ?_) (fun h16r => ?_)
  ·have h16 := nm h16r
   refine wp_skip ?_
   refine hK14 _ _ ?_; clear hK14
   refine wp_seq_k (fun K18 hK17 => ?_)
   refine wp_block ?_
   refine sr fun K hK => ?_
   have hk5 : k < 5 := by omega
   refine rn 1 HE HS ?_; clear HE HS; intro a w HE HS
   refine o_ixV HE rfl rfl rfl T.r24 Tryd.underlying24 ⟨by omega, by omega⟩ (pol_at (p := p) hk5) (.inr ⟨T.a23, rfl⟩) ?_; clear HE; intro a HE
   refine o_allocZ HE rfl HS ?_; clear HE HS; intro B5 w a HS HE
   refine rn 2 HE HS ?_; clear HE HS; intro a w HE HS
   apply hK; clear hK K
   refine wp_seq_k (fun K21 hK20 => ?_)
   replace HS := HS.front (C := oC3_1) (.there .here)
   have hrw := rule_way (right_rule hp hk5)
   have hd6 := dom_len k
   have hw7 := way_len (ruleAt p k).way.toNat
   have hpl := pre_len hp (i := k) (by omega)
   have hi2 := itoa_16 hrw.2
   replace HE := HE.cut (L' := [(1, .pointer (some ⟨B1, 0, none⟩)), (2, str []), (3, .pointer (some ⟨B3, 0, none⟩)), (4, .int .i64 ((k : Nat) : Int)), (5, .pointer (some ⟨B5, 0, none⟩)), (10, .agg #[.int .i64 p.r0.way, .int .i64 p.r0.size, .int .i64 p.r1.way, .int .i64 p.r1.size, .int .i64 p.r2.way, .int .i64 p.r2.size, .int .i64 p.r3.way, .int .i64 p.r3.size, .int .i64 p.r4.way, .int .i64 p.r4.size]), (11, .int .i64 ((k : Nat) : Int)), (12, .bool (decide (((k : Nat) : Int) < 5))), (13, .int .i64 ((k : Nat) : Int)), (14, .agg #[.int .i64 ((ruleAt p k).way), .int .i64 ((ruleAt p k).size)])]) ⟨rfl, rfl, rfl, rfl, rfl, rfl, rfl, rfl, rfl, rfl, trivial⟩
   refine drawnF (fun f G' w => ∃ oC22 : Chunk, G = G' ∧ St w0 G [] G' w [oC22, [(B5, Cells 23 [(0, .int .i64 ((ruleAt p k).way)), (1, .int .i64 ((ruleAt p k).size))])], [(B1, Cells 26 [(0, .int .i64 p.r0.way), (1, .int .i64 p.r0.size), (2, .int .i64 p.r1.way), (3, .int .i64 p.r1.size), (4, .int .i64 p.r2.way), (5, .int .i64 p.r2.size), (6, .int .i64 p.r3.way), (7, .int .i64 p.r3.size), (8, .int .i64 p.r4.way), (9, .int .i64 p.r4.size), (10, .int .i64 p.time), (11, .int .i64 p.note), (12, .bool p.loose), (13, .bool p.force)])]] ∧ BldT G' B3 (bif f 9 then ((preP p k) ++ (((domW.getD k []) ++ [32]) ++ (wayW.getD (ruleAt p k).way.toNat []))) else (preP p k)) oC22) [fun v _ => v = .int .i64 ((k : Nat) : Int), fun v _ => v = .pointer (some ⟨0, 0 + (((k : Nat) : Int)).toNat * 1, none⟩), fun v _ => v = str (domW.getD k []), fun v _ => v = str ((domW.getD k []) ++ [32]), fun v _ => v = .pointer (some ⟨B5, 0, none⟩), fun v _ => v = .int .i64 ((ruleAt p k).way), fun v _ => v = .pointer (some ⟨1, 0 + ((ruleAt p k).way).toNat * 1, none⟩), fun v _ => v = str (wayW.getD (ruleAt p k).way.toNat []), fun v _ => v = str (((domW.getD k []) ++ [32]) ++ (wayW.getD (ruleAt p k).way.toNat [])), fun v _ => v = .tuple #[.int .i64 ((((((domW.getD k []) ++ [32]) ++ (wayW.getD (ruleAt p k).way.toNat [])) : Bs).length : Nat) : Int), .nilIface]] [] T.mix rfl HE ⟨_, rfl, HS.drew, oH3_1⟩ rfl (by simp) (AllM.get ⟨fun _ _ _ _ h => h, fun _ _ _ _ h => h, fun _ _ _ _ h => h, fun _ _ _ _ h => h, fun _ _ _ _ h => h, fun _ _ _ _ h => h, fun _ _ _ _ h => h, fun _ _ _ _ h => h, fun _ _ _ _ h => h, fun _ _ _ _ h => h, trivial⟩) ⟨?_, ?_, ?_, ?_, ?_, ?_, ?_, ?_, ?_, ?_, trivial⟩ ?_
   ·intro a w G1 f hcl hfi hon hW HE hp hO; obtain ⟨oC22, rfl, HS, hB⟩ := hW
    refine o_move HE rfl rfl ?_; clear HE; intro a HE
    exact ⟨_, _, Heap.le.refl _, ⟨oC22, rfl, HS, hB⟩, fun d hd => (by cases hd; exact HE.get _ _ rfl), HE.defers, rfl⟩
   ·intro a w G1 f hcl hfi hon hW HE hp hO; obtain ⟨oC22, rfl, HS, hB⟩ := hW
    obtain ⟨_, e0, rfl⟩ := hp 0 15 _ (hon 0 rfl) rfl rfl; replace HE := HE.add e0
    refine o_ixA HE rfl rfl rfl T.r86 (by omega) ?_; clear HE; intro a HE
    exact ⟨_, _, Heap.le.refl _, ⟨oC22, rfl, HS, hB⟩, fun d hd => (by cases hd; exact HE.get _ _ rfl), HE.defers, rfl⟩
   ·intro a w G1 f hcl hfi hon hW HE hp hO; obtain ⟨oC22, rfl, HS, hB⟩ := hW
    obtain ⟨_, e1, rfl⟩ := hp 1 16 _ (hon 1 rfl) rfl rfl; replace HE := HE.add e1
    refine o_ldI HE rfl HS rfl T.s9 hgd (j := k) (by simp) (dom_at (by omega)) ?_; clear HE; intro a HE
    exact ⟨_, _, Heap.le.refl _, ⟨oC22, rfl, HS, hB⟩, fun d hd => (by cases hd; exact HE.get _ _ rfl), HE.defers, rfl⟩
   ·intro a w G1 f hcl hfi hon hW HE hp hO; obtain ⟨oC22, rfl, HS, hB⟩ := hW
    obtain ⟨_, e2, rfl⟩ := hp 2 17 _ (hon 2 rfl) rfl rfl; replace HE := HE.add e2
    refine o_cat HE rfl rfl rfl (by (simp only [List.length_append, List.length_cons, List.length_nil]; omega)) ?_; clear HE; intro a HE
    exact ⟨_, _, Heap.le.refl _, ⟨oC22, rfl, HS, hB⟩, fun d hd => (by cases hd; exact HE.get _ _ rfl), HE.defers, rfl⟩
   ·intro a w G1 f hcl hfi hon hW HE hp hO; obtain ⟨oC22, rfl, HS, hB⟩ := hW
    refine o_fld HE rfl rfl T.f23_0 ?_; clear HE; intro a HE
    exact ⟨_, _, Heap.le.refl _, ⟨oC22, rfl, HS, hB⟩, fun d hd => (by cases hd; exact HE.get _ _ rfl), HE.defers, rfl⟩
   ·intro a w G1 f hcl hfi hon hW HE hp hO; obtain ⟨oC22, rfl, HS, hB⟩ := hW
    obtain ⟨_, e4, rfl⟩ := hp 4 19 _ (hon 4 rfl) rfl rfl; replace HE := HE.add e4
    refine o_ld HE rfl HS rfl T.s3 (.there (.here .here)) rfl ?_; clear HE; intro a HE
    exact ⟨_, _, Heap.le.refl _, ⟨oC22, rfl, HS, hB⟩, fun d hd => (by cases hd; exact HE.get _ _ rfl), HE.defers, rfl⟩
   ·intro a w G1 f hcl hfi hon hW HE hp hO; obtain ⟨oC22, rfl, HS, hB⟩ := hW
    obtain ⟨_, e5, rfl⟩ := hp 5 20 _ (hon 5 rfl) rfl rfl; replace HE := HE.add e5
    refine o_ixA HE rfl rfl rfl T.r86 (by omega) ?_; clear HE; intro a HE
    exact ⟨_, _, Heap.le.refl _, ⟨oC22, rfl, HS, hB⟩, fun d hd => (by cases hd; exact HE.get _ _ rfl), HE.defers, rfl⟩
   ·intro a w G1 f hcl hfi hon hW HE hp hO; obtain ⟨oC22, rfl, HS, hB⟩ := hW
    obtain ⟨_, e6, rfl⟩ := hp 6 21 _ (hon 6 rfl) rfl rfl; replace HE := HE.add e6
    refine o_ldI HE rfl HS rfl T.s9 hgw (j := (ruleAt p k).way.toNat) (by simp) (way_at (by omega)) ?_; clear HE; intro a HE
    exact ⟨_, _, Heap.le.refl _, ⟨oC22, rfl, HS, hB⟩, fun d hd => (by cases hd; exact HE.get _ _ rfl), HE.defers, rfl⟩
   ·intro a w G1 f hcl hfi hon hW HE hp hO; obtain ⟨oC22, rfl, HS, hB⟩ := hW
    obtain ⟨_, e3, rfl⟩ := hp 3 18 _ (hon 3 rfl) rfl rfl; replace HE := HE.add e3
    obtain ⟨_, e7, rfl⟩ := hp 7 22 _ (hon 7 rfl) rfl rfl; replace HE := HE.add e7
    refine o_cat HE rfl rfl rfl (by (simp only [List.length_append, List.length_cons, List.length_nil]; omega)) ?_; clear HE; intro a HE
    exact ⟨_, _, Heap.le.refl _, ⟨oC22, rfl, HS, hB⟩, fun d hd => (by cases hd; exact HE.get _ _ rfl), HE.defers, rfl⟩
   ·intro a w G1 f hcl hfi hon hW HE hp hO; obtain ⟨oC22, rfl, HS, hB⟩ := hW
    obtain ⟨_, e8, rfl⟩ := hp 8 23 _ (hon 8 rfl) rfl rfl; replace HE := HE.add e8
    rw [hfi, cond_false] at hB
    refine o_callM (A := []) HE rfl HS rfl rfl T.g42 (c_bWS B3 (preP p k) (((domW.getD k []) ++ [32]) ++ (wayW.getD (ruleAt p k).way.toNat [])) _ _ HS hB (by simp only [List.length_append, List.length_cons, List.length_nil]; omega)) ?_ (fun _ _ _ _ _ _ h => h.elim)
    clear HE HS; rintro _ G6 C6 w a HS hle6 ⟨rfl, hG, hB6⟩ HE; replace hG := hG.symm; subst hG; simp only [List.nil_append] at HS
    exact ⟨_, _, Heap.le.refl _, ⟨C6, rfl, HS, hB6⟩, fun d hd => (by cases hd; exact HE.get _ _ rfl), HE.defers, rfl⟩
   clear HE HS; intro a w G23 f hle24 hall HW HE hp; obtain ⟨oC22, rfl, HS, oH22⟩ := HW
   have hfw := hall 9 (by decide); rw [hfw, cond_true] at oH22
   clear hle24
   clear hp hall hfw
   refine hK20 _ _ ?_; clear hK20
   refine wp_seq_k (fun K26 hK25 => ?_)
   refine sr fun K hK => ?_
   refine rn 3 HE HS ?_; clear HE HS; intro a w HE HS
   apply hK; clear hK K
   refine cond HE rfl (fun h28r => ?_) (fun h28r => ?_)
   ·have h28 := nm h28r
    refine wp_region_lit ?_
    refine rn 2 HE HS ?_; clear HE HS; intro a w HE HS
    refine o_callP HE rfl HS rfl rfl T.g43 (c_print6 ((ruleAt p k).size) _ _ HS.sub (by unfold I64; omega) hT) ?_
    clear HE HS; rintro _ w a HS rfl HE
    refine o_cat HE rfl rfl rfl (by (simp only [List.length_append, List.length_cons, List.length_nil]; omega)) ?_; clear HE; intro a HE
    refine o_callM (A := []) HE rfl HS rfl rfl T.g42 (c_bWS B3 ((preP p k) ++ (((domW.getD k []) ++ [32]) ++ (wayW.getD (ruleAt p k).way.toNat []))) ([32] ++ (Lib.itoa ((ruleAt p k).size))) _ _ HS oH22 (by simp only [List.length_append, List.length_cons, List.length_nil]; omega)) ?_ (fun _ _ _ _ _ _ h => h.elim)
    clear HE HS; rintro _ G29 oC29 w a HS hle29 ⟨rfl, hG, oH29⟩ HE; replace hG := hG.symm; subst hG; clear hle29; simp only [List.nil_append] at HS
    refine hK25 _ _ ?_; clear hK25
    refine wp_region_lit ?_
    refine o_callM (A := []) HE rfl HS rfl rfl T.g44 (c_bWB B3 (((preP p k) ++ (((domW.getD k []) ++ [32]) ++ (wayW.getD (ruleAt p k).way.toNat []))) ++ ([32] ++ (Lib.itoa ((ruleAt p k).size)))) 10 _ _ HS oH29 (by simp only [List.length_append, List.length_cons, List.length_nil]; omega)) ?_ (fun _ _ _ _ _ _ h => h.elim)
    clear HE HS; rintro _ G30 oC30 w a HS hle30 ⟨rfl, hG, oH30⟩ HE; replace hG := hG.symm; subst hG; clear hle30; simp only [List.nil_append] at HS
    refine hK17 _ _ ?_; clear hK17
    refine wp_region_lit ?_
    refine rn 2 HE HS ?_; clear HE HS; intro a w HE HS
    replace HS := HS.drop (M' := [_, _]) (sub_keep (sub_drop (sub_keep sub_nil)))
    have hxs : (((preP p k) ++ (((domW.getD k []) ++ [32]) ++ (wayW.getD (ruleAt p k).way.toNat []))) ++ ([32] ++ (Lib.itoa ((ruleAt p k).size)))) ++ [10] = preP p (k + 1) := by
     rw [pre_step hk5, said_2 hk5 (by simpa using h28)]
     simp
    rw [hxs] at oH30
    exact ⟨k + 1, ⟨_, HS, HE.cut ⟨rfl, rfl, rfl, rfl, rfl, trivial⟩, oH30, by omega⟩, by omega⟩
   ·have h28 := nm h28r
    refine wp_skip ?_
    refine hK25 _ _ ?_; clear hK25
    refine wp_region_lit ?_
    refine o_callM (A := []) HE rfl HS rfl rfl T.g44 (c_bWB B3 ((preP p k) ++ (((domW.getD k []) ++ [32]) ++ (wayW.getD (ruleAt p k).way.toNat []))) 10 _ _ HS oH22 (by simp only [List.length_append, List.length_cons, List.length_nil]; omega)) ?_ (fun _ _ _ _ _ _ h => h.elim)
    clear HE HS; rintro _ G31 oC31 w a HS hle31 ⟨rfl, hG, oH31⟩ HE; replace hG := hG.symm; subst hG; clear hle31; simp only [List.nil_append] at HS
    refine hK17 _ _ ?_; clear hK17
    refine wp_region_lit ?_
    refine rn 2 HE HS ?_; clear HE HS; intro a w HE HS
    replace HS := HS.drop (M' := [_, _]) (sub_keep (sub_drop (sub_keep sub_nil)))
    have hxs : ((preP p k) ++ (((domW.getD k []) ++ [32]) ++ (wayW.getD (ruleAt p k).way.toNat []))) ++ [10] = preP p (k + 1) := by
     rw [pre_step hk5, said_n hk5 hrw.1 (by simpa using h28)]
     simp
    rw [hxs] at oH31
    exact ⟨k + 1, ⟨_, HS, HE.cut ⟨rfl, rfl, rfl, rfl, rfl, trivial⟩, oH31, by omega⟩, by omega⟩
  ·have h16 := nm h16r
   refine wp_exit ?_
   refine hK9 _ _ ?_; clear hK9
   refine wp_seq_k (fun K33 hK32 => ?_)
   obtain ⟨ht3, hn4⟩ := right_time hp
   have hw1 := way_len p.time.toNat
   have hw2 := way_len p.note.toNat
   have hpl := pre_len hp (i := k) (by omega)
   replace HE := HE.cut (L' := [(1, .pointer (some ⟨B1, 0, none⟩)), (2, str []), (3, .pointer (some ⟨B3, 0, none⟩)), (10, .agg #[.int .i64 p.r0.way, .int .i64 p.r0.size, .int .i64 p.r1.way, .int .i64 p.r1.size, .int .i64 p.r2.way, .int .i64 p.r2.size, .int .i64 p.r3.way, .int .i64 p.r3.size, .int .i64 p.r4.way, .int .i64 p.r4.size]), (11, .int .i64 ((k : Nat) : Int)), (12, .bool (decide (((k : Nat) : Int) < 5)))]) ⟨rfl, rfl, rfl, rfl, rfl, rfl, trivial⟩
   refine drawnF (fun f G' w => ∃ oC34 : Chunk, G = G' ∧ St w0 G [] G' w [oC34, [(B1, Cells 26 [(0, .int .i64 p.r0.way), (1, .int .i64 p.r0.size), (2, .int .i64 p.r1.way), (3, .int .i64 p.r1.size), (4, .int .i64 p.r2.way), (5, .int .i64 p.r2.size), (6, .int .i64 p.r3.way), (7, .int .i64 p.r3.size), (8, .int .i64 p.r4.way), (9, .int .i64 p.r4.size), (10, .int .i64 p.time), (11, .int .i64 p.note), (12, .bool p.loose), (13, .bool p.force)])]] ∧ BldT G' B3 (bif f 12 then ((preP p k) ++ (((([116, 105, 109, 101, 32] ++ (wayW.getD p.time.toNat [])) ++ [10, 110, 111, 116, 101, 32]) ++ (wayW.getD p.note.toNat [])) ++ [10])) else (preP p k)) oC34) [fun v _ => v = .pointer (some ⟨B1, 10, none⟩), fun v _ => v = .int .i64 p.time, fun v _ => v = .pointer (some ⟨1, 0 + (p.time).toNat * 1, none⟩), fun v _ => v = str (wayW.getD p.time.toNat []), fun v _ => v = str ([116, 105, 109, 101, 32] ++ (wayW.getD p.time.toNat [])), fun v _ => v = str (([116, 105, 109, 101, 32] ++ (wayW.getD p.time.toNat [])) ++ [10, 110, 111, 116, 101, 32]), fun v _ => v = .pointer (some ⟨B1, 11, none⟩), fun v _ => v = .int .i64 p.note, fun v _ => v = .pointer (some ⟨1, 0 + (p.note).toNat * 1, none⟩), fun v _ => v = str (wayW.getD p.note.toNat []), fun v _ => v = str ((([116, 105, 109, 101, 32] ++ (wayW.getD p.time.toNat [])) ++ [10, 110, 111, 116, 101, 32]) ++ (wayW.getD p.note.toNat [])), fun v _ => v = str (((([116, 105, 109, 101, 32] ++ (wayW.getD p.time.toNat [])) ++ [10, 110, 111, 116, 101, 32]) ++ (wayW.getD p.note.toNat [])) ++ [10]), fun v _ => v = .tuple #[.int .i64 ((((((([116, 105, 109, 101, 32] ++ (wayW.getD p.time.toNat [])) ++ [10, 110, 111, 116, 101, 32]) ++ (wayW.getD p.note.toNat [])) ++ [10]) : Bs).length : Nat) : Int), .nilIface]] [] T.mix rfl HE ⟨_, rfl, HS.drew, oH3_1⟩ rfl (by simp) (AllM.get ⟨fun _ _ _ _ h => h, fun _ _ _ _ h => h, fun _ _ _ _ h => h, fun _ _ _ _ h => h, fun _ _ _ _ h => h, fun _ _ _ _ h => h, fun _ _ _ _ h => h, fun _ _ _ _ h => h, fun _ _ _ _ h => h, fun _ _ _ _ h => h, fun _ _ _ _ h => h, fun _ _ _ _ h => h, fun _ _ _ _ h => h, trivial⟩) ⟨?_, ?_, ?_, ?_, ?_, ?_, ?_, ?_, ?_, ?_, ?_, ?_, ?_, trivial⟩ ?_
   ·intro a w G1 f hcl hfi hon hW HE hp hO; obtain ⟨oC34, rfl, HS, hB⟩ := hW
    refine o_fld HE rfl rfl T.f26_1 ?_; clear HE; intro a HE
    exact ⟨_, _, Heap.le.refl _, ⟨oC34, rfl, HS, hB⟩, fun d hd => (by cases hd; exact HE.get _ _ rfl), HE.defers, rfl⟩
   ·intro a w G1 f hcl hfi hon hW HE hp hO; obtain ⟨oC34, rfl, HS, hB⟩ := hW
    obtain ⟨_, e0, rfl⟩ := hp 0 35 _ (hon 0 rfl) rfl rfl; replace HE := HE.add e0
    refine o_ld HE rfl HS rfl T.s3 (.there (.here .here)) rfl ?_; clear HE; intro a HE
    exact ⟨_, _, Heap.le.refl _, ⟨oC34, rfl, HS, hB⟩, fun d hd => (by cases hd; exact HE.get _ _ rfl), HE.defers, rfl⟩
   ·intro a w G1 f hcl hfi hon hW HE hp hO; obtain ⟨oC34, rfl, HS, hB⟩ := hW
    obtain ⟨_, e1, rfl⟩ := hp 1 36 _ (hon 1 rfl) rfl rfl; replace HE := HE.add e1
    refine o_ixA HE rfl rfl rfl T.r86 (by omega) ?_; clear HE; intro a HE
    exact ⟨_, _, Heap.le.refl _, ⟨oC34, rfl, HS, hB⟩, fun d hd => (by cases hd; exact HE.get _ _ rfl), HE.defers, rfl⟩
   ·intro a w G1 f hcl hfi hon hW HE hp hO; obtain ⟨oC34, rfl, HS, hB⟩ := hW
    obtain ⟨_, e2, rfl⟩ := hp 2 37 _ (hon 2 rfl) rfl rfl; replace HE := HE.add e2
    refine o_ldI HE rfl HS rfl T.s9 hgw (j := p.time.toNat) (by simp) (way_at (by omega)) ?_; clear HE; intro a HE
    exact ⟨_, _, Heap.le.refl _, ⟨oC34, rfl, HS, hB⟩, fun d hd => (by cases hd; exact HE.get _ _ rfl), HE.defers, rfl⟩
   ·intro a w G1 f hcl hfi hon hW HE hp hO; obtain ⟨oC34, rfl, HS, hB⟩ := hW
    obtain ⟨_, e3, rfl⟩ := hp 3 38 _ (hon 3 rfl) rfl rfl; replace HE := HE.add e3
    refine o_cat HE rfl rfl rfl (by (simp only [List.length_append, List.length_cons, List.length_nil]; omega)) ?_; clear HE; intro a HE
    exact ⟨_, _, Heap.le.refl _, ⟨oC34, rfl, HS, hB⟩, fun d hd => (by cases hd; exact HE.get _ _ rfl), HE.defers, rfl⟩
   ·intro a w G1 f hcl hfi hon hW HE hp hO; obtain ⟨oC34, rfl, HS, hB⟩ := hW
    obtain ⟨_, e4, rfl⟩ := hp 4 39 _ (hon 4 rfl) rfl rfl; replace HE := HE.add e4
    refine o_cat HE rfl rfl rfl (by (simp only [List.length_append, List.length_cons, List.length_nil]; omega)) ?_; clear HE; intro a HE
    exact ⟨_, _, Heap.le.refl _, ⟨oC34, rfl, HS, hB⟩, fun d hd => (by cases hd; exact HE.get _ _ rfl), HE.defers, rfl⟩
   ·intro a w G1 f hcl hfi hon hW HE hp hO; obtain ⟨oC34, rfl, HS, hB⟩ := hW
    refine o_fld HE rfl rfl T.f26_2 ?_; clear HE; intro a HE
    exact ⟨_, _, Heap.le.refl _, ⟨oC34, rfl, HS, hB⟩, fun d hd => (by cases hd; exact HE.get _ _ rfl), HE.defers, rfl⟩
   ·intro a w G1 f hcl hfi hon hW HE hp hO; obtain ⟨oC34, rfl, HS, hB⟩ := hW
    obtain ⟨_, e6, rfl⟩ := hp 6 41 _ (hon 6 rfl) rfl rfl; replace HE := HE.add e6
    refine o_ld HE rfl HS rfl T.s3 (.there (.here .here)) rfl ?_; clear HE; intro a HE
    exact ⟨_, _, Heap.le.refl _, ⟨oC34, rfl, HS, hB⟩, fun d hd => (by cases hd; exact HE.get _ _ rfl), HE.defers, rfl⟩
   ·intro a w G1 f hcl hfi hon hW HE hp hO; obtain ⟨oC34, rfl, HS, hB⟩ := hW
    obtain ⟨_, e7, rfl⟩ := hp 7 42 _ (hon 7 rfl) rfl rfl; replace HE := HE.add e7
    refine o_ixA HE rfl rfl rfl T.r86 (by omega) ?_; clear HE; intro a HE
    exact ⟨_, _, Heap.le.refl _, ⟨oC34, rfl, HS, hB⟩, fun d hd => (by cases hd; exact HE.get _ _ rfl), HE.defers, rfl⟩
   ·intro a w G1 f hcl hfi hon hW HE hp hO; obtain ⟨oC34, rfl, HS, hB⟩ := hW
    obtain ⟨_, e8, rfl⟩ := hp 8 43 _ (hon 8 rfl) rfl rfl; replace HE := HE.add e8
    refine o_ldI HE rfl HS rfl T.s9 hgw (j := p.note.toNat) (by simp) (way_at (by omega)) ?_; clear HE; intro a HE
    exact ⟨_, _, Heap.le.refl _, ⟨oC34, rfl, HS, hB⟩, fun d hd => (by cases hd; exact HE.get _ _ rfl), HE.defers, rfl⟩
   ·intro a w G1 f hcl hfi hon hW HE hp hO; obtain ⟨oC34, rfl, HS, hB⟩ := hW
    obtain ⟨_, e5, rfl⟩ := hp 5 40 _ (hon 5 rfl) rfl rfl; replace HE := HE.add e5
    obtain ⟨_, e9, rfl⟩ := hp 9 44 _ (hon 9 rfl) rfl rfl; replace HE := HE.add e9
    refine o_cat HE rfl rfl rfl (by (simp only [List.length_append, List.length_cons, List.length_nil]; omega)) ?_; clear HE; intro a HE
    exact ⟨_, _, Heap.le.refl _, ⟨oC34, rfl, HS, hB⟩, fun d hd => (by cases hd; exact HE.get _ _ rfl), HE.defers, rfl⟩
   ·intro a w G1 f hcl hfi hon hW HE hp hO; obtain ⟨oC34, rfl, HS, hB⟩ := hW
    obtain ⟨_, e10, rfl⟩ := hp 10 45 _ (hon 10 rfl) rfl rfl; replace HE := HE.add e10
    refine o_cat HE rfl rfl rfl (by (simp only [List.length_append, List.length_cons, List.length_nil]; omega)) ?_; clear HE; intro a HE
    exact ⟨_, _, Heap.le.refl _, ⟨oC34, rfl, HS, hB⟩, fun d hd => (by cases hd; exact HE.get _ _ rfl), HE.defers, rfl⟩
   ·intro a w G1 f hcl hfi hon hW HE hp hO; obtain ⟨oC34, rfl, HS, hB⟩ := hW
    obtain ⟨_, e11, rfl⟩ := hp 11 46 _ (hon 11 rfl) rfl rfl; replace HE := HE.add e11
    rw [hfi, cond_false] at hB
    refine o_callM (A := []) HE rfl HS rfl rfl T.g42 (c_bWS B3 (preP p k) (((([116, 105, 109, 101, 32] ++ (wayW.getD p.time.toNat [])) ++ [10, 110, 111, 116, 101, 32]) ++ (wayW.getD p.note.toNat [])) ++ [10]) _ _ HS hB (by simp only [List.length_append, List.length_cons, List.length_nil]; omega)) ?_ (fun _ _ _ _ _ _ h => h.elim)
    clear HE HS; rintro _ G6 C6 w a HS hle6 ⟨rfl, hG, hB6⟩ HE; replace hG := hG.symm; subst hG; simp only [List.nil_append] at HS
    exact ⟨_, _, Heap.le.refl _, ⟨C6, rfl, HS, hB6⟩, fun d hd => (by cases hd; exact HE.get _ _ rfl), HE.defers, rfl⟩
   clear HE HS; intro a w G35 f hle36 hall HW HE hp; obtain ⟨oC34, rfl, HS, oH34⟩ := HW
   have hfw := hall 12 (by decide); rw [hfw, cond_true] at oH34
   clear hle36
   clear hp hall hfw
   refine hK32 _ _ ?_; clear hK32
   refine wp_seq_k (fun K38 hK37 => ?_)
   refine sr fun K hK => ?_
   refine rn 2 HE HS ?_; clear HE HS; intro a w HE HS
   apply hK; clear hK K
   refine cond HE rfl (fun h40r => ?_) (fun h40r => ?_)
   ·have h40 := nm h40r
    refine wp_region_lit ?_
    refine o_callM (A := []) HE rfl HS rfl rfl T.g42 (c_bWS B3 ((preP p k) ++ (((([116, 105, 109, 101, 32] ++ (wayW.getD p.time.toNat [])) ++ [10, 110, 111, 116, 101, 32]) ++ (wayW.getD p.note.toNat [])) ++ [10])) [108, 111, 111, 115, 101, 10] _ _ HS oH34 (by simp only [List.length_append, List.length_cons, List.length_nil]; omega)) ?_ (fun _ _ _ _ _ _ h => h.elim)
    clear HE HS; rintro _ G41 oC41 w a HS hle41 ⟨rfl, hG, oH41⟩ HE; replace hG := hG.symm; subst hG; clear hle41; simp only [List.nil_append] at HS
    refine hK37 _ _ ?_; clear hK37
    refine wp_seq_k (fun K43 hK42 => ?_)
    refine sr fun K hK => ?_
    refine rn 2 HE HS ?_; clear HE HS; intro a w HE HS
    apply hK; clear hK K
    refine cond HE rfl (fun h45r => ?_) (fun h45r => ?_)
    ·have h45 := nm h45r
     refine wp_region_lit ?_
     refine o_callM (A := []) HE rfl HS rfl rfl T.g42 (c_bWS B3 (((preP p k) ++ (((([116, 105, 109, 101, 32] ++ (wayW.getD p.time.toNat [])) ++ [10, 110, 111, 116, 101, 32]) ++ (wayW.getD p.note.toNat [])) ++ [10])) ++ [108, 111, 111, 115, 101, 10]) [102, 111, 114, 99, 101, 10] _ _ HS oH41 (by simp only [List.length_append, List.length_cons, List.length_nil]; omega)) ?_ (fun _ _ _ _ _ _ h => h.elim)
     clear HE HS; rintro _ G46 oC46 w a HS hle46 ⟨rfl, hG, oH46⟩ HE; replace hG := hG.symm; subst hG; clear hle46; simp only [List.nil_append] at HS
     refine hK42 _ _ ?_; clear hK42
     refine sr fun K hK => ?_
     refine o_callM (A := []) HE rfl HS rfl rfl T.g45 (c_bS B3 ((((preP p k) ++ (((([116, 105, 109, 101, 32] ++ (wayW.getD p.time.toNat [])) ++ [10, 110, 111, 116, 101, 32]) ++ (wayW.getD p.note.toNat [])) ++ [10])) ++ [108, 111, 111, 115, 101, 10]) ++ [102, 111, 114, 99, 101, 10]) _ _ HS oH46) ?_ (fun _ _ _ _ _ _ h => h.elim)
     clear HE HS; rintro _ G47 oC47 w a HS hle47 ⟨rfl, hG, _⟩ HE; replace hG := hG.symm; subst hG; clear hle47; simp only [List.nil_append] at HS; replace HS := HS.drop (M' := [_]) (sub_drop (.refl _))
     refine rn 1 HE HS ?_; clear HE HS; intro a w HE HS
     apply hK; clear hK K
     refine rt hQ HE HS ?_
     have hk9 : k = 5 := by omega
     subst hk9
     have e := print_pre hp
     rw [← tail_6 hp, show p.loose = true from by simpa using h40, show p.force = true from by simpa using h45] at e
     show _ = _
     rw [e]
     simp [packed]
    ·have h45 := nm h45r
     refine wp_skip ?_
     refine hK42 _ _ ?_; clear hK42
     refine sr fun K hK => ?_
     refine o_callM (A := []) HE rfl HS rfl rfl T.g45 (c_bS B3 (((preP p k) ++ (((([116, 105, 109, 101, 32] ++ (wayW.getD p.time.toNat [])) ++ [10, 110, 111, 116, 101, 32]) ++ (wayW.getD p.note.toNat [])) ++ [10])) ++ [108, 111, 111, 115, 101, 10]) _ _ HS oH41) ?_ (fun _ _ _ _ _ _ h => h.elim)
     clear HE HS; rintro _ G49 oC49 w a HS hle49 ⟨rfl, hG, _⟩ HE; replace hG := hG.symm; subst hG; clear hle49; simp only [List.nil_append] at HS; replace HS := HS.drop (M' := [_]) (sub_drop (.refl _))
     refine rn 1 HE HS ?_; clear HE HS; intro a w HE HS
     apply hK; clear hK K
     refine rt hQ HE HS ?_
     have hk9 : k = 5 := by omega
     subst hk9
     have e := print_pre hp
     rw [← tail_6 hp, show p.loose = true from by simpa using h40, show p.force = false from by simpa using h45] at e
     show _ = _
     rw [e]
     simp [packed]
   ·have h40 := nm h40r
    refine wp_skip ?_
    refine hK37 _ _ ?_; clear hK37
    refine wp_seq_k (fun K52 hK51 => ?_)
    refine sr fun K hK => ?_
    refine rn 2 HE HS ?_; clear HE HS; intro a w HE HS
    apply hK; clear hK K
    refine cond HE rfl (fun h54r => ?_) (fun h54r => ?_)
    ·have h54 := nm h54r
     refine wp_region_lit ?_
     refine o_callM (A := []) HE rfl HS rfl rfl T.g42 (c_bWS B3 ((preP p k) ++ (((([116, 105, 109, 101, 32] ++ (wayW.getD p.time.toNat [])) ++ [10, 110, 111, 116, 101, 32]) ++ (wayW.getD p.note.toNat [])) ++ [10])) [102, 111, 114, 99, 101, 10] _ _ HS oH34 (by simp only [List.length_append, List.length_cons, List.length_nil]; omega)) ?_ (fun _ _ _ _ _ _ h => h.elim)
     clear HE HS; rintro _ G55 oC55 w a HS hle55 ⟨rfl, hG, oH55⟩ HE; replace hG := hG.symm; subst hG; clear hle55; simp only [List.nil_append] at HS
     refine hK51 _ _ ?_; clear hK51
     refine sr fun K hK => ?_
     refine o_callM (A := []) HE rfl HS rfl rfl T.g45 (c_bS B3 (((preP p k) ++ (((([116, 105, 109, 101, 32] ++ (wayW.getD p.time.toNat [])) ++ [10, 110, 111, 116, 101, 32]) ++ (wayW.getD p.note.toNat [])) ++ [10])) ++ [102, 111, 114, 99, 101, 10]) _ _ HS oH55) ?_ (fun _ _ _ _ _ _ h => h.elim)
     clear HE HS; rintro _ G56 oC56 w a HS hle56 ⟨rfl, hG, _⟩ HE; replace hG := hG.symm; subst hG; clear hle56; simp only [List.nil_append] at HS; replace HS := HS.drop (M' := [_]) (sub_drop (.refl _))
     refine rn 1 HE HS ?_; clear HE HS; intro a w HE HS
     apply hK; clear hK K
     refine rt hQ HE HS ?_
     have hk9 : k = 5 := by omega
     subst hk9
     have e := print_pre hp
     rw [← tail_6 hp, show p.loose = false from by simpa using h40, show p.force = true from by simpa using h54] at e
     show _ = _
     rw [e]
     simp [packed]
    ·have h54 := nm h54r
     refine wp_skip ?_
     refine hK51 _ _ ?_; clear hK51
     refine sr fun K hK => ?_
     refine o_callM (A := []) HE rfl HS rfl rfl T.g45 (c_bS B3 ((preP p k) ++ (((([116, 105, 109, 101, 32] ++ (wayW.getD p.time.toNat [])) ++ [10, 110, 111, 116, 101, 32]) ++ (wayW.getD p.note.toNat [])) ++ [10])) _ _ HS oH34) ?_ (fun _ _ _ _ _ _ h => h.elim)
     clear HE HS; rintro _ G58 oC58 w a HS hle58 ⟨rfl, hG, _⟩ HE; replace hG := hG.symm; subst hG; clear hle58; simp only [List.nil_append] at HS; replace HS := HS.drop (M' := [_]) (sub_drop (.refl _))
     refine rn 1 HE HS ?_; clear HE HS; intro a w HE HS
     apply hK; clear hK K
     refine rt hQ HE HS ?_
     have hk9 : k = 5 := by omega
     subst hk9
     have e := print_pre hp
     rw [← tail_6 hp, show p.loose = false from by simpa using h40, show p.force = false from by simpa using h54] at e
     show _ = _
     rw [e]
     simp [packed]

/-! `incognito/incognitolaw25.PolicyPrints` -/
set_option maxRecDepth 100000 in
set_option maxHeartbeats 4000000 in
theorem law_PolicyPrints (p : Pol) (w0 : World) (G : Heap) (hG : Sub G w0) (m8 : Int) (h8 : CellsAt G 8 0 [.int .i64 m8]) (hgw : CellsAt G 1 0 [str [107, 101, 101, 112], str [111, 114, 100, 105, 110, 97, 108], str [107, 101, 121, 101, 100], str [114, 97, 110, 107], str [100, 114, 111, 112]]) (hgd : CellsAt G 0 0 [str [99, 108, 105, 101, 110, 116], str [111, 98, 106, 101, 99, 116], str [118, 97, 108, 117, 101], str [102, 105, 101, 108, 100], str [111, 114, 100, 101, 114]]) (hT : TabG G 7 .u64 Lib.pow10Tab):
  Calls Tryd.prog 6 #[.agg #[.int .i64 p.r0.way, .int .i64 p.r0.size, .int .i64 p.r1.way, .int .i64 p.r1.size, .int .i64 p.r2.way, .int .i64 p.r2.size, .int .i64 p.r3.way, .int .i64 p.r3.size, .int .i64 p.r4.way, .int .i64 p.r4.size, .int .i64 p.time, .int .i64 p.note, .bool p.loose, .bool p.force]] w0 (Ret w0 G (fun v _ => v = .bool true)) := by
 refine enter Tryd.func6 rfl Tryd.ntmps6 rfl ?_
 intro Q hQ a HE
 have HS := St.start0 hG
 refine sr fun K hK => ?_
 refine o_bx14 HE rfl HS rfl ?_; clear HE HS; intro B1 w a HS HE
 refine rn 1 HE HS ?_; clear HE HS; intro a w HE HS
 apply hK; clear hK K
 refine wp_seq_k (fun K3 hK2 => ?_)
 refine sr fun K hK => ?_
 refine o_callP HE rfl HS rfl rfl T.g14 (c_wakes25 _ _ HS.sub m8 h8 hgw hgd) ?_
 clear HE HS; rintro _ w a HS rfl HE
 refine rn 1 HE HS ?_; clear HE HS; intro a w HE HS
 apply hK; clear hK K
 refine cond HE rfl (fun h5r => ?_) (fun h5r => ?_)
 ·have h5 := nm h5r
  refine sr fun K hK => ?_
  refine rn 1 HE HS ?_; clear HE HS; intro a w HE HS
  apply hK; clear hK K
  refine rt hQ HE HS ?_
  exact absurd h5 (by simp)
 ·have h5 := nm h5r
  refine wp_skip ?_
  refine hK2 _ _ ?_; clear hK2
  refine sr fun K hK => ?_
  refine rn 1 HE HS ?_; clear HE HS; intro a w HE HS
  refine o_callP HE rfl HS rfl rfl T.g20 (c_PrintP p _ _ HS.sub hgw hgd hT) ?_
  clear HE HS; rintro _ w a HS rfl HE
  refine rn 1 HE HS ?_; clear HE HS; intro a w HE HS
  apply hK; clear hK K
  refine wp_seq_k (fun K9 hK8 => ?_)
  refine wp_seq_k (fun K11 hK10 => ?_)
  refine drawnP [fun v => v = .agg #[.int .i64 p.r0.way, .int .i64 p.r0.size, .int .i64 p.r1.way, .int .i64 p.r1.size, .int .i64 p.r2.way, .int .i64 p.r2.size, .int .i64 p.r3.way, .int .i64 p.r3.size, .int .i64 p.r4.way, .int .i64 p.r4.size, .int .i64 p.time, .int .i64 p.note, .bool p.loose, .bool p.force], fun v => v = .bool (rightB p), fun v => v = .agg #[.int .i64 p.r0.way, .int .i64 p.r0.size, .int .i64 p.r1.way, .int .i64 p.r1.size, .int .i64 p.r2.way, .int .i64 p.r2.size, .int .i64 p.r3.way, .int .i64 p.r3.size, .int .i64 p.r4.way, .int .i64 p.r4.size, .int .i64 p.time, .int .i64 p.note, .bool p.loose, .bool p.force], fun v => v = .bool (rightB p), fun v => v = .bool (!((rightB p) == (rightB p))), fun v => v = .bool (!((rightB p) == (rightB p))), fun v => (!((rightB p) == (rightB p))) = false → v = str (printR p), fun v => (!((rightB p) == (rightB p))) = false → v = .agg #[.int .i64 p.r0.way, .int .i64 p.r0.size, .int .i64 p.r1.way, .int .i64 p.r1.size, .int .i64 p.r2.way, .int .i64 p.r2.size, .int .i64 p.r3.way, .int .i64 p.r3.size, .int .i64 p.r4.way, .int .i64 p.r4.size, .int .i64 p.time, .int .i64 p.note, .bool p.loose, .bool p.force], fun v => (!((rightB p) == (rightB p))) = false → v = str (printR p), fun v => (!((rightB p) == (rightB p))) = false → v = .bool (!((printR p) == (printR p))), fun v => v = .bool ((!((rightB p) == (rightB p))) || (!((printR p) == (printR p))))] T.mix rfl HE HS rfl ⟨?_, ?_, ?_, ?_, ?_, ?_, ?_, ?_, ?_, ?_, ?_, trivial⟩ ?_
  ·intro a w G1 hl HS HE hp
   refine o_ldA HE rfl HS rfl T.a26 (.here .here) rfl ?_; clear HE; intro a HE
   exact ⟨_, _, HS, rfl, HE.get _ _ rfl, HE.defers, rfl⟩
  ·intro a w G1 hl HS HE hp
   obtain ⟨_, e0, rfl⟩ := hp 0 10 _ rfl rfl rfl; replace HE := HE.add e0
   refine o_callP HE rfl HS rfl rfl T.g19 (c_right p _ _ HS.sub) ?_
   clear HE HS; rintro _ w a HS rfl HE
   exact ⟨_, _, HS, rfl, HE.get _ _ rfl, HE.defers, rfl⟩
  ·intro a w G1 hl HS HE hp
   refine o_ldA HE rfl HS rfl T.a26 (.here .here) rfl ?_; clear HE; intro a HE
   exact ⟨_, _, HS, rfl, HE.get _ _ rfl, HE.defers, rfl⟩
  ·intro a w G1 hl HS HE hp
   obtain ⟨_, e2, rfl⟩ := hp 2 12 _ rfl rfl rfl; replace HE := HE.add e2
   refine o_callP HE rfl HS rfl rfl T.g15 (c_Right p _ _ HS.sub) ?_
   clear HE HS; rintro _ w a HS rfl HE
   exact ⟨_, _, HS, rfl, HE.get _ _ rfl, HE.defers, rfl⟩
  ·intro a w G1 hl HS HE hp
   obtain ⟨_, e1, rfl⟩ := hp 1 11 _ rfl rfl rfl; replace HE := HE.add e1
   obtain ⟨_, e3, rfl⟩ := hp 3 13 _ rfl rfl rfl; replace HE := HE.add e3
   refine o_neB HE rfl rfl rfl Tryd.underlying4 ?_; clear HE; intro a HE
   exact ⟨_, _, HS, rfl, HE.get _ _ rfl, HE.defers, rfl⟩
  ·intro a w G1 hl HS HE hp
   obtain ⟨_, e4, rfl⟩ := hp 4 14 _ rfl rfl rfl; replace HE := HE.add e4
   refine o_move HE rfl rfl ?_; clear HE; intro a HE
   exact ⟨_, _, HS, rfl, HE.get _ _ rfl, HE.defers, rfl⟩
  ·intro a w G1 hl HS HE hp
   obtain ⟨_, eg, rfl⟩ := hp 5 15 _ rfl rfl rfl; replace HE := HE.add eg
   refine (Bool.eq_false_or_eq_true (!((rightB p) == (rightB p)))).elim (fun hb => ?_) (fun hb => ?_)
   ·skip
    refine g_off HE rfl rfl rfl hb ?_; clear HE; intro a HE
    exact ⟨_, _, HS, rfl, HE.get _ _ rfl, HE.defers, fun h => absurd (hb.symm.trans h) (by decide)⟩
   ·skip
    refine op_on HE rfl rfl hb ?_
    refine o_move HE rfl rfl ?_; clear HE; intro a HE
    exact ⟨_, _, HS, rfl, HE.get _ _ rfl, HE.defers, fun _ => rfl⟩
  ·intro a w G1 hl HS HE hp
   obtain ⟨_, eg, rfl⟩ := hp 5 15 _ rfl rfl rfl; replace HE := HE.add eg
   refine (Bool.eq_false_or_eq_true (!((rightB p) == (rightB p)))).elim (fun hb => ?_) (fun hb => ?_)
   ·skip
    refine g_off HE rfl rfl rfl hb ?_; clear HE; intro a HE
    exact ⟨_, _, HS, rfl, HE.get _ _ rfl, HE.defers, fun h => absurd (hb.symm.trans h) (by decide)⟩
   ·skip
    refine op_on HE rfl rfl hb ?_
    refine o_ldA HE rfl HS rfl T.a26 (.here .here) rfl ?_; clear HE; intro a HE
    exact ⟨_, _, HS, rfl, HE.get _ _ rfl, HE.defers, fun _ => rfl⟩
  ·intro a w G1 hl HS HE hp
   obtain ⟨_, eg, rfl⟩ := hp 5 15 _ rfl rfl rfl; replace HE := HE.add eg
   refine (Bool.eq_false_or_eq_true (!((rightB p) == (rightB p)))).elim (fun hb => ?_) (fun hb => ?_)
   ·skip
    refine g_off HE rfl rfl rfl hb ?_; clear HE; intro a HE
    exact ⟨_, _, HS, rfl, HE.get _ _ rfl, HE.defers, fun h => absurd (hb.symm.trans h) (by decide)⟩
   ·skip
    obtain ⟨_, e7, h7v⟩ := hp 7 17 _ rfl rfl rfl; cases h7v hb; replace HE := HE.add e7
    refine op_on HE rfl rfl hb ?_
    refine o_callP HE rfl HS rfl rfl T.g16 (c_Print25 p _ _ HS.sub) ?_
    clear HE HS; rintro _ w a HS rfl HE
    exact ⟨_, _, HS, rfl, HE.get _ _ rfl, HE.defers, fun _ => rfl⟩
  ·intro a w G1 hl HS HE hp
   obtain ⟨_, eg, rfl⟩ := hp 5 15 _ rfl rfl rfl; replace HE := HE.add eg
   refine (Bool.eq_false_or_eq_true (!((rightB p) == (rightB p)))).elim (fun hb => ?_) (fun hb => ?_)
   ·skip
    refine g_off HE rfl rfl rfl hb ?_; clear HE; intro a HE
    exact ⟨_, _, HS, rfl, HE.get _ _ rfl, HE.defers, fun h => absurd (hb.symm.trans h) (by decide)⟩
   ·skip
    obtain ⟨_, e6, h6v⟩ := hp 6 16 _ rfl rfl rfl; cases h6v hb; replace HE := HE.add e6
    obtain ⟨_, e8, h8v⟩ := hp 8 18 _ rfl rfl rfl; cases h8v hb; replace HE := HE.add e8
    refine op_on HE rfl rfl hb ?_
    refine o_neS HE rfl rfl rfl ?_; clear HE; intro a HE
    exact ⟨_, _, HS, rfl, HE.get _ _ rfl, HE.defers, fun _ => rfl⟩
  ·intro a w G1 hl HS HE hp
   obtain ⟨_, e5, rfl⟩ := hp 5 15 _ rfl rfl rfl; replace HE := HE.add e5
   refine (Bool.eq_false_or_eq_true (!((rightB p) == (rightB p)))).elim (fun hb => ?_) (fun hb => ?_)
   ·skip
    refine o_pick_t HE rfl rfl hb rfl ?_; clear HE; intro a HE
    exact ⟨_, _, HS, rfl, HE.get _ _ rfl, HE.defers, by rw [hb]; rfl⟩
   ·skip
    obtain ⟨_, e9, h9v⟩ := hp 9 19 _ rfl rfl rfl; cases h9v hb; replace HE := HE.add e9
    refine o_pick_f HE rfl rfl hb rfl ?_; clear HE; intro a HE
    exact ⟨_, _, HS, rfl, HE.get _ _ rfl, HE.defers, by rw [hb]; rfl⟩
  clear HE HS; intro a w HS HE hp
  obtain ⟨_, e10, rfl⟩ := hp 10 20 _ rfl rfl; replace HE := HE.add e10
  clear hp
  refine hK10 _ _ ?_; clear hK10
  refine cond HE rfl (fun h12r => ?_) (fun h12r => ?_)
  ·have h12 := nm h12r
   refine sr fun K hK => ?_
   refine rn 1 HE HS ?_; clear HE HS; intro a w HE HS
   apply hK; clear hK K
   refine rt hQ HE HS ?_
   exact absurd h12 (by simp)
  ·have h12 := nm h12r
   refine wp_skip ?_
   refine hK8 _ _ ?_; clear hK8
   refine sr fun K hK => ?_
   have hpl9 := printR_len (p := p)
   refine rn 1 HE HS ?_; clear HE HS; intro a w HE HS
   refine o_callP HE rfl HS rfl rfl T.g17 (c_Parse25 (printR p) _ _ HS.sub m8 h8 hgw hgd (by first | omega | (simp; omega))) ?_
   clear HE HS; rintro _ w a HS rfl HE
   refine rn 3 HE HS ?_; clear HE HS; intro a w HE HS
   refine o_allocZ HE rfl HS ?_; clear HE HS; intro B4 w a HS HE
   refine o_allocZ HE rfl HS ?_; clear HE HS; intro B5 w a HS HE
   refine rn 2 HE HS ?_; clear HE HS; intro a w HE HS
   apply hK; clear hK K
   refine sr fun K hK => ?_
   refine rn 1 HE HS ?_; clear HE HS; intro a w HE HS
   refine o_callP HE rfl HS rfl rfl T.g15 (c_Right p _ _ HS.sub) ?_
   clear HE HS; rintro _ w a HS rfl HE
   refine rn 2 HE HS ?_; clear HE HS; intro a w HE HS
   refine cutG 9 38 (.bool ((!(rightB p)) || ((decide ((failC (parseP (printR p)).2) = 0) && (decide (((parseP (printR p)).2) = 0) && true)) && (decide (((parseP (printR p)).1.r0.way) = p.r0.way) && (decide (((parseP (printR p)).1.r0.size) = p.r0.size) && (decide (((parseP (printR p)).1.r1.way) = p.r1.way) && (decide (((parseP (printR p)).1.r1.size) = p.r1.size) && (decide (((parseP (printR p)).1.r2.way) = p.r2.way) && (decide (((parseP (printR p)).1.r2.size) = p.r2.size) && (decide (((parseP (printR p)).1.r3.way) = p.r3.way) && (decide (((parseP (printR p)).1.r3.size) = p.r3.size) && (decide (((parseP (printR p)).1.r4.way) = p.r4.way) && (decide (((parseP (printR p)).1.r4.size) = p.r4.size) && (decide (((parseP (printR p)).1.time) = p.time) && (decide (((parseP (printR p)).1.note) = p.note) && (((parseP (printR p)).1.loose) == p.loose && (((parseP (printR p)).1.force) == p.force && true))))))))))))))))) HE HS ?_ ?_
   ·refine bsp HE (t := 29) rfl (fun hb15 => ?_) (fun hb15 => ?_)
    ·skip
     refine rn 9 HE HS ?_; clear HE HS; intro a w HE HS
     exact ⟨HS, HE.cutT (by rw [hb15] <;> rfl)⟩
    ·have hk16 := nm hb15
     refine rn 1 HE HS ?_; clear HE HS; intro a w HE HS
     refine op_on HE rfl rfl hb15 ?_
     refine o_build (cs := #[.int .i64 0, .int .i64 0]) HE rfl rfl (by kernel_rfl) ?_; clear HE; intro a HE
     refine op_on HE rfl rfl hb15 ?_
     refine o_eqA (b := decide ((failC (parseP (printR p)).2) = 0) && (decide (((parseP (printR p)).2) = 0) && true)) HE rfl rfl rfl T.q33 rfl rfl ?_; clear HE; intro a HE
     refine rn 1 HE HS ?_; clear HE HS; intro a w HE HS
     refine cutG 4 37 (.bool ((decide ((failC (parseP (printR p)).2) = 0) && (decide (((parseP (printR p)).2) = 0) && true)) && (decide (((parseP (printR p)).1.r0.way) = p.r0.way) && (decide (((parseP (printR p)).1.r0.size) = p.r0.size) && (decide (((parseP (printR p)).1.r1.way) = p.r1.way) && (decide (((parseP (printR p)).1.r1.size) = p.r1.size) && (decide (((parseP (printR p)).1.r2.way) = p.r2.way) && (decide (((parseP (printR p)).1.r2.size) = p.r2.size) && (decide (((parseP (printR p)).1.r3.way) = p.r3.way) && (decide (((parseP (printR p)).1.r3.size) = p.r3.size) && (decide (((parseP (printR p)).1.r4.way) = p.r4.way) && (decide (((parseP (printR p)).1.r4.size) = p.r4.size) && (decide (((parseP (printR p)).1.time) = p.time) && (decide (((parseP (printR p)).1.note) = p.note) && (((parseP (printR p)).1.loose) == p.loose && (((parseP (printR p)).1.force) == p.force && true)))))))))))))))) HE HS ?_ ?_
     ·refine bsp HE (t := 33) rfl (fun hb17 => ?_) (fun hb17 => ?_)
      ·have hk18 := nm hb17
       refine rn 2 HE HS ?_; clear HE HS; intro a w HE HS
       refine op_on HE rfl rfl hb17 ?_
       refine o_eqG (b := decide (((parseP (printR p)).1.r0.way) = p.r0.way) && (decide (((parseP (printR p)).1.r0.size) = p.r0.size) && (decide (((parseP (printR p)).1.r1.way) = p.r1.way) && (decide (((parseP (printR p)).1.r1.size) = p.r1.size) && (decide (((parseP (printR p)).1.r2.way) = p.r2.way) && (decide (((parseP (printR p)).1.r2.size) = p.r2.size) && (decide (((parseP (printR p)).1.r3.way) = p.r3.way) && (decide (((parseP (printR p)).1.r3.size) = p.r3.size) && (decide (((parseP (printR p)).1.r4.way) = p.r4.way) && (decide (((parseP (printR p)).1.r4.size) = p.r4.size) && (decide (((parseP (printR p)).1.time) = p.time) && (decide (((parseP (printR p)).1.note) = p.note) && (((parseP (printR p)).1.loose) == p.loose && (((parseP (printR p)).1.force) == p.force && true)))))))))))))) HE rfl rfl rfl T.Q26 rfl rfl ?_; clear HE; intro a HE
       refine rn 1 HE HS ?_; clear HE HS; intro a w HE HS
       exact ⟨HS, HE.cutT (by rw [hb17] <;> rfl)⟩
      ·skip
       refine rn 4 HE HS ?_; clear HE HS; intro a w HE HS
       exact ⟨HS, HE.cutT (by rw [hb17] <;> rfl)⟩
     clear HE HS; intro a w HE HS
     refine rn 1 HE HS ?_; clear HE HS; intro a w HE HS
     exact ⟨HS, HE.cutT (by rw [hb15] <;> rfl)⟩
   clear HE HS; intro a w HE HS
   refine rn 1 HE HS ?_; clear HE HS; intro a w HE HS
   apply hK; clear hK K
   refine rt hQ HE HS ?_
   show _ = _
   simp only [packed, Value.bool.injEq]
   cases hp : rightB p with
   | false => simp [hp]
   | true =>
    have e2 := parse_printR hp
    simp [e2, hp, failC]
end Go.Proofs.YtiinipcmghhacaaDoor.T10.E
