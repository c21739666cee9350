/- The reference's Print walked. -/
import Derived.Test.YtiinipcmghhacaaGreatDoorZF5
set_option linter.unusedVariables false
set_option linter.unusedSimpArgs false
namespace Go.Proofs.YtiinipcmghhacaaGreatDoor.T10
open Go Go.Proofs.YtiinipcmghhacaaGreatDoor.X
theorem T.g32 : goFn Tryz.prog 32 = true := by kernel_rfl
theorem T.g8 : goFn Tryz.prog 8 = true := by kernel_rfl

def spV (l : List Val) : Bs := l.flatMap fun v => [32] ++ printV v
def midE (e : Evt) : Bs := bif decide (e.type = 1) then [32, 105, 110, 118, 111, 107, 101, 32] ++ mnameS e.model ++ [32] ++ printV e.key ++ [32] ++ onameS e.op else bif decide (e.type = 2) then [32, 111, 107] else bif decide (e.type = 3) then [32, 102, 97, 105, 108] else [32, 105, 110, 102, 111]
def headE (e : Evt) : Bs := Lib.itoa e.time ++ [32] ++ printV e.client ++ midE e
theorem spV_step {l : List Val} {i : Nat} (hi : i < l.length) : spV (l.take (i + 1)) = spV (l.take i) ++ ([32] ++ printV (l.getD i ⟨0, 0, []⟩)) := by
  unfold spV
  rw [List.take_add_one, List.getElem?_eq_getElem hi, List.flatMap_append]
  simp [hi]
theorem join_sp : ∀ (x : Bs) (l : List Bs), Lib.join (x :: l) [32] = x ++ l.flatMap fun w => [32] ++ w
  | x, [] => by simp [Lib.join]
  | x, y :: l => by
    rw [join_two, join_sp y l]
    simp
theorem joinW {e : Evt} (h : rightE e = true) : Lib.join (wordsE e) [32] = headE e ++ spV e.args ++ spV e.out := by
  obtain ⟨h1, h4⟩ := right_type h
  have hsp : ∀ l : List Val, (l.map printV).flatMap (fun w => [32] ++ w) = spV l := fun l => by unfold spV; rw [List.flatMap_map]
  unfold wordsE headE midE
  by_cases ht : e.type = 1
  · rw [if_pos ht, ht]
    show Lib.join (Lib.itoa e.time :: ([printV e.client, [105, 110, 118, 111, 107, 101], mnameS e.model, printV e.key, onameS e.op] ++ (e.args.map printV ++ e.out.map printV))) [32] = _
    rw [join_sp, List.flatMap_append, List.flatMap_append, hsp, hsp]
    simp
  · rw [if_neg ht]
    have hc : e.type = 2 ∨ e.type = 3 ∨ e.type = 4 := by omega
    have key : ∀ w : Bs, Lib.join (([Lib.itoa e.time, printV e.client, w] ++ []) ++ (e.args.map printV ++ e.out.map printV)) [32] = Lib.itoa e.time ++ [32] ++ printV e.client ++ ([32] ++ w) ++ spV e.args ++ spV e.out := by
      intro w
      show Lib.join (Lib.itoa e.time :: ([printV e.client, w] ++ (e.args.map printV ++ e.out.map printV))) [32] = _
      rw [join_sp, List.flatMap_append, List.flatMap_append, hsp, hsp]
      simp
    rcases hc with hc | hc | hc <;> rw [hc] <;> exact key _
theorem printV_len40 {v : Val} (hn : I64 v.n) : (printV v).length ≤ 40 := printV_len hn
theorem spV_len {l : List Val} (h : ∀ v ∈ l, I64 v.n) : (spV l).length ≤ 41 * l.length := by
  induction l with
  | nil => simp [spV]
  | cons v vs ih =>
    have h1 := printV_len (h v List.mem_cons_self)
    have h2 := ih (fun x hx => h x (List.mem_cons_of_mem _ hx))
    unfold spV at h2 ⊢
    rw [List.flatMap_cons, List.length_append]
    simp only [List.length_append, List.length_cons, List.length_nil] at h2 ⊢
    omega
theorem spV_take {l : List Val} (h : ∀ v ∈ l, I64 v.n) (i : Nat) : (spV (l.take i)).length ≤ 41 * l.length := by
  have := spV_len (l := l.take i) fun v hv => h v (List.mem_of_mem_take hv)
  have h2 : (l.take i).length ≤ l.length := by rw [List.length_take]; omega
  omega
theorem headE_len {e : Evt} (hw : e.Wf) : (headE e).length ≤ 400 := by
  have h1 := Lib.itoa_length_le e.time hw.time.1 hw.time.2
  have h2 := printV_len hw.client.n
  have h3 := mname_len e.model
  have h4 := printV_len hw.key.n
  have h5 := oname_len e.op
  unfold headE midE
  cases decide (e.type = 1) <;> cases decide (e.type = 2) <;> cases decide (e.type = 3) <;> simp <;> omega
/-! `incognito/incognitoref10.Print` -/
set_option maxRecDepth 100000 in
set_option maxHeartbeats 4000000 in
theorem c_PrintR (e : Evt) (A1e : Option Addr) (c1e : Nat) (A2e : Option Addr) (c2e : Nat) (w0 : World) (G : Heap) (hG : Sub G w0) (hg0 : CellsAt G 1 0 [.int .i64 3, .int .i64 1, str []]) (hg1 : CellsAt G 2 0 [.int .i64 3, .int .i64 0, str []]) (hgm : CellsAt G 3 0 [str [], str [114, 101, 103], str [99, 97, 115], str [115, 101, 116], str [109, 97, 112], str [102, 105, 102, 111], str [115, 116, 97, 99, 107], str [108, 111, 99, 107], str [99, 111, 117, 110, 116], str [109, 97, 120], str [111, 109, 97, 112]]) (hgo : CellsAt G 4 0 [str [], str [119, 114, 105, 116, 101], str [114, 101, 97, 100], str [115, 119, 97, 112], str [97, 100, 100], str [100, 101, 108], str [104, 97, 115], str [112, 117, 116], str [103, 101, 116], str [112, 117, 115, 104], str [112, 111, 112], str [116, 97, 107, 101], str [102, 114, 101, 101], str [115, 99, 97, 110]]) (hgn : CellsAt G 0 0 [str [], str [105, 110, 118, 111, 107, 101], str [111, 107], str [102, 97, 105, 108], str [105, 110, 102, 111]]) (hT : TabG G 6 .u64 Lib.pow10Tab) (hr1e : Rd kVal G A1e e.args) (hr2e : Rd kVal G A2e e.out) (hwe : e.Wf) (hlo : rightE e = true → e.out.length ≤ 1000000):
  Calls Tryz.prog 10 #[.agg #[.int .i64 e.time, .int .i64 e.client.k, .int .i64 e.client.n, str e.client.s, .int .i64 e.type, .int .i64 e.model, .int .i64 e.key.k, .int .i64 e.key.n, str e.key.s, .int .i64 e.op, .slice A1e e.args.length c1e, .slice A2e e.out.length c2e, .bool e.noted, str e.note]] w0 (Ret w0 G (fun v _ => v = str (printE e))) := by
 have hwc := hwe.client
 have hwk := hwe.key
 have htm : I64 e.time := hwe.time
 have hla := hwe.argsLen
 refine enter Tryz.func10 rfl Tryz.ntmps10 rfl ?_
 intro Q hQ a HE
 have HS := St.start0 hG
 refine sr fun K hK => ?_
 refine o_bx14 HE rfl HS rfl ?_; clear HE HS; intro B1 w a HS HE
 refine rn 1 HE HS ?_; clear HE HS; intro a w HE HS
 apply hK; clear hK K
 refine wp_seq_k (fun K3 hK2 => ?_)
 refine sr fun K hK => ?_
 refine rn 1 HE HS ?_; clear HE HS; intro a w HE HS
 refine o_callP HE rfl HS rfl rfl T.g8 (c_RightR e _ _ _ _ _ _ HS.sub hr1e hr2e (by first | assumption | exact hwe)) ?_
 clear HE HS; rintro _ w a HS rfl HE
 refine rn 1 HE HS ?_; clear HE HS; intro a w HE HS
 apply hK; clear hK K
 refine cond HE rfl (fun h5r => ?_) (fun h5r => ?_)
 ·have h5 := nm h5r
  refine sr fun K hK => ?_
  refine rn 1 HE HS ?_; clear HE HS; intro a w HE HS
  apply hK; clear hK K
  refine rt hQ HE HS ?_
  have e1 : printE e = [] := by
   unfold printE
   rw [if_neg (by simpa using h5)]
  show _ = _
  rw [e1]
  rfl
 ·have h5 := nm h5r
  refine wp_skip ?_
  refine hK2 _ _ ?_; clear hK2
  refine wp_seq_k (fun K8 hK7 => ?_)
  have hre : rightE e = true := by simpa using h5
  replace hlo := hlo hre
  have hal := right_args hre
  have hhl := headE_len hwe
  have htl := Lib.itoa_length_le e.time hwe.time.1 hwe.time.2
  have hcl := printV_len hwe.client.n
  have hml := mname_len e.model
  have hkl := printV_len hwe.key.n
  have hol := oname_len e.op
  have hnt : e.note.length ≤ 100 := by have := (right_head hre).2.2; simp only [notedB, Bool.and_eq_true, decide_eq_true_eq] at this; omega
  refine drawnP [fun v => v = .pointer (some ⟨B1, 0, none⟩), fun v => v = .int .i64 e.time, fun v => v = str (Lib.itoa e.time), fun v => v = str ((Lib.itoa e.time) ++ [32]), fun v => v = .pointer (some ⟨B1, 1, none⟩), fun v => v = .agg #[.int .i64 e.client.k, .int .i64 e.client.n, str e.client.s], fun v => v = str (printV e.client), fun v => v = str (((Lib.itoa e.time) ++ [32]) ++ (printV e.client)), fun v => v = str (((Lib.itoa e.time) ++ [32]) ++ (printV e.client))] T.mix rfl HE HS rfl ⟨?_, ?_, ?_, ?_, ?_, ?_, ?_, ?_, ?_, trivial⟩ ?_
  ·intro a w G1 hl HS HE hp
   refine o_fld HE rfl rfl T.f26_0 ?_; clear HE; intro a HE
   exact ⟨_, _, HS, rfl, HE.get _ _ rfl, HE.defers, rfl⟩
  ·intro a w G1 hl HS HE hp
   obtain ⟨_, e0, rfl⟩ := hp 0 9 _ rfl rfl rfl; replace HE := HE.add e0
   refine o_ld HE rfl HS rfl T.s2 (.here .here) rfl ?_; clear HE; intro a HE
   exact ⟨_, _, HS, rfl, HE.get _ _ rfl, HE.defers, rfl⟩
  ·intro a w G1 hl HS HE hp
   obtain ⟨_, e1, rfl⟩ := hp 1 10 _ rfl rfl rfl; replace HE := HE.add e1
   refine o_callP HE rfl HS rfl rfl T.g31 (c_Print6 e.time _ _ HS.sub (by first | assumption | exact hv.n | omega)) ?_
   clear HE HS; rintro _ w a HS rfl HE
   exact ⟨_, _, HS, rfl, HE.get _ _ rfl, HE.defers, rfl⟩
  ·intro a w G1 hl HS HE hp
   obtain ⟨_, e2, rfl⟩ := hp 2 11 _ rfl rfl rfl; replace HE := HE.add e2
   refine o_cat HE rfl rfl rfl (by (simp only [List.length_append, List.length_cons, List.length_nil]; omega)) ?_; clear HE; intro a HE
   exact ⟨_, _, HS, rfl, HE.get _ _ rfl, HE.defers, rfl⟩
  ·intro a w G1 hl HS HE hp
   refine o_fld HE rfl rfl T.f26_1 ?_; clear HE; intro a HE
   exact ⟨_, _, HS, rfl, HE.get _ _ rfl, HE.defers, rfl⟩
  ·intro a w G1 hl HS HE hp
   obtain ⟨_, e4, rfl⟩ := hp 4 13 _ rfl rfl rfl; replace HE := HE.add e4
   refine o_ldA HE rfl HS rfl T.a23 (.here .here) rfl ?_; clear HE; intro a HE
   exact ⟨_, _, HS, rfl, HE.get _ _ rfl, HE.defers, rfl⟩
  ·intro a w G1 hl HS HE hp
   obtain ⟨_, e5, rfl⟩ := hp 5 14 _ rfl rfl rfl; replace HE := HE.add e5
   refine o_callP HE rfl HS rfl rfl T.g32 (c_Print7 e.client _ _ HS.sub (by first | assumption | exact hv | (constructor <;> first | assumption | (simp only [I64]; omega) | (simp; omega)))) ?_
   clear HE HS; rintro _ w a HS rfl HE
   exact ⟨_, _, HS, rfl, HE.get _ _ rfl, HE.defers, rfl⟩
  ·intro a w G1 hl HS HE hp
   obtain ⟨_, e3, rfl⟩ := hp 3 12 _ rfl rfl rfl; replace HE := HE.add e3
   obtain ⟨_, e6, rfl⟩ := hp 6 15 _ rfl rfl rfl; replace HE := HE.add e6
   refine o_cat HE rfl rfl rfl (by (simp only [List.length_append, List.length_cons, List.length_nil]; omega)) ?_; clear HE; intro a HE
   exact ⟨_, _, HS, rfl, HE.get _ _ rfl, HE.defers, rfl⟩
  ·intro a w G1 hl HS HE hp
   obtain ⟨_, e7, rfl⟩ := hp 7 16 _ rfl rfl rfl; replace HE := HE.add e7
   refine o_assign HE rfl rfl ?_; clear HE; intro a HE
   exact ⟨_, _, HS, rfl, HE.get _ _ rfl, HE.defers, rfl⟩
  clear HE HS; intro a w HS HE hp
  obtain ⟨_, e8, rfl⟩ := hp 8 3 _ rfl rfl; replace HE := HE.add e8
  clear hp
  refine hK7 _ _ ?_; clear hK7
  refine cutJ [(3, str (bif decide (e.type = 1) then ((((((((Lib.itoa e.time) ++ [32]) ++ (printV e.client)) ++ [32, 105, 110, 118, 111, 107, 101, 32]) ++ (mnameS e.model)) ++ [32]) ++ (printV e.key)) ++ [32]) ++ (onameS e.op) else bif decide (e.type = 2) then (((Lib.itoa e.time) ++ [32]) ++ (printV e.client)) ++ [32, 111, 107] else bif decide (e.type = 3) then (((Lib.itoa e.time) ++ [32]) ++ (printV e.client)) ++ [32, 102, 97, 105, 108] else (((Lib.itoa e.time) ++ [32]) ++ (printV e.client)) ++ [32, 105, 110, 102, 111]))] HE HS ?_ ?_
  ·skip
   refine sr fun K hK => ?_
   refine rn 2 HE HS ?_; clear HE HS; intro a w HE HS
   apply hK; clear hK K
   refine wp_block ?_
   refine sr fun K hK => ?_
   refine rn 2 HE HS ?_; clear HE HS; intro a w HE HS
   apply hK; clear hK K
   refine cond HE rfl (fun h11r => ?_) (fun h11r => ?_)
   ·have h11 := nm h11r
    have HE0 := HE
    replace HE := HE.cut (L' := [(0, .agg #[.int .i64 e.time, .int .i64 e.client.k, .int .i64 e.client.n, str e.client.s, .int .i64 e.type, .int .i64 e.model, .int .i64 e.key.k, .int .i64 e.key.n, str e.key.s, .int .i64 e.op, .slice A1e e.args.length c1e, .slice A2e e.out.length c2e, .bool e.noted, str e.note]), (1, .pointer (some ⟨B1, 0, none⟩)), (2, str []), (6, .agg #[.int .i64 e.time, .int .i64 e.client.k, .int .i64 e.client.n, str e.client.s, .int .i64 e.type, .int .i64 e.model, .int .i64 e.key.k, .int .i64 e.key.n, str e.key.s, .int .i64 e.op, .slice A1e e.args.length c1e, .slice A2e e.out.length c2e, .bool e.noted, str e.note]), (7, .bool (rightE e)), (8, .bool (!(rightE e))), (17, .pointer (some ⟨B1, 4, none⟩)), (18, .int .i64 e.type), (21, .bool (decide (e.type = 1))), (22, .bool (decide (e.type = 1)))]) ⟨rfl, rfl, rfl, rfl, rfl, rfl, rfl, rfl, rfl, rfl, trivial⟩
    refine drawnF (fun f G' w => G = G' ∧ St w0 G [] G' w [[(B1, Cells 26 [(0, .int .i64 e.time), (1, .int .i64 e.client.k), (2, .int .i64 e.client.n), (3, str e.client.s), (4, .int .i64 e.type), (5, .int .i64 e.model), (6, .int .i64 e.key.k), (7, .int .i64 e.key.n), (8, str e.key.s), (9, .int .i64 e.op), (10, .slice A1e e.args.length c1e), (11, .slice A2e e.out.length c2e), (12, .bool e.noted), (13, str e.note)])]]) [fun v _ => v = str (((Lib.itoa e.time) ++ [32]) ++ (printV e.client)), fun v _ => v = str ((((Lib.itoa e.time) ++ [32]) ++ (printV e.client)) ++ [32, 105, 110, 118, 111, 107, 101, 32]), fun v _ => v = .pointer (some ⟨B1, 5, none⟩), fun v _ => v = .int .i64 e.model, fun v _ => v = str (mnameS e.model), fun v _ => v = str (((((Lib.itoa e.time) ++ [32]) ++ (printV e.client)) ++ [32, 105, 110, 118, 111, 107, 101, 32]) ++ (mnameS e.model)), fun v _ => v = str ((((((Lib.itoa e.time) ++ [32]) ++ (printV e.client)) ++ [32, 105, 110, 118, 111, 107, 101, 32]) ++ (mnameS e.model)) ++ [32]), fun v _ => v = .pointer (some ⟨B1, 6, none⟩), fun v _ => v = .agg #[.int .i64 e.key.k, .int .i64 e.key.n, str e.key.s], fun v _ => v = str (printV e.key), fun v _ => v = str (((((((Lib.itoa e.time) ++ [32]) ++ (printV e.client)) ++ [32, 105, 110, 118, 111, 107, 101, 32]) ++ (mnameS e.model)) ++ [32]) ++ (printV e.key)), fun v _ => v = str ((((((((Lib.itoa e.time) ++ [32]) ++ (printV e.client)) ++ [32, 105, 110, 118, 111, 107, 101, 32]) ++ (mnameS e.model)) ++ [32]) ++ (printV e.key)) ++ [32]), fun v _ => v = .pointer (some ⟨B1, 9, none⟩), fun v _ => v = .int .i64 e.op, fun v _ => v = str (onameS e.op), fun v _ => v = str (((((((((Lib.itoa e.time) ++ [32]) ++ (printV e.client)) ++ [32, 105, 110, 118, 111, 107, 101, 32]) ++ (mnameS e.model)) ++ [32]) ++ (printV e.key)) ++ [32]) ++ (onameS e.op)), fun v _ => v = str (((((((((Lib.itoa e.time) ++ [32]) ++ (printV e.client)) ++ [32, 105, 110, 118, 111, 107, 101, 32]) ++ (mnameS e.model)) ++ [32]) ++ (printV e.key)) ++ [32]) ++ (onameS e.op))] [(3, str (((Lib.itoa e.time) ++ [32]) ++ (printV e.client)), 16)] T.mix rfl HE ⟨rfl, HS.drew⟩ rfl (fun t v k h => by simp only [List.mem_cons, Prod.mk.injEq, List.not_mem_nil, or_false] at h; obtain ⟨rfl, rfl, rfl⟩ := h; exact ⟨HE0.get _ _ rfl, rfl⟩) (AllM.get ⟨fun _ _ _ _ h => h, fun _ _ _ _ h => h, fun _ _ _ _ h => h, fun _ _ _ _ h => h, fun _ _ _ _ h => h, fun _ _ _ _ h => h, fun _ _ _ _ h => h, fun _ _ _ _ h => h, fun _ _ _ _ h => h, fun _ _ _ _ h => h, fun _ _ _ _ h => h, fun _ _ _ _ h => h, fun _ _ _ _ h => h, fun _ _ _ _ h => h, fun _ _ _ _ h => h, fun _ _ _ _ h => h, fun _ _ _ _ h => h, trivial⟩) ⟨?_, ?_, ?_, ?_, ?_, ?_, ?_, ?_, ?_, ?_, ?_, ?_, ?_, ?_, ?_, ?_, ?_, trivial⟩ ?_
    ·intro a w G1 f hcl hfi hon hW HE hp hO; obtain ⟨rfl, HS⟩ := hW
     have hfk : f 16 = false := by
      cases hq : f 16 with
      | false => rfl
      | true =>
       have hq := hcl 16 _ rfl hq 15 rfl
       have hq := hcl 15 _ rfl hq 11 rfl
       have hq := hcl 11 _ rfl hq 10 rfl
       have hq := hcl 10 _ rfl hq 6 rfl
       have hq := hcl 6 _ rfl hq 5 rfl
       have hq := hcl 5 _ rfl hq 1 rfl
       have hq := hcl 1 _ rfl hq 0 rfl
       rw [hfi] at hq; cases hq
     replace HE := HE.add (hO 3 (str (((Lib.itoa e.time) ++ [32]) ++ (printV e.client))) 16 (by simp) hfk)
     refine o_move HE rfl rfl ?_; clear HE; intro a HE
     exact ⟨_, _, Heap.le.refl _, ⟨rfl, HS⟩, fun d hd => (by cases hd; exact HE.get _ _ rfl), HE.defers, rfl⟩
    ·intro a w G1 f hcl hfi hon hW HE hp hO; obtain ⟨rfl, HS⟩ := hW
     obtain ⟨_, e0, rfl⟩ := hp 0 23 _ (hon 0 rfl) rfl rfl; replace HE := HE.add e0
     refine o_cat HE rfl rfl rfl (by (simp only [List.length_append, List.length_cons, List.length_nil]; omega)) ?_; clear HE; intro a HE
     exact ⟨_, _, Heap.le.refl _, ⟨rfl, HS⟩, fun d hd => (by cases hd; exact HE.get _ _ rfl), HE.defers, rfl⟩
    ·intro a w G1 f hcl hfi hon hW HE hp hO; obtain ⟨rfl, HS⟩ := hW
     refine o_fld HE rfl rfl T.f26_3 ?_; clear HE; intro a HE
     exact ⟨_, _, Heap.le.refl _, ⟨rfl, HS⟩, fun d hd => (by cases hd; exact HE.get _ _ rfl), HE.defers, rfl⟩
    ·intro a w G1 f hcl hfi hon hW HE hp hO; obtain ⟨rfl, HS⟩ := hW
     obtain ⟨_, e2, rfl⟩ := hp 2 25 _ (hon 2 rfl) rfl rfl; replace HE := HE.add e2
     refine o_ld HE rfl HS rfl T.s3 (.here .here) rfl ?_; clear HE; intro a HE
     exact ⟨_, _, Heap.le.refl _, ⟨rfl, HS⟩, fun d hd => (by cases hd; exact HE.get _ _ rfl), HE.defers, rfl⟩
    ·intro a w G1 f hcl hfi hon hW HE hp hO; obtain ⟨rfl, HS⟩ := hW
     obtain ⟨_, e3, rfl⟩ := hp 3 26 _ (hon 3 rfl) rfl rfl; replace HE := HE.add e3
     refine o_callP HE rfl HS rfl rfl T.g33 (c_mname e.model _ _ HS.sub) ?_
     clear HE HS; rintro _ w a HS rfl HE
     exact ⟨_, _, Heap.le.refl _, ⟨rfl, HS⟩, fun d hd => (by cases hd; exact HE.get _ _ rfl), HE.defers, rfl⟩
    ·intro a w G1 f hcl hfi hon hW HE hp hO; obtain ⟨rfl, HS⟩ := hW
     obtain ⟨_, e1, rfl⟩ := hp 1 24 _ (hon 1 rfl) rfl rfl; replace HE := HE.add e1
     obtain ⟨_, e4, rfl⟩ := hp 4 27 _ (hon 4 rfl) rfl rfl; replace HE := HE.add e4
     refine o_cat HE rfl rfl rfl (by (simp only [List.length_append, List.length_cons, List.length_nil]; omega)) ?_; clear HE; intro a HE
     exact ⟨_, _, Heap.le.refl _, ⟨rfl, HS⟩, fun d hd => (by cases hd; exact HE.get _ _ rfl), HE.defers, rfl⟩
    ·intro a w G1 f hcl hfi hon hW HE hp hO; obtain ⟨rfl, HS⟩ := hW
     obtain ⟨_, e5, rfl⟩ := hp 5 28 _ (hon 5 rfl) rfl rfl; replace HE := HE.add e5
     refine o_cat HE rfl rfl rfl (by (simp only [List.length_append, List.length_cons, List.length_nil]; omega)) ?_; clear HE; intro a HE
     exact ⟨_, _, Heap.le.refl _, ⟨rfl, HS⟩, fun d hd => (by cases hd; exact HE.get _ _ rfl), HE.defers, rfl⟩
    ·intro a w G1 f hcl hfi hon hW HE hp hO; obtain ⟨rfl, HS⟩ := hW
     refine o_fld HE rfl rfl T.f26_4 ?_; clear HE; intro a HE
     exact ⟨_, _, Heap.le.refl _, ⟨rfl, HS⟩, fun d hd => (by cases hd; exact HE.get _ _ rfl), HE.defers, rfl⟩
    ·intro a w G1 f hcl hfi hon hW HE hp hO; obtain ⟨rfl, HS⟩ := hW
     obtain ⟨_, e7, rfl⟩ := hp 7 30 _ (hon 7 rfl) rfl rfl; replace HE := HE.add e7
     refine o_ldA HE rfl HS rfl T.a23 (.here .here) rfl ?_; clear HE; intro a HE
     exact ⟨_, _, Heap.le.refl _, ⟨rfl, HS⟩, fun d hd => (by cases hd; exact HE.get _ _ rfl), HE.defers, rfl⟩
    ·intro a w G1 f hcl hfi hon hW HE hp hO; obtain ⟨rfl, HS⟩ := hW
     obtain ⟨_, e8, rfl⟩ := hp 8 31 _ (hon 8 rfl) rfl rfl; replace HE := HE.add e8
     refine o_callP HE rfl HS rfl rfl T.g32 (c_Print7 e.key _ _ HS.sub (by first | assumption | exact hv | (constructor <;> first | assumption | (simp only [I64]; omega) | (simp; omega)))) ?_
     clear HE HS; rintro _ w a HS rfl HE
     exact ⟨_, _, Heap.le.refl _, ⟨rfl, HS⟩, fun d hd => (by cases hd; exact HE.get _ _ rfl), HE.defers, rfl⟩
    ·intro a w G1 f hcl hfi hon hW HE hp hO; obtain ⟨rfl, HS⟩ := hW
     obtain ⟨_, e6, rfl⟩ := hp 6 29 _ (hon 6 rfl) rfl rfl; replace HE := HE.add e6
     obtain ⟨_, e9, rfl⟩ := hp 9 32 _ (hon 9 rfl) rfl rfl; replace HE := HE.add e9
     refine o_cat HE rfl rfl rfl (by (simp only [List.length_append, List.length_cons, List.length_nil]; omega)) ?_; clear HE; intro a HE
     exact ⟨_, _, Heap.le.refl _, ⟨rfl, HS⟩, fun d hd => (by cases hd; exact HE.get _ _ rfl), HE.defers, rfl⟩
    ·intro a w G1 f hcl hfi hon hW HE hp hO; obtain ⟨rfl, HS⟩ := hW
     obtain ⟨_, e10, rfl⟩ := hp 10 33 _ (hon 10 rfl) rfl rfl; replace HE := HE.add e10
     refine o_cat HE rfl rfl rfl (by (simp only [List.length_append, List.length_cons, List.length_nil]; omega)) ?_; clear HE; intro a HE
     exact ⟨_, _, Heap.le.refl _, ⟨rfl, HS⟩, fun d hd => (by cases hd; exact HE.get _ _ rfl), HE.defers, rfl⟩
    ·intro a w G1 f hcl hfi hon hW HE hp hO; obtain ⟨rfl, HS⟩ := hW
     refine o_fld HE rfl rfl T.f26_5 ?_; clear HE; intro a HE
     exact ⟨_, _, Heap.le.refl _, ⟨rfl, HS⟩, fun d hd => (by cases hd; exact HE.get _ _ rfl), HE.defers, rfl⟩
    ·intro a w G1 f hcl hfi hon hW HE hp hO; obtain ⟨rfl, HS⟩ := hW
     obtain ⟨_, e12, rfl⟩ := hp 12 35 _ (hon 12 rfl) rfl rfl; replace HE := HE.add e12
     refine o_ld HE rfl HS rfl T.s3 (.here .here) rfl ?_; clear HE; intro a HE
     exact ⟨_, _, Heap.le.refl _, ⟨rfl, HS⟩, fun d hd => (by cases hd; exact HE.get _ _ rfl), HE.defers, rfl⟩
    ·intro a w G1 f hcl hfi hon hW HE hp hO; obtain ⟨rfl, HS⟩ := hW
     obtain ⟨_, e13, rfl⟩ := hp 13 36 _ (hon 13 rfl) rfl rfl; replace HE := HE.add e13
     refine o_callP HE rfl HS rfl rfl T.g34 (c_oname e.op _ _ HS.sub) ?_
     clear HE HS; rintro _ w a HS rfl HE
     exact ⟨_, _, Heap.le.refl _, ⟨rfl, HS⟩, fun d hd => (by cases hd; exact HE.get _ _ rfl), HE.defers, rfl⟩
    ·intro a w G1 f hcl hfi hon hW HE hp hO; obtain ⟨rfl, HS⟩ := hW
     obtain ⟨_, e11, rfl⟩ := hp 11 34 _ (hon 11 rfl) rfl rfl; replace HE := HE.add e11
     obtain ⟨_, e14, rfl⟩ := hp 14 37 _ (hon 14 rfl) rfl rfl; replace HE := HE.add e14
     refine o_cat HE rfl rfl rfl (by (simp only [List.length_append, List.length_cons, List.length_nil]; omega)) ?_; clear HE; intro a HE
     exact ⟨_, _, Heap.le.refl _, ⟨rfl, HS⟩, fun d hd => (by cases hd; exact HE.get _ _ rfl), HE.defers, rfl⟩
    ·intro a w G1 f hcl hfi hon hW HE hp hO; obtain ⟨rfl, HS⟩ := hW
     obtain ⟨_, e15, rfl⟩ := hp 15 38 _ (hon 15 rfl) rfl rfl; replace HE := HE.add e15
     refine o_assign HE rfl rfl ?_; clear HE; intro a HE
     exact ⟨_, _, Heap.le.refl _, ⟨rfl, HS⟩, fun d hd => (by cases hd; exact HE.get _ _ rfl), HE.defers, rfl⟩
    clear HE HS; intro a w G12 f hle13 hall HW HE hp; obtain ⟨rfl, HS⟩ := HW
    clear hle13
    obtain ⟨_, e16, rfl⟩ := hp 16 3 _ rfl rfl; replace HE := HE.add e16
    clear hp hall
    exact ⟨HS, HE.cutX ⟨by first | rfl | (rw [h11r]; rfl) | (rw [h11r]; rfl) | (simp [h11r, lk]; done), trivial⟩⟩
   ·have h11 := nm h11r
    refine sr fun K hK => ?_
    refine rn 2 HE HS ?_; clear HE HS; intro a w HE HS
    apply hK; clear hK K
    refine cond HE rfl (fun h15r => ?_) (fun h15r => ?_)
    ·have h15 := nm h15r
     refine wp_region_lit ?_
     refine rn 1 HE HS ?_; clear HE HS; intro a w HE HS
     refine o_cat HE rfl rfl rfl (by (simp only [List.length_append, List.length_cons, List.length_nil]; omega)) ?_; clear HE; intro a HE
     refine rn 1 HE HS ?_; clear HE HS; intro a w HE HS
     exact ⟨HS, HE.cutX ⟨by first | rfl | (rw [h11r, h15r]; rfl) | (rw [h11r]; rfl) | (simp [h11r, h15r, lk]; done), trivial⟩⟩
    ·have h15 := nm h15r
     refine sr fun K hK => ?_
     refine rn 2 HE HS ?_; clear HE HS; intro a w HE HS
     apply hK; clear hK K
     refine cond HE rfl (fun h17r => ?_) (fun h17r => ?_)
     ·have h17 := nm h17r
      refine wp_region_lit ?_
      refine rn 1 HE HS ?_; clear HE HS; intro a w HE HS
      refine o_cat HE rfl rfl rfl (by (simp only [List.length_append, List.length_cons, List.length_nil]; omega)) ?_; clear HE; intro a HE
      refine rn 1 HE HS ?_; clear HE HS; intro a w HE HS
      exact ⟨HS, HE.cutX ⟨by first | rfl | (rw [h11r, h15r, h17r]; rfl) | (rw [h11r]; rfl) | (simp [h11r, h15r, h17r, lk]; done), trivial⟩⟩
     ·have h17 := nm h17r
      refine wp_region_lit ?_
      refine rn 1 HE HS ?_; clear HE HS; intro a w HE HS
      refine o_cat HE rfl rfl rfl (by (simp only [List.length_append, List.length_cons, List.length_nil]; omega)) ?_; clear HE; intro a HE
      refine rn 1 HE HS ?_; clear HE HS; intro a w HE HS
      exact ⟨HS, HE.cutX ⟨by first | rfl | (rw [h11r, h15r, h17r]; rfl) | (rw [h11r]; rfl) | (simp [h11r, h15r, h17r, lk]; done), trivial⟩⟩
  clear HE HS; intro a w HE HS
  refine wp_seq_k (fun K19 hK18 => ?_)
  refine sr fun K hK => ?_
  refine rn 1 HE HS ?_; clear HE HS; intro a w HE HS
  apply hK; clear hK K
  refine wp_block ?_
  have hzz : (bif decide (e.type = 1) then ((((((((Lib.itoa e.time) ++ [32]) ++ (printV e.client)) ++ [32, 105, 110, 118, 111, 107, 101, 32]) ++ (mnameS e.model)) ++ [32]) ++ (printV e.key)) ++ [32]) ++ (onameS e.op) else bif decide (e.type = 2) then (((Lib.itoa e.time) ++ [32]) ++ (printV e.client)) ++ [32, 111, 107] else bif decide (e.type = 3) then (((Lib.itoa e.time) ++ [32]) ++ (printV e.client)) ++ [32, 102, 97, 105, 108] else (((Lib.itoa e.time) ++ [32]) ++ (printV e.client)) ++ [32, 105, 110, 102, 111]) = (headE e ++ spV (e.args.take 0)) := by
   unfold headE midE spV
   rw [List.take_zero]
   cases decide (e.type = 1) <;> cases decide (e.type = 2) <;> cases decide (e.type = 3) <;> simp
  rw [hzz] at HE; clear hzz
  have hsli := spV_take (fun v hv => (hwe.args v hv).n) (l := e.args)
  refine loop (fun (i : Nat) a' w' => St w0 G [] G w' [[(B1, Cells 26 [(0, .int .i64 e.time), (1, .int .i64 e.client.k), (2, .int .i64 e.client.n), (3, str e.client.s), (4, .int .i64 e.type), (5, .int .i64 e.model), (6, .int .i64 e.key.k), (7, .int .i64 e.key.n), (8, str e.key.s), (9, .int .i64 e.op), (10, .slice A1e e.args.length c1e), (11, .slice A2e e.out.length c2e), (12, .bool e.noted), (13, str e.note)])]] ∧ Env a' 87 [] [(1, .pointer (some ⟨B1, 0, none⟩)), (3, str (headE e ++ spV (e.args.take i))), (4, .int .i64 ((i : Nat) : Int))] ∧ (i ≤ e.args.length)) (fun (i : Nat) => e.args.length - i) 0 ⟨HS, HE.cut ⟨rfl, rfl, rfl, trivial⟩, Nat.zero_le _⟩ ?_
  clear HE HS; intro i a w ⟨HS, HE, hi⟩
  refine wp_seq_k (fun K23 hK22 => ?_)
  refine sr fun K hK => ?_
  refine rn 5 HE HS ?_; clear HE HS; intro a w HE HS
  apply hK; clear hK K
  refine cond HE rfl (fun h25r => ?_) (fun h25r => ?_)
  ·have h25 := nm h25r
   refine wp_skip ?_
   refine hK22 _ _ ?_; clear hK22
   refine wp_seq_k (fun K27 hK26 => ?_)
   refine wp_block ?_
   refine wp_region_lit ?_
   refine rn 1 HE HS ?_; clear HE HS; intro a w HE HS
   have hvw : (e.args.getD i ⟨0, 0, []⟩).Wf := hwe.args _ (val_mem (l := e.args) (i := i) (by omega))
   have hvl := printV_len hvw.n
   have hst9 := hsli i
   refine o_cat HE rfl rfl rfl (by (simp only [List.length_append, List.length_cons, List.length_nil]; omega)) ?_; clear HE; intro a HE
   refine rn 3 HE HS ?_; clear HE HS; intro a w HE HS
   have hi28 : ((i : Nat) : Int).toNat < e.args.length := by omega
   obtain ⟨eb28, eo28, hA28, el28⟩ := Rd.at hr1e (List.getElem?_eq_getElem hi28); cases hA28
   rw [show e.args[((i : Nat) : Int).toNat] = (e.args.getD i ⟨0, 0, []⟩) from getD_get (i := i) hi28 _] at el28
   have el28 := kVal_open el28
   refine o_ixL HE rfl rfl rfl T.l24 ⟨by omega, by omega⟩ ?_; clear HE; intro a HE
   refine o_ldIA HE rfl HS rfl el28 T.a23 ?_; clear HE; intro a HE
   refine o_callP HE rfl HS rfl rfl T.g32 (c_Print7 (e.args.getD i ⟨0, 0, []⟩) _ _ HS.sub (by first | assumption | exact hv | (constructor <;> first | assumption | (simp only [I64]; omega) | (simp; omega)))) ?_
   clear HE HS; rintro _ w a HS rfl HE
   refine o_cat HE rfl rfl rfl (by (simp only [List.length_append, List.length_cons, List.length_nil]; omega)) ?_; clear HE; intro a HE
   refine rn 1 HE HS ?_; clear HE HS; intro a w HE HS
   refine hK26 _ _ ?_; clear hK26
   refine wp_region_lit ?_
   refine rn 3 HE HS ?_; clear HE HS; intro a w HE HS
   have hzz : ((headE e ++ spV (e.args.take i)) ++ [32]) ++ (printV (e.args.getD i ⟨0, 0, []⟩)) = headE e ++ spV (e.args.take (i + 1)) := by rw [spV_step (by omega)]; simp
   rw [hzz] at HE; clear hzz
   exact ⟨i + 1, ⟨HS, HE.cut ⟨rfl, rfl, rfl, trivial⟩, by omega⟩, by omega⟩
  ·have h25 := nm h25r
   refine wp_exit ?_
   refine hK18 _ _ ?_; clear hK18
   refine wp_seq_k (fun K30 hK29 => ?_)
   refine sr fun K hK => ?_
   refine rn 1 HE HS ?_; clear HE HS; intro a w HE HS
   apply hK; clear hK K
   refine wp_block ?_
   have hi9 : i = e.args.length := by omega
   have hzz : headE e ++ spV (e.args.take i) = headE e ++ spV (e.args.take i) ++ spV (e.out.take 0) := by
    rw [hi9, List.take_length]
    simp [spV]
   rw [hzz] at HE; clear hzz
   have hslk := spV_take (fun v hv => (hwe.out v hv).n) (l := e.out)
   refine loop (fun (k : Nat) a' w' => St w0 G [] G w' [[(B1, Cells 26 [(0, .int .i64 e.time), (1, .int .i64 e.client.k), (2, .int .i64 e.client.n), (3, str e.client.s), (4, .int .i64 e.type), (5, .int .i64 e.model), (6, .int .i64 e.key.k), (7, .int .i64 e.key.n), (8, str e.key.s), (9, .int .i64 e.op), (10, .slice A1e e.args.length c1e), (11, .slice A2e e.out.length c2e), (12, .bool e.noted), (13, str e.note)])]] ∧ Env a' 87 [] [(1, .pointer (some ⟨B1, 0, none⟩)), (3, str (headE e ++ spV (e.args.take i) ++ spV (e.out.take k))), (5, .int .i64 ((k : Nat) : Int))] ∧ (k ≤ e.out.length)) (fun (k : Nat) => e.out.length - k) 0 ⟨HS, HE.cut ⟨rfl, rfl, rfl, trivial⟩, Nat.zero_le _⟩ ?_
   clear HE HS; intro k a w ⟨HS, HE, hk⟩
   refine wp_seq_k (fun K34 hK33 => ?_)
   refine sr fun K hK => ?_
   refine rn 5 HE HS ?_; clear HE HS; intro a w HE HS
   apply hK; clear hK K
   refine cond HE rfl (fun h36r => ?_) (fun h36r => ?_)
   ·have h36 := nm h36r
    refine wp_skip ?_
    refine hK33 _ _ ?_; clear hK33
    refine wp_seq_k (fun K38 hK37 => ?_)
    refine wp_block ?_
    refine wp_region_lit ?_
    refine rn 1 HE HS ?_; clear HE HS; intro a w HE HS
    have hfi9 := hsli i
    have hvw : (e.out.getD k ⟨0, 0, []⟩).Wf := hwe.out _ (val_mem (l := e.out) (i := k) (by omega))
    have hvl := printV_len hvw.n
    have hst9 := hslk k
    refine o_cat HE rfl rfl rfl (by (simp only [List.length_append, List.length_cons, List.length_nil]; omega)) ?_; clear HE; intro a HE
    refine rn 3 HE HS ?_; clear HE HS; intro a w HE HS
    have hi39 : ((k : Nat) : Int).toNat < e.out.length := by omega
    obtain ⟨eb39, eo39, hA39, el39⟩ := Rd.at hr2e (List.getElem?_eq_getElem hi39); cases hA39
    rw [show e.out[((k : Nat) : Int).toNat] = (e.out.getD k ⟨0, 0, []⟩) from getD_get (i := k) hi39 _] at el39
    have el39 := kVal_open el39
    refine o_ixL HE rfl rfl rfl T.l24 ⟨by omega, by omega⟩ ?_; clear HE; intro a HE
    refine o_ldIA HE rfl HS rfl el39 T.a23 ?_; clear HE; intro a HE
    refine o_callP HE rfl HS rfl rfl T.g32 (c_Print7 (e.out.getD k ⟨0, 0, []⟩) _ _ HS.sub (by first | assumption | exact hv | (constructor <;> first | assumption | (simp only [I64]; omega) | (simp; omega)))) ?_
    clear HE HS; rintro _ w a HS rfl HE
    refine o_cat HE rfl rfl rfl (by (simp only [List.length_append, List.length_cons, List.length_nil]; omega)) ?_; clear HE; intro a HE
    refine rn 1 HE HS ?_; clear HE HS; intro a w HE HS
    refine hK37 _ _ ?_; clear hK37
    refine wp_region_lit ?_
    refine rn 3 HE HS ?_; clear HE HS; intro a w HE HS
    have hzz : ((headE e ++ spV (e.args.take i) ++ spV (e.out.take k)) ++ [32]) ++ (printV (e.out.getD k ⟨0, 0, []⟩)) = headE e ++ spV (e.args.take i) ++ spV (e.out.take (k + 1)) := by rw [spV_step (by omega)]; simp
    rw [hzz] at HE; clear hzz
    exact ⟨k + 1, ⟨HS, HE.cut ⟨rfl, rfl, rfl, trivial⟩, by omega⟩, by omega⟩
   ·have h36 := nm h36r
    refine wp_exit ?_
    refine hK29 _ _ ?_; clear hK29
    refine cutJ [(3, str (bif e.noted then ((headE e ++ spV (e.args.take i) ++ spV (e.out.take k)) ++ [32, 59]) ++ e.note else headE e ++ spV (e.args.take i) ++ spV (e.out.take k)))] HE HS ?_ ?_
    ·skip
     refine sr fun K hK => ?_
     refine rn 2 HE HS ?_; clear HE HS; intro a w HE HS
     apply hK; clear hK K
     refine cond HE rfl (fun h41r => ?_) (fun h41r => ?_)
     ·have h41 := nm h41r
      refine wp_region_lit ?_
      have hfa := hsli i
      have hfo := hslk k
      refine rn 1 HE HS ?_; clear HE HS; intro a w HE HS
      refine o_cat HE rfl rfl rfl (by (simp only [List.length_append, List.length_cons, List.length_nil]; omega)) ?_; clear HE; intro a HE
      refine rn 2 HE HS ?_; clear HE HS; intro a w HE HS
      refine o_cat HE rfl rfl rfl (by (simp only [List.length_append, List.length_cons, List.length_nil]; omega)) ?_; clear HE; intro a HE
      refine rn 1 HE HS ?_; clear HE HS; intro a w HE HS
      exact ⟨HS, HE.cutX ⟨by first | rfl | (rw [h41r]; rfl) | (rw [h41r]; rfl) | (simp [h41r, lk]; done), trivial⟩⟩
     ·have h41 := nm h41r
      refine wp_skip ?_
      exact ⟨HS, HE.cutX ⟨by first | rfl | (rw [h41r]; rfl) | (rw [h41r]; rfl) | (simp [h41r, lk]; done), trivial⟩⟩
    clear HE HS; intro a w HE HS
    refine sr fun K hK => ?_
    refine rn 2 HE HS ?_; clear HE HS; intro a w HE HS
    apply hK; clear hK K
    refine rt hQ HE HS ?_
    have hk9 : k = e.out.length := by omega
    have e1 : printE e = (bif e.noted then ((headE e ++ spV (e.args.take i) ++ spV (e.out.take k)) ++ [32, 59]) ++ e.note else headE e ++ spV (e.args.take i) ++ spV (e.out.take k)) := by
     unfold printE
     rw [if_pos hre, joinW hre, hk9, hi9, List.take_length, List.take_length]
     cases e.noted <;> simp
    show _ = _
    rw [e1]
    rfl
end Go.Proofs.YtiinipcmghhacaaGreatDoor.T10
