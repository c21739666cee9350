/- Own text. -/
import Derived.Test.YtnfadpkhjfillaaDoorU5
set_option linter.unusedVariables false
set_option linter.unusedSimpArgs false
set_option maxRecDepth 100000
set_option maxHeartbeats 4000000
namespace Go.Proofs.YtnfadpkhjfillaaDoor.T28
open Go Go.Proofs.YtnfadpkhjfillaaDoor.X
instance : LZ Tryd.prog 89 [(0, .int .i64 0), (1, .int .i64 0), (2, .int .i64 0), (3, str []), (4, .int .i64 0), (5, .int .i64 0), (6, .int .i64 0), (7, .int .i64 0), (8, str []), (9, .int .i64 0), (10, .slice none 0 0), (11, .slice none 0 0), (12, .bool false), (13, str []), (14, .slice none 0 0)] := ⟨⟨.agg #[.int .i64 0, .int .i64 0, .int .i64 0, str [], .int .i64 0, .int .i64 0, .int .i64 0, .int .i64 0, str [], .int .i64 0, .slice none 0 0, .slice none 0 0, .bool false, str [], .slice none 0 0], by kernel_rfl, ⟨rfl, rfl, rfl, rfl, rfl, rfl, rfl, rfl, rfl, rfl, rfl, rfl, rfl, rfl, rfl, trivial⟩⟩⟩
theorem T.a89 : aggSz Tryd.prog 89 = some 15 := by kernel_rfl
instance : AG Tryd.prog 89 15 := ⟨T.a89⟩
theorem T.f39_0 : fieldOff Tryd.prog 39 0 = some 0 := by kernel_rfl
instance : FO Tryd.prog 39 0 0 := ⟨T.f39_0⟩
theorem T.f89_0 : fieldOff Tryd.prog 89 0 = some 0 := by kernel_rfl
instance : FO Tryd.prog 89 0 0 := ⟨T.f89_0⟩
theorem T.f89_1 : fieldOff Tryd.prog 89 1 = some 14 := by kernel_rfl
instance : FO Tryd.prog 89 1 14 := ⟨T.f89_1⟩
theorem T.g36 : goFn Tryd.prog 36 = true := by kernel_rfl
theorem T.g47 : goFn Tryd.prog 47 = true := by kernel_rfl
theorem T.l85 : slOf Tryd.prog 85 = some (89, 15) := by kernel_rfl
theorem T.p50 : apOf Tryd.prog 50 = some (49, 3, 32) := by kernel_rfl
theorem T.p85 : apOf Tryd.prog 85 = some (89, 15, 192) := by kernel_rfl
theorem T.s37 : scal Tryd.prog 37 = true := by kernel_rfl
instance : SC Tryd.prog 37 := ⟨T.s37⟩

/-! Events with the domains of their values. -/
structure VE where
  ev : Evt
  ds : List Int deriving DecidableEq
def kVE : Knd VE where
  sz := 15
  R := fun G x cs => ∃ A1 c1 A2 c2 A3 c3, cs = evtCells x.ev A1 c1 A2 c2 ++ [.slice A3 x.ds.length c3] ∧ (x.ev.args.length ≤ c1 ∧ Rd kVal G A1 x.ev.args ∧ x.ev.out.length ≤ c2 ∧ Rd kVal G A2 x.ev.out) ∧ x.ds.length ≤ c3 ∧ Rd (Knd.int .i64) G A3 x.ds
  len := by rintro G x cs ⟨A1, c1, A2, c2, A3, c3, rfl, _⟩; rfl
  le := by
    rintro G G' x cs h ⟨A1, c1, A2, c2, A3, c3, rfl, ⟨h1, h2, h3, h4⟩, h5, h6⟩
    exact ⟨A1, c1, A2, c2, A3, c3, rfl, ⟨h1, h2.le h, h3, h4.le h⟩, h5, h6.le h⟩
theorem kVE_mk {G : Heap} (x : VE) {A1 c1 A2 c2 A3 c3} (h1 : x.ev.args.length ≤ c1) (h2 : Rd kVal G A1 x.ev.args) (h3 : x.ev.out.length ≤ c2) (h4 : Rd kVal G A2 x.ev.out) (h5 : x.ds.length ≤ c3) (h6 : Rd (Knd.int .i64) G A3 x.ds) : kVE.R G x (evtCells x.ev A1 c1 A2 c2 ++ [.slice A3 x.ds.length c3]) := ⟨A1, c1, A2, c2, A3, c3, rfl, ⟨h1, h2, h3, h4⟩, h5, h6⟩
theorem kVE_open {G : Heap} {b o : Nat} {x : VE} (h : ElAt kVE G b o x) : ∃ A1 c1 A2 c2 A3 c3, CellsAt G b o (evtCells x.ev A1 c1 A2 c2 ++ [.slice A3 x.ds.length c3]) ∧ x.ev.args.length ≤ c1 ∧ Rd kVal G A1 x.ev.args ∧ x.ev.out.length ≤ c2 ∧ Rd kVal G A2 x.ev.out ∧ x.ds.length ≤ c3 ∧ Rd (Knd.int .i64) G A3 x.ds := by
  obtain ⟨cs, ⟨A1, c1, A2, c2, A3, c3, rfl, ⟨h1, h2, h3, h4⟩, h5, h6⟩, hc⟩ := h
  exact ⟨A1, c1, A2, c2, A3, c3, hc, h1, h2, h3, h4, h5, h6⟩
def kLI : Knd (List Int) where
  sz := 1
  R := fun G x cs => ∃ A c, cs = [.slice A x.length c] ∧ x.length ≤ c ∧ Rd (Knd.int .i64) G A x
  len := by rintro G x cs ⟨A, c, rfl, _⟩; rfl
  le := by
    rintro G G' x cs h ⟨A, c, rfl, h1, h2⟩
    exact ⟨A, c, rfl, h1, h2.le h⟩
theorem kLI_mk {G : Heap} (x : List Int) {A c} (h1 : x.length ≤ c) (h2 : Rd (Knd.int .i64) G A x) : kLI.R G x [.slice A x.length c] := ⟨A, c, rfl, h1, h2⟩
theorem kLI_open {G : Heap} {b o : Nat} {x : List Int} (h : ElAt kLI G b o x) : ∃ A c, CellsAt G b o [.slice A x.length c] ∧ x.length ≤ c ∧ Rd (Knd.int .i64) G A x := by
  obtain ⟨cs, ⟨A, c, rfl, h1, h2⟩, hc⟩ := h
  exact ⟨A, c, hc, h1, h2⟩
def lastCall (h : List Evt) (c : Val) : Nat → Option Nat
  | 0 => none
  | n + 1 => if (h.getD n E0).type = 1 ∧ (h.getD n E0).client = c then some n else lastCall h c n
def callF (h : List Evt) (n : Nat) : Val → Option Int := fun c => (lastCall h c n).map fun j => ((j : Nat) : Int)
def calledE (h : List Evt) (i : Nat) : Evt := match lastCall h (h.getD i E0).client (i + 1) with
  | some j => h.getD j E0
  | none => E0
def domsE (h : List Evt) (i : Nat) : List Int :=
  if (h.getD i E0).type = 1 then ([0] ++ [1]) ++ doms (findS (h.getD i E0).model (h.getD i E0).op).1.ins
  else if (h.getD i E0).type = 2 then [0] ++ (outsS (calledE h i).model (calledE h i).op (h.getD i E0).out).1
  else [0]
def veE (h : List Evt) (i : Nat) : VE := ⟨h.getD i E0, domsE h i⟩
def vesS (h : List Evt) (n : Nat) : List VE := (List.range n).map (veE h)
def allV (h : List Evt) : List VE := if (checkS h).1 = 0 then vesS h h.length else []
theorem vesS_step (h : List Evt) (n : Nat) : vesS h n ++ [veE h n] = vesS h (n + 1) := by unfold vesS; rw [List.range_succ, List.map_append]; rfl
theorem vesS_len (h : List Evt) (n : Nat) : (vesS h n).length = n := by simp [vesS]
theorem args_doms (m o : Int) : (argsD m o).1 = doms (findS m o).1.ins := by
  unfold argsD
  cases e : (findS m o).2 with
  | true => rw [if_pos rfl]
  | false =>
    rw [if_neg (by decide)]
    unfold findS at e ⊢
    split at e
    · cases e
    · first | rfl | (rename_i h; rw [h]; rfl)
theorem lastCall_lt {h : List Evt} {c : Val} : ∀ {n j : Nat}, lastCall h c n = some j → j < n
  | 0, _, e => by cases e
  | n + 1, j, e => by
    unfold lastCall at e
    split at e
    · cases e; omega
    · have := lastCall_lt e; omega
theorem callF_rng (h : List Evt) (i : Nat) (c : Val) : 0 ≤ (callF h i c).getD 0 ∧ (callF h i c).getD 0 ≤ ((i : Nat) : Int) := by
  unfold callF
  cases e : lastCall h c i with
  | none => simp
  | some j => have := lastCall_lt e; simp; omega
theorem callF_none (h : List Evt) : callF h 0 = fun _ => none := rfl
theorem call_step {h : List Evt} {i : Nat} (ht : (h.getD i E0).type = 1) : upd (callF h i) (h.getD i E0).client (some ((i : Nat) : Int)) = callF h (i + 1) := by
  funext c
  unfold upd callF
  show _ = Option.map _ (if (h.getD i E0).type = 1 ∧ (h.getD i E0).client = c then some i else lastCall h c i)
  by_cases hc : c = (h.getD i E0).client
  · rw [if_pos hc, if_pos ⟨ht, hc.symm⟩]; rfl
  · rw [if_neg hc, if_neg (fun e => hc e.2.symm)]
theorem call_stay {h : List Evt} {i : Nat} (ht : ¬ (h.getD i E0).type = 1) : callF h i = callF h (i + 1) := by
  funext c
  unfold callF
  show _ = Option.map _ (if (h.getD i E0).type = 1 ∧ (h.getD i E0).client = c then some i else lastCall h c i)
  rw [if_neg (fun e => ht e.1)]
theorem wrong_busy {h : List Evt} {i : Nat} (hw : wrongS h i = 0) (ht : (h.getD i E0).type = 2) : busyB h i = true ∧ outOk h i = true := by
  unfold wrongS at hw
  by_cases h1 : 4096 ≤ ((i : Nat) : Int)
  · rw [if_pos h1] at hw; cases hw
  by_cases h2 : rightE (h.getD i E0) = false
  · rw [if_neg h1, if_pos h2] at hw; cases hw
  by_cases h3 : backB h i = true
  · rw [if_neg h1, if_neg h2, if_pos h3] at hw; cases hw
  rw [if_neg h1, if_neg h2, if_neg h3, if_neg (by omega)] at hw
  by_cases h4 : busyB h i = false
  · rw [if_pos h4] at hw; cases hw
  rw [if_neg h4, if_pos ht] at hw
  by_cases h5 : outOk h i = false
  · rw [if_pos h5] at hw; cases hw
  exact ⟨by simpa using h4, by simpa using h5⟩
theorem wrong_right {h : List Evt} {i : Nat} (hw : wrongS h i = 0) : rightE (h.getD i E0) = true := by
  unfold wrongS at hw
  split at hw
  · cases hw
  split at hw
  · cases hw
  · rename_i hr; simpa using hr
theorem last_call {h : List Evt} {c : Val} : ∀ {n j : Nat}, lastI h c n = some j → (h.getD j E0).type = 1 → lastCall h c n = some j
  | 0, _, e, _ => by cases e
  | n + 1, j, e, ht => by
    unfold lastI at e
    unfold lastCall
    split at e
    · rename_i hc
      cases e
      rw [if_pos ⟨ht, hc⟩]
    · rename_i hc
      rw [if_neg (fun e => hc e.2)]
      exact last_call e ht
theorem called_prog {h : List Evt} {i : Nat} (hw : wrongS h i = 0) (ht : (h.getD i E0).type = 2) : h.getD ((callF h i (h.getD i E0).client).getD 0).toNat E0 = calledE h i := by
  have hb := (wrong_busy hw ht).1
  unfold busyB at hb
  rw [Bool.and_eq_true, decide_eq_true_eq, decide_eq_true_eq] at hb
  unfold lastS at hb
  cases e : lastI h (h.getD i E0).client i with
  | none => rw [e] at hb; simp at hb
  | some j =>
    rw [e] at hb
    simp only [Int.toNat_natCast] at hb
    have hl := last_call e hb.2
    unfold calledE
    have hl2 : lastCall h (h.getD i E0).client (i + 1) = some j := by
      show (if (h.getD i E0).type = 1 ∧ (h.getD i E0).client = (h.getD i E0).client then some i else lastCall h (h.getD i E0).client i) = _
      rw [if_neg (fun e => by omega)]
      exact hl
    rw [hl2]
    unfold callF
    rw [hl]
    simp
theorem check_all {h : List Evt} (hc : (checkS h).1 = 0) : (∀ j, j < h.length → wrongS h j = 0) ∧ checkS h = (0, 0) := by
  have key : ∀ j, j < h.length → wrongS h j = 0 := by
    unfold checkS at hc
    split at hc
    · rename_i i hi
      have := (List.find?_range_eq_some.1 hi).1
      simp at this
      exact absurd hc this
    · rename_i hn
      intro j hj
      have := List.find?_range_eq_none.1 hn j hj
      simpa using this
  exact ⟨key, check_good key⟩
theorem outs_len (m o : Int) (l : List Val) (hl : l.length ≤ 1000000) : (outsS m o l).1.length ≤ 1000002 := by
  unfold outsS
  split
  · simp
  split
  · simp
  split
  · unfold pairS; split
    · rw [altL_len]; omega
    · simp
  split <;> simp
/-! `slices.Clone[[]incognito/api.Value,incognito/api.Value]` -/
theorem c_cloneF (xs : List Val) (A : Option Addr) (c : Nat) (w0 : World) (G : Heap) (hG : Sub G w0) (hR : Rd kVal G A xs) (hl : xs.length ≤ 1000000):
  Calls Tryd.prog 36 #[.slice A xs.length c] w0 (Ret w0 G (fun v G' => SlV kVal G' v xs)) := by
 refine enter Tryd.func36 rfl Tryd.ntmps36 rfl ?_
 intro Q hQ a E
 have S := St.start0 hG
 refine sr fun K hK => ?_
 refine rn 1 E S ?_; clear E S; intro a w E S
 apply hK; clear hK K
 refine wp_seq_k (fun K3 hK2 => ?_)
 refine sr fun K hK => ?_
 refine rn 1 E S ?_; clear E S; intro a w E S
 refine o_eqNil E rfl rfl rfl Tryd.underlying50 ?_; clear E; intro a E
 apply hK; clear hK K
 refine cond E rfl (fun h5r => ?_) (fun h5r => ?_)
 ·have h5 := nm h5r
  refine sr fun K hK => ?_
  refine rn 1 E S ?_; clear E S; intro a w E S
  apply hK; clear hK K
  refine rt hQ E S ?_
  have hx : xs = [] := by
   rcases hR with h | ⟨b, o, rfl, _⟩
   ·exact h
   ·exact absurd h5r (by simp)
  subst hx
  exact ⟨_, _, rfl, Nat.le_refl _, .nil⟩
 ·have h5 := nm h5r
  refine wp_skip ?_
  refine hK2 _ _ ?_; clear hK2
  refine sr fun K hK => ?_
  refine o_buildNil (K := kVal) E rfl S T.p50 ?_; clear E S; intro oA7 oc7 oC7 w a S oH7 E
  refine rn 1 E S ?_; clear E S; intro a w E S
  refine o_append (K := kVal) E rfl S .here oH7 rfl rfl T.p50 hR kVal_one (by (first | omega | (simp; omega))) (by (first | omega | (simp; omega))) ?_
  clear E S; intro oA8 oc8 oC8 w a S oH8 E
  refine rn 1 E S ?_; clear E S; intro a w E S
  apply hK; clear hK K
  have hcphR11 := oH8.cap
  obtain ⟨G10, hle12, S', hR11⟩ := X.Own.still S .here oH8; clear S; have S := S'; clear S'
  replace hR := hR.le hle12
  refine rt hQ E S ?_
  exact ⟨_, _, rfl, hcphR11, hR11⟩

/-! `incognito/veil.all` -/
theorem c_allV (h : List Evt) (A : Option Addr) (c : Nat) (w0 : World) (G : Heap) (hG : Sub G w0) (hg0 : CellsAt G 0 0 [.int .i64 3, .int .i64 1, str []]) (hg1 : CellsAt G 1 0 [.int .i64 3, .int .i64 0, str []]) (hR : Rd kEvt G A h) (hl : h.length ≤ 1000000) (hok : ∀ x ∈ h, x.Wf ∧ (rightE x = true → x.out.length ≤ 1000000)) (hal : ∀ x ∈ h, rightE x = true → x.args.length ≤ 1000000):
  Calls Tryd.prog 31 #[.slice A h.length c] w0 (Ret w0 G (fun v G' => ∃ A c, v = .tuple #[.slice A (allV h).length c, .agg #[.int .i64 (checkS h).1, .int .i64 (checkS h).2]] ∧ (allV h).length ≤ c ∧ Rd kVE G' A (allV h))) := by
 refine enter Tryd.func31 rfl Tryd.ntmps31 rfl ?_
 intro Q hQ a E
 have S := St.start0 hG
 refine sr fun K hK => ?_
 refine rn 1 E S ?_; clear E S; intro a w E S
 refine o_allocZ E rfl S ?_; clear E S; intro B3 w a S E
 apply hK; clear hK K
 refine wp_seq_k (fun K3 hK2 => ?_)
 refine sr fun K hK => ?_
 refine rn 1 E S ?_; clear E S; intro a w E S
 refine o_callP E rfl S rfl rfl T.g47 (c_check12 h _ _ _ _ S.sub hg0 hg1 hR (by omega) hok) ?_
 clear E S; rintro _ w a S rfl E
 refine o_allocZ E rfl S ?_; clear E S; intro B4 w a S E
 refine rn 1 E S ?_; clear E S; intro a w E S
 apply hK; clear hK K
 refine sr fun K hK => ?_
 refine rn 3 E S ?_; clear E S; intro a w E S
 apply hK; clear hK K
 refine cond E rfl (fun h6r => ?_) (fun h6r => ?_)
 ·have h6 := nm h6r
  refine wp_seq_k (fun K8 hK7 => ?_)
  replace E := E.cut (L' := [(0, .slice A h.length c), (3, .pointer (some ⟨B3, 0, none⟩)), (4, .pointer (some ⟨B4, 0, none⟩)), (15, .slice A h.length c), (16, .agg #[.int .i64 ((checkS h).1), .int .i64 ((checkS h).2)]), (17, .pointer (some ⟨B4, 0, none⟩)), (18, .int .i64 ((checkS h).1)), (19, .bool (!decide (((checkS h).1) = 0)))]) ⟨rfl, rfl, rfl, rfl, rfl, rfl, rfl, rfl, trivial⟩
  refine drawnF (fun f G' w => Heap.le G G' ∧ St w0 G [] G' w [[(B4, Cells 39 [(0, .int .i64 ((checkS h).1)), (1, .int .i64 ((checkS h).2))])], [(B3, Cells 39 [(0, bif f 2 then .int .i64 ((checkS h).1) else .int .i64 0), (1, bif f 2 then .int .i64 ((checkS h).2) else .int .i64 0)])]]) [fun v _ => v = .agg #[.int .i64 ((checkS h).1), .int .i64 ((checkS h).2)], fun v _ => v = .slice none 0 0, fun _ _ => True] [] T.mix rfl E ⟨Heap.le.refl _, S.drew⟩ rfl (by simp) (AllM.get ⟨fun _ _ _ _ h => h, fun _ _ _ _ h => h, fun _ _ _ _ h => h, trivial⟩) ⟨?_, ?_, ?_, trivial⟩ ?_
  ·intro a w G1 f hcl hfi hon hW E hp hO; obtain ⟨hl, S⟩ := hW
   refine o_ldA E rfl S rfl T.a39 (.here .here) rfl ?_; clear E; intro a E
   exact ⟨_, _, Heap.le.refl _, ⟨hl, S⟩, fun d hd => (by cases hd; exact E.get _ _ rfl), E.defers, rfl⟩
  ·intro a w G1 f hcl hfi hon hW E hp hO; obtain ⟨hl, S⟩ := hW
   refine o_assign E rfl rfl ?_; clear E; intro a E
   exact ⟨_, _, Heap.le.refl _, ⟨hl, S⟩, fun d hd => (by cases hd; exact E.get _ _ rfl), E.defers, rfl⟩
  ·intro a w G1 f hcl hfi hon hW E hp hO; obtain ⟨hl, S⟩ := hW
   obtain ⟨_, e0, rfl⟩ := hp 0 20 _ (hon 0 rfl) rfl rfl; replace E := E.add e0
   refine o_stA E S rfl rfl rfl T.a39 (.there (.here .here)) rfl ?_; clear S; intro w S
   replace S := S.conv (L2 := [(0, _), (1, _)]) (.there (.here .here)) ⟨rfl, rfl, trivial⟩
   exact ⟨.bool true, _, Heap.le.refl _, ⟨hl, S⟩, fun d hd => (by cases hd), E.defers, trivial⟩
  clear E S; intro a w G9 f hle10 hall HW E hp; obtain ⟨_, S⟩ := HW
  have hfw2 := hall 2 (by decide)
  simp only [hfw2, cond_true] at S
  replace hg0 := hg0.le hle10
  replace hg1 := hg1.le hle10
  replace hR := hR.le hle10
  obtain ⟨_, e1, rfl⟩ := hp 1 2 _ rfl rfl; replace E := E.add e1
  clear hp hall
  refine hK7 _ _ ?_; clear hK7
  refine rt hQ E S ?_
  have he : allV h = [] := by unfold allV; rw [if_neg (by simpa using h6)]
  rw [he]
  exact ⟨_, _, rfl, Nat.le_refl _, .nil⟩
 ·have h6 := nm h6r
  refine wp_skip ?_
  refine hK2 _ _ ?_; clear hK2
  refine sr fun K hK => ?_
  refine rn 1 E S ?_; clear E S; intro a w E S
  apply hK; clear hK K
  refine sr fun K hK => ?_
  refine o_makeMap 49 kvV vvI E rfl S ?_; clear E S; intro B21 w a S E
  refine rn 1 E S ?_; clear E S; intro a w E S
  apply hK; clear hK K
  refine wp_seq_k (fun K14 hK13 => ?_)
  refine sr fun K hK => ?_
  have hc0 : (checkS h).1 = 0 := by simpa using h6
  have hw0 := (check_all hc0).1
  refine rn 3 E S ?_; clear E S; intro a w E S
  apply hK; clear hK K
  refine wp_block ?_
  replace S := S.drop (M' := [_, _]) (sub_keep (sub_drop (sub_keep sub_nil)))
  replace S := S.nilChunk
  have oH17 : X.Own kVE 89 G none 0 ([] : List VE) [] := X.Own.nil
  replace S := S.turnP (q := MapF Tryd.prog 49 kvV vvI (callF h 0)) (.there (.here .here)) (fun o ho => ho.turn ((callF_none h).symm))
  refine loop (fun (i : Nat) a' w' => ∃ (oA5_1 : Option Addr) (oc5_1 : Nat) (oC5_1 : Chunk), ∃ GL18, Heap.le G GL18 ∧ St w0 G [] GL18 w' [oC5_1, [(B21, MapF Tryd.prog 49 kvV vvI (callF h i))], [(B3, Cells 39 [(0, .int .i64 0), (1, .int .i64 0)])]] ∧ Env a' 96 [] [(0, .slice A h.length c), (3, .pointer (some ⟨B3, 0, none⟩)), (5, .slice oA5_1 ((vesS h i).length) oc5_1), (6, .map (some B21)), (22, .slice A h.length c), (23, .int .i64 (h.length : Int)), (24, .int .i64 (i : Int))] ∧ X.Own kVE 89 GL18 oA5_1 oc5_1 (vesS h i) oC5_1 ∧ (i ≤ h.length)) (fun (i : Nat) => h.length - i) 0 ⟨_, _, _, _, Heap.le.refl _, S, E.cut ⟨rfl, rfl, rfl, rfl, rfl, rfl, rfl, trivial⟩, X.Own.nil (K := kVE), Nat.zero_le _⟩ ?_
  clear E S; intro i a w ⟨oA5_1, oc5_1, oC5_1, GL18, hle19, S, E, oH5_1, hi⟩
  replace hg0 := hg0.le hle19
  replace hg1 := hg1.le hle19
  replace hR := hR.le hle19
  refine sr fun K hK => ?_
  refine rn 1 E S ?_; clear E S; intro a w E S
  apply hK; clear hK K
  refine wp_seq_k (fun K22 hK21 => ?_)
  refine cond E rfl (fun h23r => ?_) (fun h23r => ?_)
  ·have h23 := nm h23r
   refine wp_skip ?_
   refine hK21 _ _ ?_; clear hK21
   refine wp_seq_k (fun K25 hK24 => ?_)
   refine wp_block ?_
   refine sr fun K hK => ?_
   refine rn 1 E S ?_; clear E S; intro a w E S
   have hi26 : (i : Int).toNat < h.length := by omega
   obtain ⟨eb26, eo26, hA26, el26⟩ := Rd.at hR (List.getElem?_eq_getElem hi26); cases hA26
   rw [show h[(i : Int).toNat] = (h.getD i E0) from getD_get (i := i) hi26 _] at el26
   obtain ⟨A1_26, c1_26, A2_26, c2_26, el26, ha1_26, hr1_26, ha2_26, hr2_26⟩ := kEvt_open el26
   refine o_ixL E rfl rfl rfl T.l22 ⟨by omega, by omega⟩ ?_; clear E; intro a E
   have hwe : (h.getD i E0).Wf := (hok _ (evm (by omega))).1
   have hre := wrong_right (hw0 i (by omega))
   have hlo := (hok _ (evm (h := h) (i := i) (by omega))).2 hre
   have hla := hal _ (evm (h := h) (i := i) (by omega)) hre
   have hwo := hwe.out
   refine o_ldIA E rfl S rfl el26 T.a52 ?_; clear E; intro a E
   refine o_allocZ E rfl S ?_; clear E S; intro B8 w a S E
   refine rn 2 E S ?_; clear E S; intro a w E S
   apply hK; clear hK K
   refine sr fun K hK => ?_
   refine rn 1 E S ?_; clear E S; intro a w E S
   refine o_buildO (K := (Knd.int .i64)) (xs := [0]) (cs := #[.int .i64 0]) E rfl S rfl T.l59 (by kernel_rfl) ⟨rfl, rfl⟩ rfl rfl rfl (by decide) ?_; clear E S; intro oA28 oc28 oC28 w a S oH28 E
   refine o_build (cs := #[.int .i64 ((h.getD i E0).time), .int .i64 ((h.getD i E0).client.k), .int .i64 ((h.getD i E0).client.n), str ((h.getD i E0).client.s), .int .i64 ((h.getD i E0).type), .int .i64 ((h.getD i E0).model), .int .i64 ((h.getD i E0).key.k), .int .i64 ((h.getD i E0).key.n), str ((h.getD i E0).key.s), .int .i64 ((h.getD i E0).op), .slice A1_26 ((h.getD i E0).args.length) c1_26, .slice A2_26 ((h.getD i E0).out.length) c2_26, .bool ((h.getD i E0).noted), str ((h.getD i E0).note), .slice oA28 (([0]).length) oc28]) E rfl rfl (by kernel_rfl) ?_; clear E; intro a E
   refine o_allocZ E rfl S ?_; clear E S; intro B9 w a S E
   refine rn 1 E S ?_; clear E S; intro a w E S
   apply hK; clear hK K
   refine wp_seq_k (fun K31 hK30 => ?_)
   replace E := E.cut (L' := [(0, .slice (some ⟨eb26, eo26, none⟩) h.length c), (3, .pointer (some ⟨B3, 0, none⟩)), (5, .slice oA5_1 ((vesS h i).length) oc5_1), (6, .map (some B21)), (7, .int .i64 (i : Int)), (8, .pointer (some ⟨B8, 0, none⟩)), (9, .pointer (some ⟨B9, 0, none⟩)), (22, .slice (some ⟨eb26, eo26, none⟩) h.length c), (23, .int .i64 (h.length : Int)), (24, .int .i64 (i : Int)), (25, .bool (decide ((i : Int) < (h.length : Int)))), (26, .int .i64 (i : Int)), (27, .pointer (some ⟨eb26, eo26 + (i : Int).toNat * 14, none⟩)), (28, .agg #[.int .i64 ((h.getD i E0).time), .int .i64 ((h.getD i E0).client.k), .int .i64 ((h.getD i E0).client.n), str ((h.getD i E0).client.s), .int .i64 ((h.getD i E0).type), .int .i64 ((h.getD i E0).model), .int .i64 ((h.getD i E0).key.k), .int .i64 ((h.getD i E0).key.n), str ((h.getD i E0).key.s), .int .i64 ((h.getD i E0).op), .slice A1_26 ((h.getD i E0).args.length) c1_26, .slice A2_26 ((h.getD i E0).out.length) c2_26, .bool ((h.getD i E0).noted), str ((h.getD i E0).note)]), (29, .agg #[.int .i64 ((h.getD i E0).time), .int .i64 ((h.getD i E0).client.k), .int .i64 ((h.getD i E0).client.n), str ((h.getD i E0).client.s), .int .i64 ((h.getD i E0).type), .int .i64 ((h.getD i E0).model), .int .i64 ((h.getD i E0).key.k), .int .i64 ((h.getD i E0).key.n), str ((h.getD i E0).key.s), .int .i64 ((h.getD i E0).op), .slice A1_26 ((h.getD i E0).args.length) c1_26, .slice A2_26 ((h.getD i E0).out.length) c2_26, .bool ((h.getD i E0).noted), str ((h.getD i E0).note)]), (30, .slice oA28 (([0]).length) oc28), (31, .agg #[.int .i64 ((h.getD i E0).time), .int .i64 ((h.getD i E0).client.k), .int .i64 ((h.getD i E0).client.n), str ((h.getD i E0).client.s), .int .i64 ((h.getD i E0).type), .int .i64 ((h.getD i E0).model), .int .i64 ((h.getD i E0).key.k), .int .i64 ((h.getD i E0).key.n), str ((h.getD i E0).key.s), .int .i64 ((h.getD i E0).op), .slice A1_26 ((h.getD i E0).args.length) c1_26, .slice A2_26 ((h.getD i E0).out.length) c2_26, .bool ((h.getD i E0).noted), str ((h.getD i E0).note), .slice oA28 (([0]).length) oc28])]) ⟨rfl, rfl, rfl, rfl, rfl, rfl, rfl, rfl, rfl, rfl, rfl, rfl, rfl, rfl, rfl, rfl, rfl, trivial⟩
   refine drawnA (fun f tm G' w => Heap.le GL18 G' ∧ ∃ u8_ : Value, ∃ u11_ : Value, St w0 G [] G' w [[(B9, Cells 89 [(0, .int .i64 ((h.getD i E0).time)), (1, .int .i64 ((h.getD i E0).client.k)), (2, .int .i64 ((h.getD i E0).client.n)), (3, str ((h.getD i E0).client.s)), (4, .int .i64 ((h.getD i E0).type)), (5, .int .i64 ((h.getD i E0).model)), (6, .int .i64 ((h.getD i E0).key.k)), (7, .int .i64 ((h.getD i E0).key.n)), (8, str ((h.getD i E0).key.s)), (9, .int .i64 ((h.getD i E0).op)), (10, u8_), (11, u11_), (12, .bool ((h.getD i E0).noted)), (13, str ((h.getD i E0).note)), (14, .slice oA28 (([0]).length) oc28)])], oC28, [(B8, Cells 52 [(0, .int .i64 ((h.getD i E0).time)), (1, .int .i64 ((h.getD i E0).client.k)), (2, .int .i64 ((h.getD i E0).client.n)), (3, str ((h.getD i E0).client.s)), (4, .int .i64 ((h.getD i E0).type)), (5, .int .i64 ((h.getD i E0).model)), (6, .int .i64 ((h.getD i E0).key.k)), (7, .int .i64 ((h.getD i E0).key.n)), (8, str ((h.getD i E0).key.s)), (9, .int .i64 ((h.getD i E0).op)), (10, .slice A1_26 ((h.getD i E0).args.length) c1_26), (11, .slice A2_26 ((h.getD i E0).out.length) c2_26), (12, .bool ((h.getD i E0).noted)), (13, str ((h.getD i E0).note))])], oC5_1, [(B21, MapF Tryd.prog 49 kvV vvI (callF h i))], [(B3, Cells 39 [(0, .int .i64 0), (1, .int .i64 0)])]] ∧ ((f 8 = false ∧ u8_ = .slice A1_26 ((h.getD i E0).args.length) c1_26) ∨ (f 8 = true ∧ tm 34 = some u8_)) ∧ ((f 11 = false ∧ u11_ = .slice A2_26 ((h.getD i E0).out.length) c2_26) ∨ (f 11 = true ∧ tm 37 = some u11_))) [fun v _ => v = .pointer (some ⟨B8, 10, none⟩), fun v _ => v = .slice A1_26 ((h.getD i E0).args.length) c1_26, fun v G' => ∃ Ad c, v = .slice Ad ((h.getD i E0).args).length c ∧ ((h.getD i E0).args).length ≤ c ∧ Rd kVal G' Ad ((h.getD i E0).args), fun v _ => v = .pointer (some ⟨B8, 11, none⟩), fun v _ => v = .slice A2_26 ((h.getD i E0).out.length) c2_26, fun v G' => ∃ Ad c, v = .slice Ad ((h.getD i E0).out).length c ∧ ((h.getD i E0).out).length ≤ c ∧ Rd kVal G' Ad ((h.getD i E0).out), fun v _ => v = .pointer (some ⟨B9, 0, none⟩), fun v _ => v = .pointer (some ⟨B9, 10, none⟩), fun _ _ => True, fun v _ => v = .pointer (some ⟨B9, 0, none⟩), fun v _ => v = .pointer (some ⟨B9, 11, none⟩), fun _ _ => True] [] T.mix rfl E ⟨Heap.le.refl _, _, _, S.drew, .inl ⟨rfl, rfl⟩, .inl ⟨rfl, rfl⟩⟩ rfl (by simp) (AllM.get ⟨fun _ _ _ _ h => h, fun _ _ _ _ h => h, fun _ _ _ h hx => (SlV.mono h hx), fun _ _ _ _ h => h, fun _ _ _ _ h => h, fun _ _ _ h hx => (SlV.mono h hx), fun _ _ _ _ h => h, fun _ _ _ _ h => h, fun _ _ _ _ h => h, fun _ _ _ _ h => h, fun _ _ _ _ h => h, fun _ _ _ _ h => h, trivial⟩) ⟨?_, ?_, ?_, ?_, ?_, ?_, ?_, ?_, ?_, ?_, ?_, ?_, trivial⟩ ?_
   ·intro a w G1 f hcl hfi hon hW E hp hO; obtain ⟨hl, u8_, u11_, S, hU8, hU11⟩ := hW
    have hfa8 : f 8 = false := by
     cases hq : f 8 with
     | false => rfl
     | true => (have := (hcl 6 _ rfl (hcl 7 _ rfl (hcl 8 _ rfl hq 7 rfl) 6 rfl) 0 rfl); rw [hfi] at this; cases this)
    obtain ⟨_, rfl⟩ := hU8.resolve_right (fun h => by rw [hfa8] at h; exact absurd h.1 (by decide))
    have hfa11 : f 11 = false := by
     cases hq : f 11 with
     | false => rfl
     | true => (have := (hcl 9 _ rfl (hcl 10 _ rfl (hcl 11 _ rfl hq 10 rfl) 9 rfl) 0 rfl); rw [hfi] at this; cases this)
    obtain ⟨_, rfl⟩ := hU11.resolve_right (fun h => by rw [hfa11] at h; exact absurd h.1 (by decide))
    refine o_fld E rfl rfl T.f52_6 ?_; clear E; intro a E
    exact ⟨_, _, Heap.le.refl _, ⟨hl, _, _, S, .inl ⟨(by show (Nat.beq 8 0 || f 8) = false; rw [hfa8]; rfl), rfl⟩, .inl ⟨(by show (Nat.beq 11 0 || f 11) = false; rw [hfa11]; rfl), rfl⟩⟩, fun d hd => (by cases hd; exact E.get _ _ rfl), E.defers, rfl⟩
   ·intro a w G1 f hcl hfi hon hW E hp hO; obtain ⟨hl, u8_, u11_, S, hU8, hU11⟩ := hW
    obtain ⟨_, e0, rfl⟩ := hp 0 32 _ (hon 0 rfl) rfl rfl; replace E := E.add e0
    have hfa8 : f 8 = false := by
     cases hq : f 8 with
     | false => rfl
     | true => (have := (hcl 6 _ rfl (hcl 7 _ rfl (hcl 8 _ rfl hq 7 rfl) 6 rfl) 1 rfl); rw [hfi] at this; cases this)
    obtain ⟨_, rfl⟩ := hU8.resolve_right (fun h => by rw [hfa8] at h; exact absurd h.1 (by decide))
    have hfa11 : f 11 = false := by
     cases hq : f 11 with
     | false => rfl
     | true => (have := (hcl 9 _ rfl (hcl 10 _ rfl (hcl 11 _ rfl hq 10 rfl) 9 rfl) 1 rfl); rw [hfi] at this; cases this)
    obtain ⟨_, rfl⟩ := hU11.resolve_right (fun h => by rw [hfa11] at h; exact absurd h.1 (by decide))
    refine o_ld E rfl S rfl T.s50 (.there (.there (.here .here))) rfl ?_; clear E; intro a E
    exact ⟨_, _, Heap.le.refl _, ⟨hl, _, _, S, .inl ⟨(by show (Nat.beq 8 1 || f 8) = false; rw [hfa8]; rfl), rfl⟩, .inl ⟨(by show (Nat.beq 11 1 || f 11) = false; rw [hfa11]; rfl), rfl⟩⟩, fun d hd => (by cases hd; exact E.get _ _ rfl), E.defers, rfl⟩
   ·intro a w G1 f hcl hfi hon hW E hp hO; obtain ⟨hl, u8_, u11_, S, hU8, hU11⟩ := hW
    obtain ⟨_, e1, rfl⟩ := hp 1 33 _ (hon 1 rfl) rfl rfl; replace E := E.add e1
    have hfa8 : f 8 = false := by
     cases hq : f 8 with
     | false => rfl
     | true => (have := (hcl 6 _ rfl (hcl 7 _ rfl (hcl 8 _ rfl hq 7 rfl) 6 rfl) 2 rfl); rw [hfi] at this; cases this)
    obtain ⟨_, rfl⟩ := hU8.resolve_right (fun h => by rw [hfa8] at h; exact absurd h.1 (by decide))
    have hfa11 : f 11 = false := by
     cases hq : f 11 with
     | false => rfl
     | true => (have := (hcl 9 _ rfl (hcl 10 _ rfl (hcl 11 _ rfl hq 10 rfl) 9 rfl) 2 rfl); rw [hfi] at this; cases this)
    obtain ⟨_, rfl⟩ := hU11.resolve_right (fun h => by rw [hfa11] at h; exact absurd h.1 (by decide))
    refine o_call E rfl S rfl rfl T.g36 (c_cloneF ((h.getD i E0).args) _ _ _ _ S.sub (hr1_26.le hl) (by omega)) ?_; clear E S; rintro _ G2 w a S hle2 ⟨A2, c2, rfl, hc2, hR2⟩ E
    exact ⟨_, G2, hle2, ⟨hl.trans hle2, _, _, S, .inl ⟨(by show (Nat.beq 8 2 || f 8) = false; rw [hfa8]; rfl), rfl⟩, .inl ⟨(by show (Nat.beq 11 2 || f 11) = false; rw [hfa11]; rfl), rfl⟩⟩, fun d hd => (by cases hd; exact E.get _ _ rfl), E.defers, ⟨_, _, rfl, hc2, hR2⟩⟩
   ·intro a w G1 f hcl hfi hon hW E hp hO; obtain ⟨hl, u8_, u11_, S, hU8, hU11⟩ := hW
    have hfa8 : f 8 = false := by
     cases hq : f 8 with
     | false => rfl
     | true => (have := (hcl 4 _ rfl (hcl 5 _ rfl (hcl 8 _ rfl hq 5 rfl) 4 rfl) 3 rfl); rw [hfi] at this; cases this)
    obtain ⟨_, rfl⟩ := hU8.resolve_right (fun h => by rw [hfa8] at h; exact absurd h.1 (by decide))
    have hfa11 : f 11 = false := by
     cases hq : f 11 with
     | false => rfl
     | true => (have := (hcl 9 _ rfl (hcl 10 _ rfl (hcl 11 _ rfl hq 10 rfl) 9 rfl) 3 rfl); rw [hfi] at this; cases this)
    obtain ⟨_, rfl⟩ := hU11.resolve_right (fun h => by rw [hfa11] at h; exact absurd h.1 (by decide))
    refine o_fld E rfl rfl T.f52_7 ?_; clear E; intro a E
    exact ⟨_, _, Heap.le.refl _, ⟨hl, _, _, S, .inl ⟨(by show (Nat.beq 8 3 || f 8) = false; rw [hfa8]; rfl), rfl⟩, .inl ⟨(by show (Nat.beq 11 3 || f 11) = false; rw [hfa11]; rfl), rfl⟩⟩, fun d hd => (by cases hd; exact E.get _ _ rfl), E.defers, rfl⟩
   ·intro a w G1 f hcl hfi hon hW E hp hO; obtain ⟨hl, u8_, u11_, S, hU8, hU11⟩ := hW
    obtain ⟨_, e3, rfl⟩ := hp 3 35 _ (hon 3 rfl) rfl rfl; replace E := E.add e3
    have hfa8 : f 8 = false := by
     cases hq : f 8 with
     | false => rfl
     | true => (have := (hcl 5 _ rfl (hcl 8 _ rfl hq 5 rfl) 4 rfl); rw [hfi] at this; cases this)
    obtain ⟨_, rfl⟩ := hU8.resolve_right (fun h => by rw [hfa8] at h; exact absurd h.1 (by decide))
    have hfa11 : f 11 = false := by
     cases hq : f 11 with
     | false => rfl
     | true => (have := (hcl 9 _ rfl (hcl 10 _ rfl (hcl 11 _ rfl hq 10 rfl) 9 rfl) 4 rfl); rw [hfi] at this; cases this)
    obtain ⟨_, rfl⟩ := hU11.resolve_right (fun h => by rw [hfa11] at h; exact absurd h.1 (by decide))
    refine o_ld E rfl S rfl T.s50 (.there (.there (.here .here))) rfl ?_; clear E; intro a E
    exact ⟨_, _, Heap.le.refl _, ⟨hl, _, _, S, .inl ⟨(by show (Nat.beq 8 4 || f 8) = false; rw [hfa8]; rfl), rfl⟩, .inl ⟨(by show (Nat.beq 11 4 || f 11) = false; rw [hfa11]; rfl), rfl⟩⟩, fun d hd => (by cases hd; exact E.get _ _ rfl), E.defers, rfl⟩
   ·intro a w G1 f hcl hfi hon hW E hp hO; obtain ⟨hl, u8_, u11_, S, hU8, hU11⟩ := hW
    obtain ⟨_, e4, rfl⟩ := hp 4 36 _ (hon 4 rfl) rfl rfl; replace E := E.add e4
    have hfa8 : f 8 = false := by
     cases hq : f 8 with
     | false => rfl
     | true => (have := (hcl 8 _ rfl hq 5 rfl); rw [hfi] at this; cases this)
    obtain ⟨_, rfl⟩ := hU8.resolve_right (fun h => by rw [hfa8] at h; exact absurd h.1 (by decide))
    have hfa11 : f 11 = false := by
     cases hq : f 11 with
     | false => rfl
     | true => (have := (hcl 9 _ rfl (hcl 10 _ rfl (hcl 11 _ rfl hq 10 rfl) 9 rfl) 5 rfl); rw [hfi] at this; cases this)
    obtain ⟨_, rfl⟩ := hU11.resolve_right (fun h => by rw [hfa11] at h; exact absurd h.1 (by decide))
    refine o_call E rfl S rfl rfl T.g36 (c_cloneF ((h.getD i E0).out) _ _ _ _ S.sub (hr2_26.le hl) (by omega)) ?_; clear E S; rintro _ G2 w a S hle2 ⟨A2, c2, rfl, hc2, hR2⟩ E
    exact ⟨_, G2, hle2, ⟨hl.trans hle2, _, _, S, .inl ⟨(by show (Nat.beq 8 5 || f 8) = false; rw [hfa8]; rfl), rfl⟩, .inl ⟨(by show (Nat.beq 11 5 || f 11) = false; rw [hfa11]; rfl), rfl⟩⟩, fun d hd => (by cases hd; exact E.get _ _ rfl), E.defers, ⟨_, _, rfl, hc2, hR2⟩⟩
   ·intro a w G1 f hcl hfi hon hW E hp hO; obtain ⟨hl, u8_, u11_, S, hU8, hU11⟩ := hW
    have hfa8 : f 8 = false := by
     cases hq : f 8 with
     | false => rfl
     | true => (have := (hcl 7 _ rfl (hcl 8 _ rfl hq 7 rfl) 6 rfl); rw [hfi] at this; cases this)
    obtain ⟨_, rfl⟩ := hU8.resolve_right (fun h => by rw [hfa8] at h; exact absurd h.1 (by decide))
    have hfa11 : f 11 = false := by
     cases hq : f 11 with
     | false => rfl
     | true => (have := (hcl 9 _ rfl (hcl 10 _ rfl (hcl 11 _ rfl hq 10 rfl) 9 rfl) 6 rfl); rw [hfi] at this; cases this)
    obtain ⟨_, rfl⟩ := hU11.resolve_right (fun h => by rw [hfa11] at h; exact absurd h.1 (by decide))
    refine o_fld E rfl rfl T.f89_0 ?_; clear E; intro a E
    exact ⟨_, _, Heap.le.refl _, ⟨hl, _, _, S, .inl ⟨(by show (Nat.beq 8 6 || f 8) = false; rw [hfa8]; rfl), rfl⟩, .inl ⟨(by show (Nat.beq 11 6 || f 11) = false; rw [hfa11]; rfl), rfl⟩⟩, fun d hd => (by cases hd; exact E.get _ _ rfl), E.defers, rfl⟩
   ·intro a w G1 f hcl hfi hon hW E hp hO; obtain ⟨hl, u8_, u11_, S, hU8, hU11⟩ := hW
    obtain ⟨_, e6, rfl⟩ := hp 6 38 _ (hon 6 rfl) rfl rfl; replace E := E.add e6
    have hfa8 : f 8 = false := by
     cases hq : f 8 with
     | false => rfl
     | true => (have := (hcl 8 _ rfl hq 7 rfl); rw [hfi] at this; cases this)
    obtain ⟨_, rfl⟩ := hU8.resolve_right (fun h => by rw [hfa8] at h; exact absurd h.1 (by decide))
    have hfa11 : f 11 = false := by
     cases hq : f 11 with
     | false => rfl
     | true => (have := (hcl 9 _ rfl (hcl 10 _ rfl (hcl 11 _ rfl hq 10 rfl) 9 rfl) 7 rfl); rw [hfi] at this; cases this)
    obtain ⟨_, rfl⟩ := hU11.resolve_right (fun h => by rw [hfa11] at h; exact absurd h.1 (by decide))
    refine o_fld E rfl rfl T.f52_6 ?_; clear E; intro a E
    exact ⟨_, _, Heap.le.refl _, ⟨hl, _, _, S, .inl ⟨(by show (Nat.beq 8 7 || f 8) = false; rw [hfa8]; rfl), rfl⟩, .inl ⟨(by show (Nat.beq 11 7 || f 11) = false; rw [hfa11]; rfl), rfl⟩⟩, fun d hd => (by cases hd; exact E.get _ _ rfl), E.defers, rfl⟩
   ·intro a w G1 f hcl hfi hon hW E hp hO; obtain ⟨hl, u8_, u11_, S, hU8, hU11⟩ := hW
    obtain ⟨_, e7, rfl⟩ := hp 7 39 _ (hon 7 rfl) rfl rfl; replace E := E.add e7
    obtain ⟨_, e2, vA2, vc2, rfl, hcp2, hQ2⟩ := hp 2 34 _ (hon 2 rfl) rfl rfl; replace E := E.add e2
    obtain ⟨_, rfl⟩ := hU8.resolve_right (fun h => by rw [hfi] at h; exact absurd h.1 (by decide))
    have hfa11 : f 11 = false := by
     cases hq : f 11 with
     | false => rfl
     | true => (have := (hcl 9 _ rfl (hcl 10 _ rfl (hcl 11 _ rfl hq 10 rfl) 9 rfl) 8 rfl); rw [hfi] at this; cases this)
    obtain ⟨_, rfl⟩ := hU11.resolve_right (fun h => by rw [hfa11] at h; exact absurd h.1 (by decide))
    refine o_st E S rfl rfl rfl T.s50 (.here .here) rfl ?_; clear S; intro w S
    replace S := S.conv (L2 := [(0, _), (1, _), (2, _), (3, _), (4, _), (5, _), (6, _), (7, _), (8, _), (9, _), (10, _), (11, _), (12, _), (13, _), (14, _)]) (.here .here) ⟨rfl, rfl, rfl, rfl, rfl, rfl, rfl, rfl, rfl, rfl, rfl, rfl, rfl, rfl, rfl, trivial⟩
    exact ⟨.bool true, _, Heap.le.refl _, ⟨hl, _, _, S, .inr ⟨(by show (Nat.beq 8 8 || f 8) = true; rfl), E.get _ _ rfl⟩, .inl ⟨(by show (Nat.beq 11 8 || f 11) = false; rw [hfa11]; rfl), rfl⟩⟩, fun d hd => (by cases hd), E.defers, trivial⟩
   ·intro a w G1 f hcl hfi hon hW E hp hO; obtain ⟨hl, u8_, u11_, S, hU8, hU11⟩ := hW
    rcases hU8 with ⟨hfa8, rfl⟩ | ⟨hfa8, hT8⟩
    ·have hfa11 : f 11 = false := by
      cases hq : f 11 with
      | false => rfl
      | true => (have := (hcl 10 _ rfl (hcl 11 _ rfl hq 10 rfl) 9 rfl); rw [hfi] at this; cases this)
     obtain ⟨_, rfl⟩ := hU11.resolve_right (fun h => by rw [hfa11] at h; exact absurd h.1 (by decide))
     refine o_fld E rfl rfl T.f89_0 ?_; clear E; intro a E
     exact ⟨_, _, Heap.le.refl _, ⟨hl, _, _, S, .inl ⟨(by show (Nat.beq 8 9 || f 8) = false; rw [hfa8]; rfl), rfl⟩, .inl ⟨(by show (Nat.beq 11 9 || f 11) = false; rw [hfa11]; rfl), rfl⟩⟩, fun d hd => (by cases hd; exact E.get _ _ rfl), E.defers, rfl⟩
    ·replace E := E.add hT8
     have hfa11 : f 11 = false := by
      cases hq : f 11 with
      | false => rfl
      | true => (have := (hcl 10 _ rfl (hcl 11 _ rfl hq 10 rfl) 9 rfl); rw [hfi] at this; cases this)
     obtain ⟨_, rfl⟩ := hU11.resolve_right (fun h => by rw [hfa11] at h; exact absurd h.1 (by decide))
     refine o_fld E rfl rfl T.f89_0 ?_; clear E; intro a E
     exact ⟨_, _, Heap.le.refl _, ⟨hl, _, _, S, .inr ⟨(by show (Nat.beq 8 9 || f 8) = true; rw [hfa8]; rfl), E.get _ _ rfl⟩, .inl ⟨(by show (Nat.beq 11 9 || f 11) = false; rw [hfa11]; rfl), rfl⟩⟩, fun d hd => (by cases hd; exact E.get _ _ rfl), E.defers, rfl⟩
   ·intro a w G1 f hcl hfi hon hW E hp hO; obtain ⟨hl, u8_, u11_, S, hU8, hU11⟩ := hW
    obtain ⟨_, e9, rfl⟩ := hp 9 40 _ (hon 9 rfl) rfl rfl; replace E := E.add e9
    rcases hU8 with ⟨hfa8, rfl⟩ | ⟨hfa8, hT8⟩
    ·have hfa11 : f 11 = false := by
      cases hq : f 11 with
      | false => rfl
      | true => (have := (hcl 11 _ rfl hq 10 rfl); rw [hfi] at this; cases this)
     obtain ⟨_, rfl⟩ := hU11.resolve_right (fun h => by rw [hfa11] at h; exact absurd h.1 (by decide))
     refine o_fld E rfl rfl T.f52_7 ?_; clear E; intro a E
     exact ⟨_, _, Heap.le.refl _, ⟨hl, _, _, S, .inl ⟨(by show (Nat.beq 8 10 || f 8) = false; rw [hfa8]; rfl), rfl⟩, .inl ⟨(by show (Nat.beq 11 10 || f 11) = false; rw [hfa11]; rfl), rfl⟩⟩, fun d hd => (by cases hd; exact E.get _ _ rfl), E.defers, rfl⟩
    ·replace E := E.add hT8
     have hfa11 : f 11 = false := by
      cases hq : f 11 with
      | false => rfl
      | true => (have := (hcl 11 _ rfl hq 10 rfl); rw [hfi] at this; cases this)
     obtain ⟨_, rfl⟩ := hU11.resolve_right (fun h => by rw [hfa11] at h; exact absurd h.1 (by decide))
     refine o_fld E rfl rfl T.f52_7 ?_; clear E; intro a E
     exact ⟨_, _, Heap.le.refl _, ⟨hl, _, _, S, .inr ⟨(by show (Nat.beq 8 10 || f 8) = true; rw [hfa8]; rfl), E.get _ _ rfl⟩, .inl ⟨(by show (Nat.beq 11 10 || f 11) = false; rw [hfa11]; rfl), rfl⟩⟩, fun d hd => (by cases hd; exact E.get _ _ rfl), E.defers, rfl⟩
   ·intro a w G1 f hcl hfi hon hW E hp hO; obtain ⟨hl, u8_, u11_, S, hU8, hU11⟩ := hW
    obtain ⟨_, e10, rfl⟩ := hp 10 41 _ (hon 10 rfl) rfl rfl; replace E := E.add e10
    obtain ⟨_, e5, vA5, vc5, rfl, hcp5, hQ5⟩ := hp 5 37 _ (hon 5 rfl) rfl rfl; replace E := E.add e5
    rcases hU8 with ⟨hfa8, rfl⟩ | ⟨hfa8, hT8⟩
    ·obtain ⟨_, rfl⟩ := hU11.resolve_right (fun h => by rw [hfi] at h; exact absurd h.1 (by decide))
     refine o_st E S rfl rfl rfl T.s50 (.here .here) rfl ?_; clear S; intro w S
     replace S := S.conv (L2 := [(0, _), (1, _), (2, _), (3, _), (4, _), (5, _), (6, _), (7, _), (8, _), (9, _), (10, _), (11, _), (12, _), (13, _), (14, _)]) (.here .here) ⟨rfl, rfl, rfl, rfl, rfl, rfl, rfl, rfl, rfl, rfl, rfl, rfl, rfl, rfl, rfl, trivial⟩
     exact ⟨.bool true, _, Heap.le.refl _, ⟨hl, _, _, S, .inl ⟨(by show (Nat.beq 8 11 || f 8) = false; rw [hfa8]; rfl), rfl⟩, .inr ⟨(by show (Nat.beq 11 11 || f 11) = true; rfl), E.get _ _ rfl⟩⟩, fun d hd => (by cases hd), E.defers, trivial⟩
    ·replace E := E.add hT8
     obtain ⟨_, rfl⟩ := hU11.resolve_right (fun h => by rw [hfi] at h; exact absurd h.1 (by decide))
     refine o_st E S rfl rfl rfl T.s50 (.here .here) rfl ?_; clear S; intro w S
     replace S := S.conv (L2 := [(0, _), (1, _), (2, _), (3, _), (4, _), (5, _), (6, _), (7, _), (8, _), (9, _), (10, _), (11, _), (12, _), (13, _), (14, _)]) (.here .here) ⟨rfl, rfl, rfl, rfl, rfl, rfl, rfl, rfl, rfl, rfl, rfl, rfl, rfl, rfl, rfl, trivial⟩
     exact ⟨.bool true, _, Heap.le.refl _, ⟨hl, _, _, S, .inr ⟨(by show (Nat.beq 8 11 || f 8) = true; rw [hfa8]; rfl), E.get _ _ rfl⟩, .inr ⟨(by show (Nat.beq 11 11 || f 11) = true; rfl), E.get _ _ rfl⟩⟩, fun d hd => (by cases hd), E.defers, trivial⟩
   clear E S; intro a w G32 f hle33 hall HW E hp; obtain ⟨_, u8_, u11_, S, hU8, hU11⟩ := HW
   replace hg0 := hg0.le hle33
   replace hg1 := hg1.le hle33
   replace hR := hR.le hle33
   replace hr1_26 := hr1_26.le hle33
   replace hr2_26 := hr2_26.le hle33
   replace oH5_1 := oH5_1.le hle33
   replace oH28 := oH28.le hle33
   obtain ⟨_, e2, vA2, vc2, rfl, hcp2, hQ2⟩ := hp 2 34 _ rfl rfl; replace E := E.add e2
   obtain ⟨_, e5, vA5, vc5, rfl, hcp5, hQ5⟩ := hp 5 37 _ rfl rfl; replace E := E.add e5
   obtain ⟨_, hT8⟩ := hU8.resolve_left (fun h => by rw [hall 8 (by decide)] at h; exact absurd h.1 (by decide)); have hu8 := Option.some.inj (hT8.symm.trans (E.get 34 _ rfl)); subst hu8
   obtain ⟨_, hT11⟩ := hU11.resolve_left (fun h => by rw [hall 11 (by decide)] at h; exact absurd h.1 (by decide)); have hu11 := Option.some.inj (hT11.symm.trans (E.get 37 _ rfl)); subst hu11
   clear hp hall
   refine hK30 _ _ ?_; clear hK30
   refine wp_seq_k (fun K35 hK34 => ?_)
   refine sr fun K hK => ?_
   refine rn 2 E S ?_; clear E S; intro a w E S
   apply hK; clear hK K
   refine wp_block ?_
   refine sr fun K hK => ?_
   refine rn 2 E S ?_; clear E S; intro a w E S
   apply hK; clear hK K
   refine cond E rfl (fun h38r => ?_) (fun h38r => ?_)
   ·have h38 := nm h38r
    refine sr fun K hK => ?_
    refine rn 4 E S ?_; clear E S; intro a w E S
    refine o_mapUpd (y := ((h.getD i E0).client)) (u := (i : Int)) T.k49 Tryd.underlying103 kvV_inj E rfl S (.there (.there (.there (.there (.here .here))))) rfl rfl rfl rfl rfl (key_val T.K49 (by first | assumption | exact hwe.client)) ?_; clear S; intro w S
    apply hK; clear hK K
    refine sr fun K hK => ?_
    refine rn 4 E S ?_; clear E S; intro a w E S
    refine o_call E rfl S rfl rfl T.g48 (c_args ((h.getD i E0).model) ((h.getD i E0).op) _ _ S.sub) ?_
    clear E S; rintro _ G40 w a S hle40 ⟨vA40, vc40, rfl, hcp40, hR40⟩ E
    replace hg0 := hg0.le hle40
    replace hg1 := hg1.le hle40
    replace hR := hR.le hle40
    replace hr1_26 := hr1_26.le hle40
    replace hr2_26 := hr2_26.le hle40
    replace hQ2 := hQ2.le hle40
    replace hQ5 := hQ5.le hle40
    replace oH5_1 := oH5_1.le hle40
    replace oH28 := oH28.le hle40
    refine rn 5 E S ?_; clear E S; intro a w E S
    apply hK; clear hK K
    refine wp_region_lit ?_
    refine rn 2 E S ?_; clear E S; intro a w E S
    refine o_buildSl (cs := #[.int .i64 1]) [(0, _)] E rfl S rfl T.l59 (by kernel_rfl) ⟨rfl, trivial⟩ ?_; clear E S; intro B60 w a S E
    refine o_appendL (K := (Knd.int .i64)) (ys := [1]) (n := 1) E rfl S (.there (.there .here)) oH28 rfl rfl T.p59 (.here .here) rfl ⟨rfl, rfl⟩ rfl rfl (by simp) (by simp) ?_
    clear E S; intro oA42 oc42 oC42 w a S oH42 E
    refine rn 1 E S ?_; clear E S; intro a w E S
    refine o_append (K := (Knd.int .i64)) E rfl S .here oH42 rfl rfl T.p59 hR40 int_one (by (have := args_len (h.getD i E0).model (h.getD i E0).op; simp only [List.length_append, List.length_cons, List.length_nil]; omega)) (by (have := args_len (h.getD i E0).model (h.getD i E0).op; simp only [List.length_append, List.length_cons, List.length_nil]; omega)) ?_
    clear E S; intro oA43 oc43 oC43 w a S oH43 E
    refine rn 2 E S ?_; clear E S; intro a w E S
    refine hK34 _ _ ?_; clear hK34
    refine wp_region_lit ?_
    refine rn 1 E S ?_; clear E S; intro a w E S
    have hcphR45 := oH43.cap
    obtain ⟨G44, hle46, S', hR45⟩ := X.Own.still S .here oH43; clear S; have S := S'; clear S'
    replace hg0 := hg0.le hle46
    replace hg1 := hg1.le hle46
    replace hR := hR.le hle46
    replace hr1_26 := hr1_26.le hle46
    replace hr2_26 := hr2_26.le hle46
    replace hQ2 := hQ2.le hle46
    replace hQ5 := hQ5.le hle46
    replace hR40 := hR40.le hle46
    replace oH5_1 := oH5_1.le hle46
    skip
    refine rn 1 E S ?_; clear E S; intro a w E S
    refine o_buildSl (cs := #[.int .i64 ((h.getD i E0).time), .int .i64 ((h.getD i E0).client.k), .int .i64 ((h.getD i E0).client.n), str ((h.getD i E0).client.s), .int .i64 ((h.getD i E0).type), .int .i64 ((h.getD i E0).model), .int .i64 ((h.getD i E0).key.k), .int .i64 ((h.getD i E0).key.n), str ((h.getD i E0).key.s), .int .i64 ((h.getD i E0).op), .slice vA2 (((h.getD i E0).args).length) vc2, .slice vA5 (((h.getD i E0).out).length) vc5, .bool ((h.getD i E0).noted), str ((h.getD i E0).note), .slice oA43 (([0] ++ [1] ++ ((argsD ((h.getD i E0).model) ((h.getD i E0).op)).1)).length) oc43]) [(0, _), (1, _), (2, _), (3, _), (4, _), (5, _), (6, _), (7, _), (8, _), (9, _), (10, _), (11, _), (12, _), (13, _), (14, _)] E rfl S rfl T.l85 (by kernel_rfl) ⟨rfl, rfl, rfl, rfl, rfl, rfl, rfl, rfl, rfl, rfl, rfl, rfl, rfl, rfl, rfl, trivial⟩ ?_; clear E S; intro B91 w a S E
    refine o_appendL (K := kVE) (ys := [(⟨(h.getD i E0), [0] ++ [1] ++ ((argsD ((h.getD i E0).model) ((h.getD i E0).op)).1)⟩ : VE)]) (n := 15) E rfl S (.there (.there (.there (.there .here)))) oH5_1 rfl rfl T.p85 (.here .here) rfl ⟨kVE_mk (⟨(h.getD i E0), [0] ++ [1] ++ ((argsD ((h.getD i E0).model) ((h.getD i E0).op)).1)⟩ : VE) hcp2 hQ2 hcp5 hQ5 hcphR45 hR45, rfl⟩ rfl rfl (by (have := vesS_len h i; simp; omega)) (by (have := vesS_len h i; simp; omega)) ?_
    clear E S; intro oA47 oc47 oC47 w a S oH47 E
    refine rn 1 E S ?_; clear E S; intro a w E S
    refine hK24 _ _ ?_; clear hK24
    refine wp_region_lit ?_
    refine rn 2 E S ?_; clear E S; intro a w E S
    replace S := S.drop (M' := [_, _, _]) (sub_keep (sub_drop (sub_drop (sub_drop (sub_drop (sub_keep (sub_keep sub_nil)))))))
    replace S := S.turnP (q := MapF Tryd.prog 49 kvV vvI (callF h (i + 1))) (.there (.here .here)) (fun o ho => ho.turn (call_step (by simpa using h38)))
    have hde : domsE h i = ([0] ++ [1]) ++ (argsD (h.getD i E0).model (h.getD i E0).op).1 := by unfold domsE; rw [if_pos (by simpa using h38), args_doms]
    have hxs : ((vesS h i) ++ [(⟨(h.getD i E0), [0] ++ [1] ++ ((argsD ((h.getD i E0).model) ((h.getD i E0).op)).1)⟩ : VE)]) = vesS h (i + 1) := by rw [← vesS_step]; unfold veE; rw [hde]
    rw [hxs] at E oH47; clear hxs
    exact ⟨i + 1, ⟨_, _, _, _, (((hle19.trans hle33).trans hle40).trans hle46), S, E.cut ⟨rfl, rfl, rfl, rfl, rfl, rfl, rfl, trivial⟩, oH47, by omega⟩, by omega⟩
   ·have h38 := nm h38r
    refine sr fun K hK => ?_
    refine rn 2 E S ?_; clear E S; intro a w E S
    apply hK; clear hK K
    refine cond E rfl (fun h49r => ?_) (fun h49r => ?_)
    ·have h49 := nm h49r
     refine sr fun K hK => ?_
     refine rn 4 E S ?_; clear E S; intro a w E S
     refine o_lookI T.k49 Tryd.underlying103 T.zI kvV_inj E rfl S (.there (.there (.there (.there (.here .here))))) rfl rfl rfl (key_val T.K49 (by first | assumption | exact hwe.client)) ?_; clear E; intro a E
     have hcr := callF_rng h i (h.getD i E0).client
     have hi50 : (((callF h i) ((h.getD i E0).client)).getD 0).toNat < h.length := by omega
     obtain ⟨eb50, eo50, hA50, el50⟩ := Rd.at hR (List.getElem?_eq_getElem hi50); cases hA50
     rw [show h[(((callF h i) ((h.getD i E0).client)).getD 0).toNat] = (h.getD (((callF h i) ((h.getD i E0).client)).getD 0).toNat E0) from getD_get (i := (((callF h i) ((h.getD i E0).client)).getD 0).toNat) hi50 _] at el50
     obtain ⟨A1_50, c1_50, A2_50, c2_50, el50, ha1_50, hr1_50, ha2_50, hr2_50⟩ := kEvt_open el50
     refine o_ixL E rfl rfl rfl T.l22 ⟨by omega, by omega⟩ ?_; clear E; intro a E
     refine o_ldIA E rfl S rfl el50 T.a52 ?_; clear E; intro a E
     refine o_allocZ E rfl S ?_; clear E S; intro B12 w a S E
     refine rn 1 E S ?_; clear E S; intro a w E S
     apply hK; clear hK K
     refine sr fun K hK => ?_
     refine rn 6 E S ?_; clear E S; intro a w E S
     refine o_call E rfl S rfl rfl T.g49 (c_outs ((h.getD (((callF h i) ((h.getD i E0).client)).getD 0).toNat E0).model) ((h.getD (((callF h i) ((h.getD i E0).client)).getD 0).toNat E0).op) ((h.getD i E0).out) _ _ _ _ S.sub hg0 hg1 hr2_26 (by omega) hwo) ?_
     clear E S; rintro _ G52 w a S hle52 ⟨vA52, vc52, rfl, hcp52, hR52⟩ E
     replace hg0 := hg0.le hle52
     replace hg1 := hg1.le hle52
     replace hR := hR.le hle52
     replace hr1_26 := hr1_26.le hle52
     replace hr2_26 := hr2_26.le hle52
     replace hQ2 := hQ2.le hle52
     replace hQ5 := hQ5.le hle52
     replace hr1_50 := hr1_50.le hle52
     replace hr2_50 := hr2_50.le hle52
     replace oH5_1 := oH5_1.le hle52
     replace oH28 := oH28.le hle52
     refine rn 5 E S ?_; clear E S; intro a w E S
     apply hK; clear hK K
     refine wp_region_lit ?_
     have hol : (outsS (h.getD ((callF h i (h.getD i E0).client).getD 0).toNat E0).model (h.getD ((callF h i (h.getD i E0).client).getD 0).toNat E0).op (h.getD i E0).out).1.length ≤ 1000002 := outs_len _ _ _ hlo
     refine rn 3 E S ?_; clear E S; intro a w E S
     refine o_append (K := (Knd.int .i64)) E rfl S (.there (.there .here)) oH28 rfl rfl T.p59 hR52 int_one (by (simp only [List.length_append, List.length_cons, List.length_nil]; omega)) (by (simp only [List.length_append, List.length_cons, List.length_nil]; omega)) ?_
     clear E S; intro oA54 oc54 oC54 w a S oH54 E
     refine rn 2 E S ?_; clear E S; intro a w E S
     refine hK34 _ _ ?_; clear hK34
     refine wp_region_lit ?_
     refine rn 1 E S ?_; clear E S; intro a w E S
     have hcphR56 := oH54.cap
     obtain ⟨G55, hle57, S', hR56⟩ := X.Own.still S .here oH54; clear S; have S := S'; clear S'
     replace hg0 := hg0.le hle57
     replace hg1 := hg1.le hle57
     replace hR := hR.le hle57
     replace hr1_26 := hr1_26.le hle57
     replace hr2_26 := hr2_26.le hle57
     replace hQ2 := hQ2.le hle57
     replace hQ5 := hQ5.le hle57
     replace hr1_50 := hr1_50.le hle57
     replace hr2_50 := hr2_50.le hle57
     replace hR52 := hR52.le hle57
     replace oH5_1 := oH5_1.le hle57
     skip
     refine rn 1 E S ?_; clear E S; intro a w E S
     refine o_buildSl (cs := #[.int .i64 ((h.getD i E0).time), .int .i64 ((h.getD i E0).client.k), .int .i64 ((h.getD i E0).client.n), str ((h.getD i E0).client.s), .int .i64 ((h.getD i E0).type), .int .i64 ((h.getD i E0).model), .int .i64 ((h.getD i E0).key.k), .int .i64 ((h.getD i E0).key.n), str ((h.getD i E0).key.s), .int .i64 ((h.getD i E0).op), .slice vA2 (((h.getD i E0).args).length) vc2, .slice vA5 (((h.getD i E0).out).length) vc5, .bool ((h.getD i E0).noted), str ((h.getD i E0).note), .slice oA54 (([0] ++ ((outsS ((h.getD (((callF h i) ((h.getD i E0).client)).getD 0).toNat E0).model) ((h.getD (((callF h i) ((h.getD i E0).client)).getD 0).toNat E0).op) ((h.getD i E0).out)).1)).length) oc54]) [(0, _), (1, _), (2, _), (3, _), (4, _), (5, _), (6, _), (7, _), (8, _), (9, _), (10, _), (11, _), (12, _), (13, _), (14, _)] E rfl S rfl T.l85 (by kernel_rfl) ⟨rfl, rfl, rfl, rfl, rfl, rfl, rfl, rfl, rfl, rfl, rfl, rfl, rfl, rfl, rfl, trivial⟩ ?_; clear E S; intro B91 w a S E
     refine o_appendL (K := kVE) (ys := [(⟨(h.getD i E0), [0] ++ ((outsS ((h.getD (((callF h i) ((h.getD i E0).client)).getD 0).toNat E0).model) ((h.getD (((callF h i) ((h.getD i E0).client)).getD 0).toNat E0).op) ((h.getD i E0).out)).1)⟩ : VE)]) (n := 15) E rfl S (.there (.there (.there (.there .here)))) oH5_1 rfl rfl T.p85 (.here .here) rfl ⟨kVE_mk (⟨(h.getD i E0), [0] ++ ((outsS ((h.getD (((callF h i) ((h.getD i E0).client)).getD 0).toNat E0).model) ((h.getD (((callF h i) ((h.getD i E0).client)).getD 0).toNat E0).op) ((h.getD i E0).out)).1)⟩ : VE) hcp2 hQ2 hcp5 hQ5 hcphR56 hR56, rfl⟩ rfl rfl (by (have := vesS_len h i; simp; omega)) (by (have := vesS_len h i; simp; omega)) ?_
     clear E S; intro oA58 oc58 oC58 w a S oH58 E
     refine rn 1 E S ?_; clear E S; intro a w E S
     refine hK24 _ _ ?_; clear hK24
     refine wp_region_lit ?_
     refine rn 2 E S ?_; clear E S; intro a w E S
     replace S := S.drop (M' := [_, _, _]) (sub_keep (sub_drop (sub_drop (sub_drop (sub_drop (sub_keep (sub_keep sub_nil)))))))
     replace S := S.turnP (q := MapF Tryd.prog 49 kvV vvI (callF h (i + 1))) (.there (.here .here)) (fun o ho => ho.turn (call_stay (by simpa using h38)))
     have hde : domsE h i = [0] ++ (outsS (h.getD ((callF h i (h.getD i E0).client).getD 0).toNat E0).model (h.getD ((callF h i (h.getD i E0).client).getD 0).toNat E0).op (h.getD i E0).out).1 := by unfold domsE; rw [if_neg (by simpa using h38), if_pos (by simpa using h49), called_prog (hw0 i (by omega)) (by simpa using h49)]
     have hxs : ((vesS h i) ++ [(⟨(h.getD i E0), [0] ++ ((outsS ((h.getD (((callF h i) ((h.getD i E0).client)).getD 0).toNat E0).model) ((h.getD (((callF h i) ((h.getD i E0).client)).getD 0).toNat E0).op) ((h.getD i E0).out)).1)⟩ : VE)]) = vesS h (i + 1) := by rw [← vesS_step]; unfold veE; rw [hde]
     rw [hxs] at E oH58; clear hxs
     exact ⟨i + 1, ⟨_, _, _, _, (((hle19.trans hle33).trans hle52).trans hle57), S, E.cut ⟨rfl, rfl, rfl, rfl, rfl, rfl, rfl, trivial⟩, oH58, by omega⟩, by omega⟩
    ·have h49 := nm h49r
     refine wp_skip ?_
     refine hK34 _ _ ?_; clear hK34
     refine wp_region_lit ?_
     refine rn 1 E S ?_; clear E S; intro a w E S
     have hcphR60 := oH28.cap
     obtain ⟨G59, hle61, S', hR60⟩ := X.Own.still S (.there .here) oH28; clear S; have S := S'; clear S'
     replace hg0 := hg0.le hle61
     replace hg1 := hg1.le hle61
     replace hR := hR.le hle61
     replace hr1_26 := hr1_26.le hle61
     replace hr2_26 := hr2_26.le hle61
     replace hQ2 := hQ2.le hle61
     replace hQ5 := hQ5.le hle61
     replace oH5_1 := oH5_1.le hle61
     replace oH28 := oH28.le hle61
     skip
     refine rn 1 E S ?_; clear E S; intro a w E S
     refine o_buildSl (cs := #[.int .i64 ((h.getD i E0).time), .int .i64 ((h.getD i E0).client.k), .int .i64 ((h.getD i E0).client.n), str ((h.getD i E0).client.s), .int .i64 ((h.getD i E0).type), .int .i64 ((h.getD i E0).model), .int .i64 ((h.getD i E0).key.k), .int .i64 ((h.getD i E0).key.n), str ((h.getD i E0).key.s), .int .i64 ((h.getD i E0).op), .slice vA2 (((h.getD i E0).args).length) vc2, .slice vA5 (((h.getD i E0).out).length) vc5, .bool ((h.getD i E0).noted), str ((h.getD i E0).note), .slice oA28 (([0]).length) oc28]) [(0, _), (1, _), (2, _), (3, _), (4, _), (5, _), (6, _), (7, _), (8, _), (9, _), (10, _), (11, _), (12, _), (13, _), (14, _)] E rfl S rfl T.l85 (by kernel_rfl) ⟨rfl, rfl, rfl, rfl, rfl, rfl, rfl, rfl, rfl, rfl, rfl, rfl, rfl, rfl, rfl, trivial⟩ ?_; clear E S; intro B91 w a S E
     refine o_appendL (K := kVE) (ys := [(⟨(h.getD i E0), [0]⟩ : VE)]) (n := 15) E rfl S (.there (.there (.there .here))) oH5_1 rfl rfl T.p85 (.here .here) rfl ⟨kVE_mk (⟨(h.getD i E0), [0]⟩ : VE) hcp2 hQ2 hcp5 hQ5 hcphR60 hR60, rfl⟩ rfl rfl (by (have := vesS_len h i; simp; omega)) (by (have := vesS_len h i; simp; omega)) ?_
     clear E S; intro oA62 oc62 oC62 w a S oH62 E
     refine rn 1 E S ?_; clear E S; intro a w E S
     refine hK24 _ _ ?_; clear hK24
     refine wp_region_lit ?_
     refine rn 2 E S ?_; clear E S; intro a w E S
     replace S := S.drop (M' := [_, _, _]) (sub_keep (sub_drop (sub_drop (sub_drop (sub_keep (sub_keep sub_nil))))))
     replace S := S.turnP (q := MapF Tryd.prog 49 kvV vvI (callF h (i + 1))) (.there (.here .here)) (fun o ho => ho.turn (call_stay (by simpa using h38)))
     have hde : domsE h i = [0] := by unfold domsE; rw [if_neg (by simpa using h38), if_neg (by simpa using h49)]
     have hxs : ((vesS h i) ++ [(⟨(h.getD i E0), [0]⟩ : VE)]) = vesS h (i + 1) := by rw [← vesS_step]; unfold veE; rw [hde]
     rw [hxs] at E oH62; clear hxs
     exact ⟨i + 1, ⟨_, _, _, _, ((hle19.trans hle33).trans hle61), S, E.cut ⟨rfl, rfl, rfl, rfl, rfl, rfl, rfl, trivial⟩, oH62, by omega⟩, by omega⟩
  ·have h23 := nm h23r
   refine wp_exit ?_
   refine hK13 _ _ ?_; clear hK13
   refine sr fun K hK => ?_
   refine rn 1 E S ?_; clear E S; intro a w E S
   refine o_build (cs := #[.int .i64 0, .int .i64 0]) E rfl rfl (by kernel_rfl) ?_; clear E; intro a E
   refine rn 2 E S ?_; clear E S; intro a w E S
   apply hK; clear hK K
   have hcphR65 := oH5_1.cap
   obtain ⟨G64, hle66, S', hR65⟩ := X.Own.still S .here oH5_1; clear S; have S := S'; clear S'
   replace hg0 := hg0.le hle66
   replace hg1 := hg1.le hle66
   replace hR := hR.le hle66
   refine rt hQ E S ?_
   have hi9 : i = h.length := by omega
   subst hi9
   have he : allV h = vesS h h.length := by unfold allV; rw [if_pos hc0]
   rw [he, (check_all hc0).2]
   exact ⟨_, _, rfl, by assumption, by assumption⟩
end Go.Proofs.YtnfadpkhjfillaaDoor.T28
