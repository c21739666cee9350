/- The program's reading of a line. -/
import Derived.Test.YtiinipcmghhacaaGreatDoorZD2
set_option linter.unusedVariables false
set_option linter.unusedSimpArgs false
namespace Go.Proofs.YtiinipcmghhacaaGreatDoor.T10
open Go Go.Proofs.YtiinipcmghhacaaGreatDoor.X
instance : UN Tryz.prog 44 (.slice 3) := ⟨Tryz.underlying44⟩
instance : LZ Tryz.prog 26 [(0, .int .i64 0), (1, .int .i64 0), (2, .int .i64 0), (3, str []), (4, .int .i64 0), (5, .int .i64 0), (6, .int .i64 0), (7, .int .i64 0), (8, str []), (9, .int .i64 0), (10, .slice none 0 0), (11, .slice none 0 0), (12, .bool false), (13, str [])] := ⟨⟨.agg #[.int .i64 0, .int .i64 0, .int .i64 0, str [], .int .i64 0, .int .i64 0, .int .i64 0, .int .i64 0, str [], .int .i64 0, .slice none 0 0, .slice none 0 0, .bool false, str []], by kernel_rfl, ⟨rfl, rfl, rfl, rfl, rfl, rfl, rfl, rfl, rfl, rfl, rfl, rfl, rfl, rfl, trivial⟩⟩⟩
instance : LZ Tryz.prog 77 [(0, .slice none 0 0), (1, .int .i64 0), (2, .int .i64 0), (3, .int .i64 0), (4, .int .i64 0), (5, str []), (6, .int .i64 0), (7, .int .i64 0), (8, .int .i64 0), (9, .int .i64 0), (10, str []), (11, .int .i64 0), (12, .slice none 0 0), (13, .slice none 0 0), (14, .bool false), (15, str [])] := ⟨⟨.agg #[.slice none 0 0, .int .i64 0, .int .i64 0, .int .i64 0, .int .i64 0, str [], .int .i64 0, .int .i64 0, .int .i64 0, .int .i64 0, str [], .int .i64 0, .slice none 0 0, .slice none 0 0, .bool false, str []], by kernel_rfl, ⟨rfl, rfl, rfl, rfl, rfl, rfl, rfl, rfl, rfl, rfl, rfl, rfl, rfl, rfl, rfl, rfl, trivial⟩⟩⟩
theorem T.a26 : aggSz Tryz.prog 26 = some 14 := by kernel_rfl
instance : AG Tryz.prog 26 14 := ⟨T.a26⟩
theorem T.a77 : aggSz Tryz.prog 77 = some 16 := by kernel_rfl
instance : AG Tryz.prog 77 16 := ⟨T.a77⟩
theorem T.f26_0 : fieldOff Tryz.prog 26 0 = some 0 := by kernel_rfl
instance : FO Tryz.prog 26 0 0 := ⟨T.f26_0⟩
theorem T.f26_1 : fieldOff Tryz.prog 26 1 = some 1 := by kernel_rfl
instance : FO Tryz.prog 26 1 1 := ⟨T.f26_1⟩
theorem T.f26_2 : fieldOff Tryz.prog 26 2 = some 4 := by kernel_rfl
instance : FO Tryz.prog 26 2 4 := ⟨T.f26_2⟩
theorem T.f26_3 : fieldOff Tryz.prog 26 3 = some 5 := by kernel_rfl
instance : FO Tryz.prog 26 3 5 := ⟨T.f26_3⟩
theorem T.f26_4 : fieldOff Tryz.prog 26 4 = some 6 := by kernel_rfl
instance : FO Tryz.prog 26 4 6 := ⟨T.f26_4⟩
theorem T.f26_5 : fieldOff Tryz.prog 26 5 = some 9 := by kernel_rfl
instance : FO Tryz.prog 26 5 9 := ⟨T.f26_5⟩
theorem T.f26_6 : fieldOff Tryz.prog 26 6 = some 10 := by kernel_rfl
instance : FO Tryz.prog 26 6 10 := ⟨T.f26_6⟩
theorem T.f26_7 : fieldOff Tryz.prog 26 7 = some 11 := by kernel_rfl
instance : FO Tryz.prog 26 7 11 := ⟨T.f26_7⟩
theorem T.f75_0 : fieldOff Tryz.prog 75 0 = some 0 := by kernel_rfl
instance : FO Tryz.prog 75 0 0 := ⟨T.f75_0⟩
theorem T.f75_1 : fieldOff Tryz.prog 75 1 = some 1 := by kernel_rfl
instance : FO Tryz.prog 75 1 1 := ⟨T.f75_1⟩
theorem T.f77_0 : fieldOff Tryz.prog 77 0 = some 0 := by kernel_rfl
instance : FO Tryz.prog 77 0 0 := ⟨T.f77_0⟩
theorem T.f77_1 : fieldOff Tryz.prog 77 1 = some 2 := by kernel_rfl
instance : FO Tryz.prog 77 1 2 := ⟨T.f77_1⟩
theorem T.g18 : goFn Tryz.prog 18 = true := by kernel_rfl
theorem T.g20 : goFn Tryz.prog 20 = true := by kernel_rfl
theorem T.g40 : goFn Tryz.prog 40 = true := by kernel_rfl
theorem T.g41 : goFn Tryz.prog 41 = true := by kernel_rfl
theorem T.g42 : goFn Tryz.prog 42 = true := by kernel_rfl
theorem T.g59 : goFn Tryz.prog 59 = true := by kernel_rfl
theorem T.g60 : goFn Tryz.prog 60 = true := by kernel_rfl
theorem T.g61 : goFn Tryz.prog 61 = true := by kernel_rfl
theorem T.g62 : goFn Tryz.prog 62 = true := by kernel_rfl
theorem T.g63 : goFn Tryz.prog 63 = true := by kernel_rfl
theorem T.g64 : goFn Tryz.prog 64 = true := by kernel_rfl
theorem T.g65 : goFn Tryz.prog 65 = true := by kernel_rfl
theorem T.g81 : goFn Tryz.prog 81 = true := by kernel_rfl
theorem T.g82 : goFn Tryz.prog 82 = true := by kernel_rfl
theorem T.g83 : goFn Tryz.prog 83 = true := by kernel_rfl
theorem T.l24 : slOf Tryz.prog 24 = some (23, 3) := by kernel_rfl
theorem T.p24 : apOf Tryz.prog 24 = some (23, 3, 32) := by kernel_rfl
theorem T.s24 : scal Tryz.prog 24 = true := by kernel_rfl
instance : SC Tryz.prog 24 := ⟨T.s24⟩
theorem T.s53 : scal Tryz.prog 53 = true := by kernel_rfl
instance : SC Tryz.prog 53 := ⟨T.s53⟩

def argsL : List Int → List Bs → Int → List Val × List Bs × Int
  | [], l, e => ([], l, e)
  | d :: r, l, e => ((valueS d l e).1 :: (argsL r (valueS d l e).2.1 (valueS d l e).2.2).1, (argsL r (valueS d l e).2.1 (valueS d l e).2.2).2)
theorem argsL_step {ds : List Int} {j : Nat} {d : Int} {l : List Bs} {e : Int} {h : j < ds.length} (ex : ds[j] = d) : argsL (ds.drop j) l e = ((valueS d l e).1 :: (argsL (ds.drop (j + 1)) (valueS d l e).2.1 (valueS d l e).2.2).1, (argsL (ds.drop (j + 1)) (valueS d l e).2.1 (valueS d l e).2.2).2) := by
  rw [List.drop_eq_getElem_cons h, ex]
  rfl
theorem args_len (m o : Int) : (argsD m o).1.length ≤ 2 := by
  unfold argsD
  split
  · unfold doms; rw [List.length_map]; exact find_len m o
  · exact Nat.zero_le _
/-- Model, key, operation, arguments. -/
def invS (l : List Bs) (e : Int) : Int × Val × Int × List Val × List Bs × Int :=
  let m := numberS modelS l e
  let k := valueS 1 m.2.1 m.2.2
  let o := numberS opS k.2.1 k.2.2
  let a := argsL (argsD m.1 o.1).1 o.2.1 (if (!(argsD m.1 o.1).2) = true then faultS o.2.2 2 else o.2.2)
  (m.1, k.1, o.1, a.1, a.2.1, a.2.2)
/-- The values behind `ok`. -/
def outL : List Bs → Int → List Val × List Bs × Int
  | [], e => ([], [], e)
  | x :: r, e => if e = 0 then ((parseV x).1 :: (outL r (parseV x).2).1, (outL r (parseV x).2).2) else ([], x :: r, e)
theorem value_cons (x : Bs) (r : List Bs) : valueS (-1) (x :: r) 0 = ((parseV x).1, r, (parseV x).2) := by
  simp [valueS, nextS, faultS]
theorem outL_step {l : List Bs} {e : Int} {z : Val × List Bs × Int} (h : ¬ l = []) (he : e = 0) (hz : z = valueS (-1) l e) : outL l e = (z.1 :: (outL z.2.1 z.2.2).1, (outL z.2.1 z.2.2).2) ∧ z.2.1.length < l.length := by
  subst he
  match l, h with
  | x :: r, _ =>
    rw [value_cons] at hz
    subst hz
    exact ⟨by rw [outL, if_pos rfl], Nat.lt_succ_self _⟩
theorem outL_end {l : List Bs} {e : Int} (h : ¬ (e = 0 ∧ ¬ l = [])) : outL l e = ([], l, e) := by
  match l with
  | [] => rfl
  | x :: r => rw [outL, if_neg (fun he => h ⟨he, by simp⟩)]
/-- A line's words: the event, what is left, the fault. -/
def allS (l : List Bs) : Evt × List Bs × Int :=
  let z1 := nextS l 0
  let z2 := valueS 0 z1.2.1 (faultS z1.2.2 (erv (countS z1.1 9223372036854775807)))
  let z3 := numberS typedS z2.2.1 z2.2.2
  let q : Evt × List Bs × Int := if z3.1 = 1 then (⟨okv (countS z1.1 9223372036854775807), z2.1, z3.1, (invS z3.2.1 z3.2.2).1, (invS z3.2.1 z3.2.2).2.1, (invS z3.2.1 z3.2.2).2.2.1, (invS z3.2.1 z3.2.2).2.2.2.1, [], false, []⟩, (invS z3.2.1 z3.2.2).2.2.2.2)
    else if z3.1 = 2 then (⟨okv (countS z1.1 9223372036854775807), z2.1, z3.1, 0, ⟨0, 0, []⟩, 0, [], (outL z3.2.1 z3.2.2).1, false, []⟩, (outL z3.2.1 z3.2.2).2)
    else (⟨okv (countS z1.1 9223372036854775807), z2.1, z3.1, 0, ⟨0, 0, []⟩, 0, [], [], false, []⟩, z3.2)
  (q.1, q.2.1, if 0 < q.2.1.length then faultS q.2.2 2 else q.2.2)
def E0 : Evt := ⟨0, ⟨0, 0, []⟩, 0, 0, ⟨0, 0, []⟩, 0, [], [], false, []⟩
def parseE (s : Bs) : Evt × Int :=
  if ¬ (noteS s).2.2.2 = 0 then (E0, (noteS s).2.2.2) else if ¬ (wordsS (noteS s).1).2 = 0 then (E0, (wordsS (noteS s).1).2)
  else if ¬ (allS (wordsS (noteS s).1).1).2.2 = 0 then (E0, (allS (wordsS (noteS s).1).1).2.2) else ({ (allS (wordsS (noteS s).1).1).1 with noted := (noteS s).2.2.1, note := (noteS s).2.1 }, 0)
theorem splitS_mem {c : UInt8} : ∀ {s x : Bs}, x ∈ splitS c s → x.length ≤ s.length
  | [], x, h => by simp [splitS] at h; subst h; exact Nat.le_refl _
  | b :: r, x, h => by
    unfold splitS at h
    split at h
    · rcases List.mem_cons.1 h with rfl | h
      · exact Nat.zero_le _
      · exact Nat.le_succ_of_le (splitS_mem h)
    · have ih := fun y => splitS_mem (c := c) (s := r) (x := y)
      split at h
      · simp at h; subst h; simp
      · rename_i y z hz
        rw [hz] at ih
        rcases List.mem_cons.1 h with rfl | h
        · simpa using ih y (by simp)
        · exact Nat.le_succ_of_le (ih x (List.mem_cons_of_mem _ h))
theorem words_mem {s x : Bs} (h : x ∈ (wordsS s).1) : x.length ≤ s.length := by
  unfold wordsS at h
  split at h
  · cases h
  · exact splitS_mem h
theorem lines_mem {s x : Bs} (h : x ∈ (linesS s).1) : x.length ≤ s.length := by
  unfold linesS at h
  split at h
  · exact splitS_mem (c := 10) ((List.dropLast_sublist _).subset h)
  · cases h
theorem note_len (s : Bs) : (noteS s).1.length ≤ s.length := by
  unfold noteS
  split
  · exact Nat.le_refl _
  · split
    · exact Nat.zero_le _
    · have h1 := cutA_len s 59
      have h2 : (Lib.trimSuffix (cutA s 59) [32]).length ≤ (cutA s 59).length := by
        unfold Lib.trimSuffix
        split
        · rw [List.length_take]; omega
        · exact Nat.le_refl _
      show (Lib.trimSuffix (cutA s 59) [32]).length ≤ _
      omega
theorem get0 {l : List Bs} {x : Bs} {h : (0 : Int).toNat < l.length} (e : l[(0 : Int).toNat] = x) : l.getD 0 [] = x := by
  rw [List.getD_eq_getElem?_getD, List.getElem?_eq_getElem (show 0 < l.length from h), Option.getD_some]; exact e
/-! `(*incognito/event.words).fault` -/
set_option maxRecDepth 100000 in
set_option maxHeartbeats 4000000 in
theorem c_fault (br : Nat) (e e2 : Int) (c0 : Value) (c2 c3 c4 c5 c6 c7 c8 c9 c10 c11 c12 c13 c14 c15 : Value) {W0 : World} {H0 : Heap} {L0 : List Nat} {M0 : List Chunk} (w0 : World) (G : Heap) (hS0 : St W0 H0 L0 G w0 ([(br, Cells 77 [(0, c0), (1, .int .i64 e), (2, c2), (3, c3), (4, c4), (5, c5), (6, c6), (7, c7), (8, c8), (9, c9), (10, c10), (11, c11), (12, c12), (13, c13), (14, c14), (15, c15)])] :: M0)) :
  Calls Tryz.prog 61 #[.pointer (some ⟨br, 0, none⟩), .int .i64 e2] w0 (X.Ends w0 G [br] (fun v G' C' => v = .tuple #[] ∧ C' = [(br, Cells 77 [(0, c0), (1, .int .i64 (faultS e e2)), (2, c2), (3, c3), (4, c4), (5, c5), (6, c6), (7, c7), (8, c8), (9, c9), (10, c10), (11, c11), (12, c12), (13, c13), (14, c14), (15, c15)])]) (fun _ _ _ => False)) := by
 refine enter Tryz.func61 rfl Tryz.ntmps61 rfl ?_
 intro Q hQ a HE
 have HS := St.start (C := [(br, Cells 77 [(0, c0), (1, .int .i64 e), (2, c2), (3, c3), (4, c4), (5, c5), (6, c6), (7, c7), (8, c8), (9, c9), (10, c10), (11, c11), (12, c12), (13, c13), (14, c14), (15, c15)])]) hS0.sub (fun p hp => hS0.mem p (by simp only [List.flatten_cons, List.mem_append]; exact .inl hp)) (fun p hp => hS0.sep p (by simp only [List.flatten_cons, List.mem_append]; exact .inl hp)) (by simp [X.keys])
 change St w0 G [br] G w0 _ at HS
 refine sr fun K hK => ?_
 refine rn 5 HE HS ?_; clear HE HS; intro a w HE HS
 apply hK; clear hK K
 refine cond HE rfl (fun h2r => ?_) (fun h2r => ?_)
 ·have h2 := nm h2r
  refine wp_region_lit ?_
  refine rn 5 HE HS ?_; clear HE HS; intro a w HE HS
  show Q .normal _ _
  refine retN hQ HE rfl .nil ?_
  have he : faultS e e2 = e2 := by unfold faultS; rw [if_pos (by omega)]
  exact ⟨_, [(br, Cells 77 [(0, c0), (1, .int .i64 e2), (2, c2), (3, c3), (4, c4), (5, c5), (6, c6), (7, c7), (8, c8), (9, c9), (10, c10), (11, c11), (12, c12), (13, c13), (14, c14), (15, c15)])], HS.stop (by simp), rfl, by rw [he]⟩
 ·have h2 := nm h2r
  refine wp_skip ?_
  show Q .normal _ _
  refine retN hQ HE rfl .nil ?_
  have he : faultS e e2 = e := by unfold faultS; rw [if_neg (by omega)]
  exact ⟨_, [(br, Cells 77 [(0, c0), (1, .int .i64 e), (2, c2), (3, c3), (4, c4), (5, c5), (6, c6), (7, c7), (8, c8), (9, c9), (10, c10), (11, c11), (12, c12), (13, c13), (14, c14), (15, c15)])], HS.stop (by simp), rfl, by rw [he]⟩

/-! `(*incognito/event.words).next` -/
set_option maxRecDepth 100000 in
set_option maxHeartbeats 4000000 in
theorem c_next (br : Nat) (l : List Bs) (A : Option Addr) (c : Nat) (e : Int) (c2 c3 c4 c5 c6 c7 c8 c9 c10 c11 c12 c13 c14 c15 : Value) {W0 : World} {H0 : Heap} {L0 : List Nat} {M0 : List Chunk} (w0 : World) (G : Heap) (hS0 : St W0 H0 L0 G w0 ([(br, Cells 77 [(0, .slice A l.length c), (1, .int .i64 e), (2, c2), (3, c3), (4, c4), (5, c5), (6, c6), (7, c7), (8, c8), (9, c9), (10, c10), (11, c11), (12, c12), (13, c13), (14, c14), (15, c15)])] :: M0)) (hR : Rd Knd.s G A l) (hc : l.length ≤ c) (hls : ∀ x ∈ l, x.length ≤ 4294967280):
  Calls Tryz.prog 60 #[.pointer (some ⟨br, 0, none⟩)] w0 (X.Ends w0 G [br] (fun v G' C' => ∃ z, z = nextS l e ∧ v = str z.1 ∧ ∃ A' c', z.2.1.length ≤ c' ∧ Rd Knd.s G' A' z.2.1 ∧ C' = [(br, Cells 77 [(0, .slice A' z.2.1.length c'), (1, .int .i64 z.2.2), (2, c2), (3, c3), (4, c4), (5, c5), (6, c6), (7, c7), (8, c8), (9, c9), (10, c10), (11, c11), (12, c12), (13, c13), (14, c14), (15, c15)])]) (fun _ _ _ => False)) := by
 refine enter Tryz.func60 rfl Tryz.ntmps60 rfl ?_
 intro Q hQ a HE
 have HS := St.start (C := [(br, Cells 77 [(0, .slice A l.length c), (1, .int .i64 e), (2, c2), (3, c3), (4, c4), (5, c5), (6, c6), (7, c7), (8, c8), (9, c9), (10, c10), (11, c11), (12, c12), (13, c13), (14, c14), (15, c15)])]) hS0.sub (fun p hp => hS0.mem p (by simp only [List.flatten_cons, List.mem_append]; exact .inl hp)) (fun p hp => hS0.sep p (by simp only [List.flatten_cons, List.mem_append]; exact .inl hp)) (by simp [X.keys])
 change St w0 G [br] G w0 _ at HS
 refine sr fun K hK => ?_
 refine rn 1 HE HS ?_; clear HE HS; intro a w HE HS
 apply hK; clear hK K
 refine wp_seq_k (fun K3 hK2 => ?_)
 refine sr fun K hK => ?_
 refine rn 6 HE HS ?_; clear HE HS; intro a w HE HS
 apply hK; clear hK K
 refine cond HE rfl (fun h5r => ?_) (fun h5r => ?_)
 ·have h5 := nm h5r
  refine wp_region_lit ?_
  refine rn 1 HE HS ?_; clear HE HS; intro a w HE HS
  have hcall6 := c_fault br e 2 (.slice A l.length c) c2 c3 c4 c5 c6 c7 c8 c9 c10 c11 c12 c13 c14 c15 _ _ (HS.front (C := [(br, Cells 77 [(0, .slice A l.length c), (1, .int .i64 e), (2, c2), (3, c3), (4, c4), (5, c5), (6, c6), (7, c7), (8, c8), (9, c9), (10, c10), (11, c11), (12, c12), (13, c13), (14, c14), (15, c15)])]) .here)
  replace HS : St w0 G [br] G _ ([] ++ [(br, Cells 77 [(0, .slice A l.length c), (1, .int .i64 e), (2, c2), (3, c3), (4, c4), (5, c5), (6, c6), (7, c7), (8, c8), (9, c9), (10, c10), (11, c11), (12, c12), (13, c13), (14, c14), (15, c15)])] :: []) := HS
  refine o_callM HE rfl HS rfl rfl T.g61 hcall6 ?_ (fun _ _ _ _ _ _ h => h.elim)
  clear HE HS; rintro _ G6 _ w a HS hle6 ⟨rfl, rfl⟩ HE; clear hcall6
  replace hR := hR.le hle6
  refine hK2 _ _ ?_; clear hK2
  refine wp_seq_k (fun K8 hK7 => ?_)
  refine sr fun K hK => ?_
  refine rn 5 HE HS ?_; clear HE HS; intro a w HE HS
  apply hK; clear hK K
  refine cond HE rfl (fun h10r => ?_) (fun h10r => ?_)
  ·have h10 := nm h10r
   refine sr fun K hK => ?_
   refine rn 1 HE HS ?_; clear HE HS; intro a w HE HS
   apply hK; clear hK K
   refine rtE hQ HE HS ?_
   have hl0 : l = [] := by exact List.length_eq_zero_iff.1 (by omega)
   have he : nextS l e = ([], l, faultS e 2) := by
    unfold nextS
    rw [if_pos hl0, if_neg h10]
   exact ⟨_, [(br, Cells 77 [(0, .slice A l.length c), (1, .int .i64 (faultS e 2)), (2, c2), (3, c3), (4, c4), (5, c5), (6, c6), (7, c7), (8, c8), (9, c9), (10, c10), (11, c11), (12, c12), (13, c13), (14, c14), (15, c15)])], HS.stop (by simp), _, rfl, by rw [he]; rfl, by rw [he]; exact ⟨_, _, hc, hR, rfl⟩⟩
  ·have h10 := nm h10r
   refine wp_skip ?_
   refine hK7 _ _ ?_; clear hK7
   refine sr fun K hK => ?_
   refine rn 4 HE HS ?_; clear HE HS; intro a w HE HS
   have hi12 : (0 : Int).toNat < l.length := by (first | omega | (exfalso; have := fault2_ne e; omega))
   obtain ⟨eb12, eo12, hA12, el12⟩ := Rd.at hR (List.getElem?_eq_getElem hi12); cases hA12
   obtain ⟨x12, ex12⟩ : ∃ x, l[(0 : Int).toNat] = x := ⟨_, rfl⟩; rw [ex12] at el12
   have el12 := kof_open (enc := fun l => str l) el12
   refine o_ixL HE rfl rfl rfl T.l53 ⟨by omega, by omega⟩ ?_; clear HE; intro a HE
   refine o_ldI HE rfl HS rfl T.s9 el12 (j := 0) rfl rfl ?_; clear HE; intro a HE
   refine rn 1 HE HS ?_; clear HE HS; intro a w HE HS
   apply hK; clear hK K
   refine sr fun K hK => ?_
   refine rn 5 HE HS ?_; clear HE HS; intro a w HE HS
   refine o_sliceRLo (K := Knd.s) (k := 1) HE rfl rfl rfl T.l53 rfl hR rfl hc ⟨by omega, by first | omega | (exfalso; have := fault2_ne e; omega)⟩ ?_; clear HE; intro vA14 vc14 a hR14 hcp14 HE
   rw [show (1 : Int).toNat = 1 from rfl] at HE hR14 hcp14
   refine rn 3 HE HS ?_; clear HE HS; intro a w HE HS
   apply hK; clear hK K
   refine sr fun K hK => ?_
   refine rn 2 HE HS ?_; clear HE HS; intro a w HE HS
   apply hK; clear hK K
   refine rtE hQ HE HS ?_
   exact absurd h10 (fault2_ne e)
 ·have h5 := nm h5r
  refine wp_skip ?_
  refine hK2 _ _ ?_; clear hK2
  refine wp_seq_k (fun K18 hK17 => ?_)
  refine sr fun K hK => ?_
  refine rn 5 HE HS ?_; clear HE HS; intro a w HE HS
  apply hK; clear hK K
  refine cond HE rfl (fun h20r => ?_) (fun h20r => ?_)
  ·have h20 := nm h20r
   refine sr fun K hK => ?_
   refine rn 1 HE HS ?_; clear HE HS; intro a w HE HS
   apply hK; clear hK K
   refine rtE hQ HE HS ?_
   have hl0 : ¬ l = [] := by intro h; subst h; simp at h5
   have he : nextS l e = ([], l, e) := by
    unfold nextS
    rw [if_neg hl0, if_neg h20]
   exact ⟨_, [(br, Cells 77 [(0, .slice A l.length c), (1, .int .i64 e), (2, c2), (3, c3), (4, c4), (5, c5), (6, c6), (7, c7), (8, c8), (9, c9), (10, c10), (11, c11), (12, c12), (13, c13), (14, c14), (15, c15)])], HS.stop (by simp), _, rfl, by rw [he]; rfl, by rw [he]; exact ⟨_, _, hc, hR, rfl⟩⟩
  ·have h20 := nm h20r
   refine wp_skip ?_
   refine hK17 _ _ ?_; clear hK17
   refine sr fun K hK => ?_
   refine rn 4 HE HS ?_; clear HE HS; intro a w HE HS
   have hi22 : (0 : Int).toNat < l.length := by (first | omega | (exfalso; have := fault2_ne e; omega))
   obtain ⟨eb22, eo22, hA22, el22⟩ := Rd.at hR (List.getElem?_eq_getElem hi22); cases hA22
   obtain ⟨x22, ex22⟩ : ∃ x, l[(0 : Int).toNat] = x := ⟨_, rfl⟩; rw [ex22] at el22
   have el22 := kof_open (enc := fun l => str l) el22
   refine o_ixL HE rfl rfl rfl T.l53 ⟨by omega, by omega⟩ ?_; clear HE; intro a HE
   refine o_ldI HE rfl HS rfl T.s9 el22 (j := 0) rfl rfl ?_; clear HE; intro a HE
   refine rn 1 HE HS ?_; clear HE HS; intro a w HE HS
   apply hK; clear hK K
   refine sr fun K hK => ?_
   refine rn 5 HE HS ?_; clear HE HS; intro a w HE HS
   refine o_sliceRLo (K := Knd.s) (k := 1) HE rfl rfl rfl T.l53 rfl hR rfl hc ⟨by omega, by first | omega | (exfalso; have := fault2_ne e; omega)⟩ ?_; clear HE; intro vA24 vc24 a hR24 hcp24 HE
   rw [show (1 : Int).toNat = 1 from rfl] at HE hR24 hcp24
   refine rn 3 HE HS ?_; clear HE HS; intro a w HE HS
   apply hK; clear hK K
   refine sr fun K hK => ?_
   refine rn 2 HE HS ?_; clear HE HS; intro a w HE HS
   apply hK; clear hK K
   refine rtE hQ HE HS ?_
   have hl0 : ¬ l = [] := by intro h; subst h; simp at h5
   have he : nextS l e = (x22, (l).drop 1, e) := by
    unfold nextS
    rw [if_neg hl0, if_pos h20, ← get0 ex22, h20]
   exact ⟨_, [(br, Cells 77 [(0, .slice vA24 (((l).drop 1).length) vc24), (1, .int .i64 e), (2, c2), (3, c3), (4, c4), (5, c5), (6, c6), (7, c7), (8, c8), (9, c9), (10, c10), (11, c11), (12, c12), (13, c13), (14, c14), (15, c15)])], HS.stop (by simp), _, rfl, by rw [he]; rfl, by rw [he]; exact ⟨_, _, hcp24, hR24, rfl⟩⟩

/-! `(*incognito/event.reader).value` -/
set_option maxRecDepth 100000 in
set_option maxHeartbeats 4000000 in
theorem c_value (br : Nat) (l : List Bs) (A : Option Addr) (c : Nat) (e : Int) (c2 c3 c4 c5 c6 c7 c8 c9 c10 c11 c12 c13 c14 c15 : Value) (d : Int) {W0 : World} {H0 : Heap} {L0 : List Nat} {M0 : List Chunk} (w0 : World) (G : Heap) (hS0 : St W0 H0 L0 G w0 ([(br, Cells 77 [(0, .slice A l.length c), (1, .int .i64 e), (2, c2), (3, c3), (4, c4), (5, c5), (6, c6), (7, c7), (8, c8), (9, c9), (10, c10), (11, c11), (12, c12), (13, c13), (14, c14), (15, c15)])] :: M0)) (hR : Rd Knd.s G A l) (hc : l.length ≤ c) (hls : ∀ x ∈ l, x.length ≤ 4294967280) (hg0 : CellsAt G 1 0 [.int .i64 3, .int .i64 1, str []]) (hg1 : CellsAt G 2 0 [.int .i64 3, .int .i64 0, str []]):
  Calls Tryz.prog 62 #[.pointer (some ⟨br, 0, none⟩), .int .i64 d] w0 (X.Ends w0 G [br] (fun v G' C' => ∃ z, z = valueS d l e ∧ v = .agg (valCells z.1).toArray ∧ ∃ A' c', z.2.1.length ≤ c' ∧ Rd Knd.s G' A' z.2.1 ∧ C' = [(br, Cells 77 [(0, .slice A' z.2.1.length c'), (1, .int .i64 z.2.2), (2, c2), (3, c3), (4, c4), (5, c5), (6, c6), (7, c7), (8, c8), (9, c9), (10, c10), (11, c11), (12, c12), (13, c13), (14, c14), (15, c15)])]) (fun _ _ _ => False)) := by
 refine enter Tryz.func62 rfl Tryz.ntmps62 rfl ?_
 intro Q hQ a HE
 have HS := St.start (C := [(br, Cells 77 [(0, .slice A l.length c), (1, .int .i64 e), (2, c2), (3, c3), (4, c4), (5, c5), (6, c6), (7, c7), (8, c8), (9, c9), (10, c10), (11, c11), (12, c12), (13, c13), (14, c14), (15, c15)])]) hS0.sub (fun p hp => hS0.mem p (by simp only [List.flatten_cons, List.mem_append]; exact .inl hp)) (fun p hp => hS0.sep p (by simp only [List.flatten_cons, List.mem_append]; exact .inl hp)) (by simp [X.keys])
 change St w0 G [br] G w0 _ at HS
 refine sr fun K hK => ?_
 refine o_allocZ HE rfl HS ?_; clear HE HS; intro B4 w a HS HE
 apply hK; clear hK K
 refine sr fun K hK => ?_
 refine rn 3 HE HS ?_; clear HE HS; intro a w HE HS
 have hcall3 := c_next br l _ _ e c2 c3 c4 c5 c6 c7 c8 c9 c10 c11 c12 c13 c14 c15 _ _ (HS.front (C := [(br, Cells 77 [(0, .slice A l.length c), (1, .int .i64 e), (2, c2), (3, c3), (4, c4), (5, c5), (6, c6), (7, c7), (8, c8), (9, c9), (10, c10), (11, c11), (12, c12), (13, c13), (14, c14), (15, c15)])]) (.there .here)) hR hc hls 
 replace HS : St w0 G [br] G _ ([[(B4, Cells 23 [(0, .int .i64 0), (1, .int .i64 0), (2, str [])])]] ++ [(br, Cells 77 [(0, .slice A l.length c), (1, .int .i64 e), (2, c2), (3, c3), (4, c4), (5, c5), (6, c6), (7, c7), (8, c8), (9, c9), (10, c10), (11, c11), (12, c12), (13, c13), (14, c14), (15, c15)])] :: []) := HS
 refine o_callM HE rfl HS rfl rfl T.g60 hcall3 ?_ (fun _ _ _ _ _ _ h => h.elim)
 clear HE HS; rintro _ G3 _ w a HS hle3 ⟨z2, hz2, rfl, vA3, vc3, hcp3, hR3, rfl⟩ HE; clear hcall3
 replace hR := hR.le hle3
 replace hg0 := hg0.le hle3
 replace hg1 := hg1.le hle3
 have hlsz2 : ∀ x ∈ z2.2.1, x.length ≤ 4294967280 := by rw [hz2]; exact (next_len hls).2.1
 have hlnz2 : z2.2.1.length ≤ (l).length := by rw [hz2]; exact (next_len hls).2.2
 have hlwz2 : z2.1.length ≤ 4294967280 := by rw [hz2]; exact (next_len hls).1
 refine rn 1 HE HS ?_; clear HE HS; intro a w HE HS
 apply hK; clear hK K
 refine wp_seq_k (fun K6 hK5 => ?_)
 refine sr fun K hK => ?_
 refine rn 5 HE HS ?_; clear HE HS; intro a w HE HS
 skip
 refine rn 1 HE HS ?_; clear HE HS; intro a w HE HS
 apply hK; clear hK K
 refine cond HE rfl (fun h8r => ?_) (fun h8r => ?_)
 ·have h8 := nm h8r
  refine sr fun K hK => ?_
  refine o_build (cs := #[.int .i64 0, .int .i64 0, str []]) HE rfl rfl (by kernel_rfl) ?_; clear HE; intro a HE
  refine rn 1 HE HS ?_; clear HE HS; intro a w HE HS
  apply hK; clear hK K
  refine rtE hQ HE HS ?_
  replace HS := HS.drop (M' := [_]) (sub_drop (sub_keep sub_nil))
  have he : valueS d l e = ((⟨0, 0, []⟩ : Val), z2.2.1, z2.2.2) := by
   unfold valueS
   rw [← hz2]
   rw [if_neg h8]
  exact ⟨_, [(br, Cells 77 [(0, .slice vA3 z2.2.1.length vc3), (1, .int .i64 z2.2.2), (2, c2), (3, c3), (4, c4), (5, c5), (6, c6), (7, c7), (8, c8), (9, c9), (10, c10), (11, c11), (12, c12), (13, c13), (14, c14), (15, c15)])], HS.stop (by simp), _, rfl, by rw [he]; rfl, by rw [he]; exact ⟨_, _, hcp3, hR3, rfl⟩⟩
 ·have h8 := nm h8r
  refine wp_skip ?_
  refine hK5 _ _ ?_; clear hK5
  refine sr fun K hK => ?_
  have hvw : (parseV z2.1).1.Wf := parse_wf (by omega)
  refine rn 1 HE HS ?_; clear HE HS; intro a w HE HS
  refine o_callP HE rfl HS rfl rfl T.g81 (c_parseV z2.1 _ _ HS.sub hg0 hg1 (by first | omega | (simp; done) | (simp; omega))) ?_
  clear HE HS; rintro _ w a HS rfl HE
  refine rn 3 HE HS ?_; clear HE HS; intro a w HE HS
  refine o_allocZ HE rfl HS ?_; clear HE HS; intro B6 w a HS HE
  refine rn 2 HE HS ?_; clear HE HS; intro a w HE HS
  apply hK; clear hK K
  refine sr fun K hK => ?_
  refine rn 4 HE HS ?_; clear HE HS; intro a w HE HS
  have hcall11 := c_fault br z2.2.2 ((parseV z2.1).2) (.slice vA3 z2.2.1.length vc3) c2 c3 c4 c5 c6 c7 c8 c9 c10 c11 c12 c13 c14 c15 _ _ (HS.front (C := [(br, Cells 77 [(0, .slice vA3 z2.2.1.length vc3), (1, .int .i64 z2.2.2), (2, c2), (3, c3), (4, c4), (5, c5), (6, c6), (7, c7), (8, c8), (9, c9), (10, c10), (11, c11), (12, c12), (13, c13), (14, c14), (15, c15)])]) (.there (.there .here)))
  replace HS : St w0 G [br] G3 _ ([[(B6, Cells 23 [(0, .int .i64 ((parseV z2.1).1.k)), (1, .int .i64 ((parseV z2.1).1.n)), (2, str ((parseV z2.1).1.s))])], [(B4, Cells 23 [(0, .int .i64 0), (1, .int .i64 0), (2, str [])])]] ++ [(br, Cells 77 [(0, .slice vA3 z2.2.1.length vc3), (1, .int .i64 z2.2.2), (2, c2), (3, c3), (4, c4), (5, c5), (6, c6), (7, c7), (8, c8), (9, c9), (10, c10), (11, c11), (12, c12), (13, c13), (14, c14), (15, c15)])] :: []) := HS
  refine o_callM HE rfl HS rfl rfl T.g61 hcall11 ?_ (fun _ _ _ _ _ _ h => h.elim)
  clear HE HS; rintro _ G11 _ w a HS hle11 ⟨rfl, rfl⟩ HE; clear hcall11
  replace hR := hR.le hle11
  replace hg0 := hg0.le hle11
  replace hg1 := hg1.le hle11
  replace hR3 := hR3.le hle11
  apply hK; clear hK K
  refine wp_seq_k (fun K14 hK13 => ?_)
  refine sr fun K hK => ?_
  refine rn 7 HE HS ?_; clear HE HS; intro a w HE HS
  refine cutG 3 38 (.bool ((decide ((faultS z2.2.2 ((parseV z2.1).2)) = 0)) && (decide (0 ≤ d)))) HE HS ?_ ?_
  ·refine bsp HE (t := 35) rfl (fun hb15 => ?_) (fun hb15 => ?_)
   ·have hk16 := nm hb15
    refine rn 3 HE HS ?_; clear HE HS; intro a w HE HS
    exact ⟨HS, HE.cutT (by rw [hb15] <;> rfl)⟩
   ·skip
    refine rn 3 HE HS ?_; clear HE HS; intro a w HE HS
    exact ⟨HS, HE.cutT (by rw [hb15] <;> rfl)⟩
  clear HE HS; intro a w HE HS
  refine rn 1 HE HS ?_; clear HE HS; intro a w HE HS
  refine cutG 5 44 (.bool (((decide ((faultS z2.2.2 ((parseV z2.1).2)) = 0)) && (decide (0 ≤ d))) && (!(takesB d ((parseV z2.1).1))))) HE HS ?_ ?_
  ·refine bsp HE (t := 39) rfl (fun hb17 => ?_) (fun hb17 => ?_)
   ·have hk18 := nm hb17
    refine rn 2 HE HS ?_; clear HE HS; intro a w HE HS
    refine op_on HE rfl rfl hb17 ?_
    refine o_callP HE rfl HS rfl rfl T.g18 (c_takes d ((parseV z2.1).1) _ _ HS.sub hg0 hg1 (by assumption)) ?_
    clear HE HS; rintro _ w a HS rfl HE
    refine rn 2 HE HS ?_; clear HE HS; intro a w HE HS
    exact ⟨HS, HE.cutT (by rw [hb17] <;> rfl)⟩
   ·skip
    refine rn 5 HE HS ?_; clear HE HS; intro a w HE HS
    exact ⟨HS, HE.cutT (by rw [hb17] <;> rfl)⟩
  clear HE HS; intro a w HE HS
  apply hK; clear hK K
  refine cond HE rfl (fun h20r => ?_) (fun h20r => ?_)
  ·have h20 := nm h20r
   refine wp_region_lit ?_
   refine rn 3 HE HS ?_; clear HE HS; intro a w HE HS
   have hcall21 := c_fault br (faultS z2.2.2 ((parseV z2.1).2)) 2 (.slice vA3 z2.2.1.length vc3) c2 c3 c4 c5 c6 c7 c8 c9 c10 c11 c12 c13 c14 c15 _ _ (HS.front (C := [(br, Cells 77 [(0, .slice vA3 z2.2.1.length vc3), (1, .int .i64 (faultS z2.2.2 ((parseV z2.1).2))), (2, c2), (3, c3), (4, c4), (5, c5), (6, c6), (7, c7), (8, c8), (9, c9), (10, c10), (11, c11), (12, c12), (13, c13), (14, c14), (15, c15)])]) (.there (.there .here)))
   replace HS : St w0 G [br] G11 _ ([[(B6, Cells 23 [(0, .int .i64 ((parseV z2.1).1.k)), (1, .int .i64 ((parseV z2.1).1.n)), (2, str ((parseV z2.1).1.s))])], [(B4, Cells 23 [(0, .int .i64 0), (1, .int .i64 0), (2, str [])])]] ++ [(br, Cells 77 [(0, .slice vA3 z2.2.1.length vc3), (1, .int .i64 (faultS z2.2.2 ((parseV z2.1).2))), (2, c2), (3, c3), (4, c4), (5, c5), (6, c6), (7, c7), (8, c8), (9, c9), (10, c10), (11, c11), (12, c12), (13, c13), (14, c14), (15, c15)])] :: []) := HS
   refine o_callM HE rfl HS rfl rfl T.g61 hcall21 ?_ (fun _ _ _ _ _ _ h => h.elim)
   clear HE HS; rintro _ G21 _ w a HS hle21 ⟨rfl, rfl⟩ HE; clear hcall21
   replace hR := hR.le hle21
   replace hg0 := hg0.le hle21
   replace hg1 := hg1.le hle21
   replace hR3 := hR3.le hle21
   refine hK13 _ _ ?_; clear hK13
   refine sr fun K hK => ?_
   refine rn 2 HE HS ?_; clear HE HS; intro a w HE HS
   apply hK; clear hK K
   refine rtE hQ HE HS ?_
   replace HS := HS.drop (M' := [_]) (sub_drop (sub_drop (sub_keep sub_nil)))
   have he : valueS d l e = (((parseV z2.1).1), z2.2.1, faultS (faultS z2.2.2 ((parseV z2.1).2)) 2) := by
    unfold valueS
    rw [← hz2]
    rw [if_pos h8, if_pos h20r]
   exact ⟨_, [(br, Cells 77 [(0, .slice vA3 z2.2.1.length vc3), (1, .int .i64 (faultS (faultS z2.2.2 ((parseV z2.1).2)) 2)), (2, c2), (3, c3), (4, c4), (5, c5), (6, c6), (7, c7), (8, c8), (9, c9), (10, c10), (11, c11), (12, c12), (13, c13), (14, c14), (15, c15)])], HS.stop (by simp), _, rfl, by rw [he]; rfl, by rw [he]; exact ⟨_, _, hcp3, hR3, rfl⟩⟩
  ·have h20 := nm h20r
   refine wp_skip ?_
   refine hK13 _ _ ?_; clear hK13
   refine sr fun K hK => ?_
   refine rn 2 HE HS ?_; clear HE HS; intro a w HE HS
   apply hK; clear hK K
   refine rtE hQ HE HS ?_
   replace HS := HS.drop (M' := [_]) (sub_drop (sub_drop (sub_keep sub_nil)))
   have he : valueS d l e = (((parseV z2.1).1), z2.2.1, faultS z2.2.2 ((parseV z2.1).2)) := by
    unfold valueS
    rw [← hz2]
    rw [if_pos h8, if_neg (by rw [h20r]; decide)]
   exact ⟨_, [(br, Cells 77 [(0, .slice vA3 z2.2.1.length vc3), (1, .int .i64 (faultS z2.2.2 ((parseV z2.1).2))), (2, c2), (3, c3), (4, c4), (5, c5), (6, c6), (7, c7), (8, c8), (9, c9), (10, c10), (11, c11), (12, c12), (13, c13), (14, c14), (15, c15)])], HS.stop (by simp), _, rfl, by rw [he]; rfl, by rw [he]; exact ⟨_, _, hcp3, hR3, rfl⟩⟩

/-! `(*incognito/event.reader).number` -/
set_option maxRecDepth 100000 in
set_option maxHeartbeats 4000000 in
theorem c_number1 (br : Nat) (l : List Bs) (A : Option Addr) (c : Nat) (e : Int) (c2 c3 c4 c5 c6 c7 c8 c9 c10 c11 c12 c13 c14 c15 : Value) {W0 : World} {H0 : Heap} {L0 : List Nat} {M0 : List Chunk} (w0 : World) (G : Heap) (hS0 : St W0 H0 L0 G w0 ([(br, Cells 77 [(0, .slice A l.length c), (1, .int .i64 e), (2, c2), (3, c3), (4, c4), (5, c5), (6, c6), (7, c7), (8, c8), (9, c9), (10, c10), (11, c11), (12, c12), (13, c13), (14, c14), (15, c15)])] :: M0)) (hR : Rd Knd.s G A l) (hc : l.length ≤ c) (hls : ∀ x ∈ l, x.length ≤ 4294967280) (hgn : CellsAt G 0 0 [str [], str [105, 110, 118, 111, 107, 101], str [111, 107], str [102, 97, 105, 108], str [105, 110, 102, 111]]):
  Calls Tryz.prog 63 #[.pointer (some ⟨br, 0, none⟩), .func (.func 64) #[] #[]] w0 (X.Ends w0 G [br] (fun v G' C' => ∃ z, z = numberS typedS l e ∧ v = .int .i64 z.1 ∧ ∃ A' c', z.2.1.length ≤ c' ∧ Rd Knd.s G' A' z.2.1 ∧ C' = [(br, Cells 77 [(0, .slice A' z.2.1.length c'), (1, .int .i64 z.2.2), (2, c2), (3, c3), (4, c4), (5, c5), (6, c6), (7, c7), (8, c8), (9, c9), (10, c10), (11, c11), (12, c12), (13, c13), (14, c14), (15, c15)])]) (fun _ _ _ => False)) := by
 refine enter Tryz.func63 rfl Tryz.ntmps63 rfl ?_
 intro Q hQ a HE
 have HS := St.start (C := [(br, Cells 77 [(0, .slice A l.length c), (1, .int .i64 e), (2, c2), (3, c3), (4, c4), (5, c5), (6, c6), (7, c7), (8, c8), (9, c9), (10, c10), (11, c11), (12, c12), (13, c13), (14, c14), (15, c15)])]) hS0.sub (fun p hp => hS0.mem p (by simp only [List.flatten_cons, List.mem_append]; exact .inl hp)) (fun p hp => hS0.sep p (by simp only [List.flatten_cons, List.mem_append]; exact .inl hp)) (by simp [X.keys])
 change St w0 G [br] G w0 _ at HS
 refine sr fun K hK => ?_
 refine rn 1 HE HS ?_; clear HE HS; intro a w HE HS
 apply hK; clear hK K
 refine sr fun K hK => ?_
 refine rn 4 HE HS ?_; clear HE HS; intro a w HE HS
 have hcall3 := c_next br l _ _ e c2 c3 c4 c5 c6 c7 c8 c9 c10 c11 c12 c13 c14 c15 _ _ (HS.front (C := [(br, Cells 77 [(0, .slice A l.length c), (1, .int .i64 e), (2, c2), (3, c3), (4, c4), (5, c5), (6, c6), (7, c7), (8, c8), (9, c9), (10, c10), (11, c11), (12, c12), (13, c13), (14, c14), (15, c15)])]) .here) hR hc hls 
 replace HS : St w0 G [br] G _ ([] ++ [(br, Cells 77 [(0, .slice A l.length c), (1, .int .i64 e), (2, c2), (3, c3), (4, c4), (5, c5), (6, c6), (7, c7), (8, c8), (9, c9), (10, c10), (11, c11), (12, c12), (13, c13), (14, c14), (15, c15)])] :: []) := HS
 refine o_callM HE rfl HS rfl rfl T.g60 hcall3 ?_ (fun _ _ _ _ _ _ h => h.elim)
 clear HE HS; rintro _ G3 _ w a HS hle3 ⟨z2, hz2, rfl, vA3, vc3, hcp3, hR3, rfl⟩ HE; clear hcall3
 replace hR := hR.le hle3
 replace hgn := hgn.le hle3
 have hlsz2 : ∀ x ∈ z2.2.1, x.length ≤ 4294967280 := by rw [hz2]; exact (next_len hls).2.1
 have hlnz2 : z2.2.1.length ≤ (l).length := by rw [hz2]; exact (next_len hls).2.2
 have hlwz2 : z2.1.length ≤ 4294967280 := by rw [hz2]; exact (next_len hls).1
 refine o_callP HE rfl HS rfl rfl T.g64 (c_typed z2.1 _ _ HS.sub hgn) ?_
 clear HE HS; rintro _ w a HS rfl HE
 refine rn 5 HE HS ?_; clear HE HS; intro a w HE HS
 apply hK; clear hK K
 refine wp_seq_k (fun K6 hK5 => ?_)
 refine sr fun K hK => ?_
 refine rn 2 HE HS ?_; clear HE HS; intro a w HE HS
 apply hK; clear hK K
 refine cond HE rfl (fun h8r => ?_) (fun h8r => ?_)
 ·have h8 := nm h8r
  refine wp_region_lit ?_
  refine rn 3 HE HS ?_; clear HE HS; intro a w HE HS
  have hcall9 := c_fault br z2.2.2 2 (.slice vA3 z2.2.1.length vc3) c2 c3 c4 c5 c6 c7 c8 c9 c10 c11 c12 c13 c14 c15 _ _ (HS.front (C := [(br, Cells 77 [(0, .slice vA3 z2.2.1.length vc3), (1, .int .i64 z2.2.2), (2, c2), (3, c3), (4, c4), (5, c5), (6, c6), (7, c7), (8, c8), (9, c9), (10, c10), (11, c11), (12, c12), (13, c13), (14, c14), (15, c15)])]) .here)
  replace HS : St w0 G [br] G3 _ ([] ++ [(br, Cells 77 [(0, .slice vA3 z2.2.1.length vc3), (1, .int .i64 z2.2.2), (2, c2), (3, c3), (4, c4), (5, c5), (6, c6), (7, c7), (8, c8), (9, c9), (10, c10), (11, c11), (12, c12), (13, c13), (14, c14), (15, c15)])] :: []) := HS
  refine o_callM HE rfl HS rfl rfl T.g61 hcall9 ?_ (fun _ _ _ _ _ _ h => h.elim)
  clear HE HS; rintro _ G9 _ w a HS hle9 ⟨rfl, rfl⟩ HE; clear hcall9
  replace hR := hR.le hle9
  replace hgn := hgn.le hle9
  replace hR3 := hR3.le hle9
  refine hK5 _ _ ?_; clear hK5
  refine sr fun K hK => ?_
  refine rn 2 HE HS ?_; clear HE HS; intro a w HE HS
  apply hK; clear hK K
  refine rtE hQ HE HS ?_
  have he : numberS typedS l e = ((typedS z2.1).1, z2.2.1, faultS z2.2.2 2) := by
   unfold numberS
   rw [← hz2, if_pos h8r]
  exact ⟨_, [(br, Cells 77 [(0, .slice vA3 z2.2.1.length vc3), (1, .int .i64 (faultS z2.2.2 2)), (2, c2), (3, c3), (4, c4), (5, c5), (6, c6), (7, c7), (8, c8), (9, c9), (10, c10), (11, c11), (12, c12), (13, c13), (14, c14), (15, c15)])], HS.stop (by simp), _, rfl, by rw [he]; rfl, by rw [he]; exact ⟨_, _, hcp3, hR3, rfl⟩⟩
 ·have h8 := nm h8r
  refine wp_skip ?_
  refine hK5 _ _ ?_; clear hK5
  refine sr fun K hK => ?_
  refine rn 2 HE HS ?_; clear HE HS; intro a w HE HS
  apply hK; clear hK K
  refine rtE hQ HE HS ?_
  have he : numberS typedS l e = ((typedS z2.1).1, z2.2.1, z2.2.2) := by
   unfold numberS
   rw [← hz2, if_neg (by rw [h8r]; decide)]
  exact ⟨_, [(br, Cells 77 [(0, .slice vA3 z2.2.1.length vc3), (1, .int .i64 z2.2.2), (2, c2), (3, c3), (4, c4), (5, c5), (6, c6), (7, c7), (8, c8), (9, c9), (10, c10), (11, c11), (12, c12), (13, c13), (14, c14), (15, c15)])], HS.stop (by simp), _, rfl, by rw [he]; rfl, by rw [he]; exact ⟨_, _, hcp3, hR3, rfl⟩⟩

/-! `(*incognito/event.reader).number` -/
set_option maxRecDepth 100000 in
set_option maxHeartbeats 4000000 in
theorem c_number2 (br : Nat) (l : List Bs) (A : Option Addr) (c : Nat) (e : Int) (c2 c3 c4 c5 c6 c7 c8 c9 c10 c11 c12 c13 c14 c15 : Value) {W0 : World} {H0 : Heap} {L0 : List Nat} {M0 : List Chunk} (w0 : World) (G : Heap) (hS0 : St W0 H0 L0 G w0 ([(br, Cells 77 [(0, .slice A l.length c), (1, .int .i64 e), (2, c2), (3, c3), (4, c4), (5, c5), (6, c6), (7, c7), (8, c8), (9, c9), (10, c10), (11, c11), (12, c12), (13, c13), (14, c14), (15, c15)])] :: M0)) (hR : Rd Knd.s G A l) (hc : l.length ≤ c) (hls : ∀ x ∈ l, x.length ≤ 4294967280) (hgm : CellsAt G 3 0 [str [], str [114, 101, 103], str [99, 97, 115], str [115, 101, 116], str [109, 97, 112], str [102, 105, 102, 111], str [115, 116, 97, 99, 107], str [108, 111, 99, 107], str [99, 111, 117, 110, 116], str [109, 97, 120], str [111, 109, 97, 112]]):
  Calls Tryz.prog 63 #[.pointer (some ⟨br, 0, none⟩), .func (.func 82) #[] #[]] w0 (X.Ends w0 G [br] (fun v G' C' => ∃ z, z = numberS modelS l e ∧ v = .int .i64 z.1 ∧ ∃ A' c', z.2.1.length ≤ c' ∧ Rd Knd.s G' A' z.2.1 ∧ C' = [(br, Cells 77 [(0, .slice A' z.2.1.length c'), (1, .int .i64 z.2.2), (2, c2), (3, c3), (4, c4), (5, c5), (6, c6), (7, c7), (8, c8), (9, c9), (10, c10), (11, c11), (12, c12), (13, c13), (14, c14), (15, c15)])]) (fun _ _ _ => False)) := by
 refine enter Tryz.func63 rfl Tryz.ntmps63 rfl ?_
 intro Q hQ a HE
 have HS := St.start (C := [(br, Cells 77 [(0, .slice A l.length c), (1, .int .i64 e), (2, c2), (3, c3), (4, c4), (5, c5), (6, c6), (7, c7), (8, c8), (9, c9), (10, c10), (11, c11), (12, c12), (13, c13), (14, c14), (15, c15)])]) hS0.sub (fun p hp => hS0.mem p (by simp only [List.flatten_cons, List.mem_append]; exact .inl hp)) (fun p hp => hS0.sep p (by simp only [List.flatten_cons, List.mem_append]; exact .inl hp)) (by simp [X.keys])
 change St w0 G [br] G w0 _ at HS
 refine sr fun K hK => ?_
 refine rn 1 HE HS ?_; clear HE HS; intro a w HE HS
 apply hK; clear hK K
 refine sr fun K hK => ?_
 refine rn 4 HE HS ?_; clear HE HS; intro a w HE HS
 have hcall3 := c_next br l _ _ e c2 c3 c4 c5 c6 c7 c8 c9 c10 c11 c12 c13 c14 c15 _ _ (HS.front (C := [(br, Cells 77 [(0, .slice A l.length c), (1, .int .i64 e), (2, c2), (3, c3), (4, c4), (5, c5), (6, c6), (7, c7), (8, c8), (9, c9), (10, c10), (11, c11), (12, c12), (13, c13), (14, c14), (15, c15)])]) .here) hR hc hls 
 replace HS : St w0 G [br] G _ ([] ++ [(br, Cells 77 [(0, .slice A l.length c), (1, .int .i64 e), (2, c2), (3, c3), (4, c4), (5, c5), (6, c6), (7, c7), (8, c8), (9, c9), (10, c10), (11, c11), (12, c12), (13, c13), (14, c14), (15, c15)])] :: []) := HS
 refine o_callM HE rfl HS rfl rfl T.g60 hcall3 ?_ (fun _ _ _ _ _ _ h => h.elim)
 clear HE HS; rintro _ G3 _ w a HS hle3 ⟨z2, hz2, rfl, vA3, vc3, hcp3, hR3, rfl⟩ HE; clear hcall3
 replace hR := hR.le hle3
 replace hgm := hgm.le hle3
 have hlsz2 : ∀ x ∈ z2.2.1, x.length ≤ 4294967280 := by rw [hz2]; exact (next_len hls).2.1
 have hlnz2 : z2.2.1.length ≤ (l).length := by rw [hz2]; exact (next_len hls).2.2
 have hlwz2 : z2.1.length ≤ 4294967280 := by rw [hz2]; exact (next_len hls).1
 refine o_callP HE rfl HS rfl rfl T.g82 (c_model z2.1 _ _ HS.sub hgm) ?_
 clear HE HS; rintro _ w a HS rfl HE
 refine rn 5 HE HS ?_; clear HE HS; intro a w HE HS
 apply hK; clear hK K
 refine wp_seq_k (fun K6 hK5 => ?_)
 refine sr fun K hK => ?_
 refine rn 2 HE HS ?_; clear HE HS; intro a w HE HS
 apply hK; clear hK K
 refine cond HE rfl (fun h8r => ?_) (fun h8r => ?_)
 ·have h8 := nm h8r
  refine wp_region_lit ?_
  refine rn 3 HE HS ?_; clear HE HS; intro a w HE HS
  have hcall9 := c_fault br z2.2.2 2 (.slice vA3 z2.2.1.length vc3) c2 c3 c4 c5 c6 c7 c8 c9 c10 c11 c12 c13 c14 c15 _ _ (HS.front (C := [(br, Cells 77 [(0, .slice vA3 z2.2.1.length vc3), (1, .int .i64 z2.2.2), (2, c2), (3, c3), (4, c4), (5, c5), (6, c6), (7, c7), (8, c8), (9, c9), (10, c10), (11, c11), (12, c12), (13, c13), (14, c14), (15, c15)])]) .here)
  replace HS : St w0 G [br] G3 _ ([] ++ [(br, Cells 77 [(0, .slice vA3 z2.2.1.length vc3), (1, .int .i64 z2.2.2), (2, c2), (3, c3), (4, c4), (5, c5), (6, c6), (7, c7), (8, c8), (9, c9), (10, c10), (11, c11), (12, c12), (13, c13), (14, c14), (15, c15)])] :: []) := HS
  refine o_callM HE rfl HS rfl rfl T.g61 hcall9 ?_ (fun _ _ _ _ _ _ h => h.elim)
  clear HE HS; rintro _ G9 _ w a HS hle9 ⟨rfl, rfl⟩ HE; clear hcall9
  replace hR := hR.le hle9
  replace hgm := hgm.le hle9
  replace hR3 := hR3.le hle9
  refine hK5 _ _ ?_; clear hK5
  refine sr fun K hK => ?_
  refine rn 2 HE HS ?_; clear HE HS; intro a w HE HS
  apply hK; clear hK K
  refine rtE hQ HE HS ?_
  have he : numberS modelS l e = ((modelS z2.1).1, z2.2.1, faultS z2.2.2 2) := by
   unfold numberS
   rw [← hz2, if_pos h8r]
  exact ⟨_, [(br, Cells 77 [(0, .slice vA3 z2.2.1.length vc3), (1, .int .i64 (faultS z2.2.2 2)), (2, c2), (3, c3), (4, c4), (5, c5), (6, c6), (7, c7), (8, c8), (9, c9), (10, c10), (11, c11), (12, c12), (13, c13), (14, c14), (15, c15)])], HS.stop (by simp), _, rfl, by rw [he]; rfl, by rw [he]; exact ⟨_, _, hcp3, hR3, rfl⟩⟩
 ·have h8 := nm h8r
  refine wp_skip ?_
  refine hK5 _ _ ?_; clear hK5
  refine sr fun K hK => ?_
  refine rn 2 HE HS ?_; clear HE HS; intro a w HE HS
  apply hK; clear hK K
  refine rtE hQ HE HS ?_
  have he : numberS modelS l e = ((modelS z2.1).1, z2.2.1, z2.2.2) := by
   unfold numberS
   rw [← hz2, if_neg (by rw [h8r]; decide)]
  exact ⟨_, [(br, Cells 77 [(0, .slice vA3 z2.2.1.length vc3), (1, .int .i64 z2.2.2), (2, c2), (3, c3), (4, c4), (5, c5), (6, c6), (7, c7), (8, c8), (9, c9), (10, c10), (11, c11), (12, c12), (13, c13), (14, c14), (15, c15)])], HS.stop (by simp), _, rfl, by rw [he]; rfl, by rw [he]; exact ⟨_, _, hcp3, hR3, rfl⟩⟩

/-! `(*incognito/event.reader).number` -/
set_option maxRecDepth 100000 in
set_option maxHeartbeats 4000000 in
theorem c_number3 (br : Nat) (l : List Bs) (A : Option Addr) (c : Nat) (e : Int) (c2 c3 c4 c5 c6 c7 c8 c9 c10 c11 c12 c13 c14 c15 : Value) {W0 : World} {H0 : Heap} {L0 : List Nat} {M0 : List Chunk} (w0 : World) (G : Heap) (hS0 : St W0 H0 L0 G w0 ([(br, Cells 77 [(0, .slice A l.length c), (1, .int .i64 e), (2, c2), (3, c3), (4, c4), (5, c5), (6, c6), (7, c7), (8, c8), (9, c9), (10, c10), (11, c11), (12, c12), (13, c13), (14, c14), (15, c15)])] :: M0)) (hR : Rd Knd.s G A l) (hc : l.length ≤ c) (hls : ∀ x ∈ l, x.length ≤ 4294967280) (hgo : CellsAt G 4 0 [str [], str [119, 114, 105, 116, 101], str [114, 101, 97, 100], str [115, 119, 97, 112], str [97, 100, 100], str [100, 101, 108], str [104, 97, 115], str [112, 117, 116], str [103, 101, 116], str [112, 117, 115, 104], str [112, 111, 112], str [116, 97, 107, 101], str [102, 114, 101, 101], str [115, 99, 97, 110]]):
  Calls Tryz.prog 63 #[.pointer (some ⟨br, 0, none⟩), .func (.func 83) #[] #[]] w0 (X.Ends w0 G [br] (fun v G' C' => ∃ z, z = numberS opS l e ∧ v = .int .i64 z.1 ∧ ∃ A' c', z.2.1.length ≤ c' ∧ Rd Knd.s G' A' z.2.1 ∧ C' = [(br, Cells 77 [(0, .slice A' z.2.1.length c'), (1, .int .i64 z.2.2), (2, c2), (3, c3), (4, c4), (5, c5), (6, c6), (7, c7), (8, c8), (9, c9), (10, c10), (11, c11), (12, c12), (13, c13), (14, c14), (15, c15)])]) (fun _ _ _ => False)) := by
 refine enter Tryz.func63 rfl Tryz.ntmps63 rfl ?_
 intro Q hQ a HE
 have HS := St.start (C := [(br, Cells 77 [(0, .slice A l.length c), (1, .int .i64 e), (2, c2), (3, c3), (4, c4), (5, c5), (6, c6), (7, c7), (8, c8), (9, c9), (10, c10), (11, c11), (12, c12), (13, c13), (14, c14), (15, c15)])]) hS0.sub (fun p hp => hS0.mem p (by simp only [List.flatten_cons, List.mem_append]; exact .inl hp)) (fun p hp => hS0.sep p (by simp only [List.flatten_cons, List.mem_append]; exact .inl hp)) (by simp [X.keys])
 change St w0 G [br] G w0 _ at HS
 refine sr fun K hK => ?_
 refine rn 1 HE HS ?_; clear HE HS; intro a w HE HS
 apply hK; clear hK K
 refine sr fun K hK => ?_
 refine rn 4 HE HS ?_; clear HE HS; intro a w HE HS
 have hcall3 := c_next br l _ _ e c2 c3 c4 c5 c6 c7 c8 c9 c10 c11 c12 c13 c14 c15 _ _ (HS.front (C := [(br, Cells 77 [(0, .slice A l.length c), (1, .int .i64 e), (2, c2), (3, c3), (4, c4), (5, c5), (6, c6), (7, c7), (8, c8), (9, c9), (10, c10), (11, c11), (12, c12), (13, c13), (14, c14), (15, c15)])]) .here) hR hc hls 
 replace HS : St w0 G [br] G _ ([] ++ [(br, Cells 77 [(0, .slice A l.length c), (1, .int .i64 e), (2, c2), (3, c3), (4, c4), (5, c5), (6, c6), (7, c7), (8, c8), (9, c9), (10, c10), (11, c11), (12, c12), (13, c13), (14, c14), (15, c15)])] :: []) := HS
 refine o_callM HE rfl HS rfl rfl T.g60 hcall3 ?_ (fun _ _ _ _ _ _ h => h.elim)
 clear HE HS; rintro _ G3 _ w a HS hle3 ⟨z2, hz2, rfl, vA3, vc3, hcp3, hR3, rfl⟩ HE; clear hcall3
 replace hR := hR.le hle3
 replace hgo := hgo.le hle3
 have hlsz2 : ∀ x ∈ z2.2.1, x.length ≤ 4294967280 := by rw [hz2]; exact (next_len hls).2.1
 have hlnz2 : z2.2.1.length ≤ (l).length := by rw [hz2]; exact (next_len hls).2.2
 have hlwz2 : z2.1.length ≤ 4294967280 := by rw [hz2]; exact (next_len hls).1
 refine o_callP HE rfl HS rfl rfl T.g83 (c_op z2.1 _ _ HS.sub hgo) ?_
 clear HE HS; rintro _ w a HS rfl HE
 refine rn 5 HE HS ?_; clear HE HS; intro a w HE HS
 apply hK; clear hK K
 refine wp_seq_k (fun K6 hK5 => ?_)
 refine sr fun K hK => ?_
 refine rn 2 HE HS ?_; clear HE HS; intro a w HE HS
 apply hK; clear hK K
 refine cond HE rfl (fun h8r => ?_) (fun h8r => ?_)
 ·have h8 := nm h8r
  refine wp_region_lit ?_
  refine rn 3 HE HS ?_; clear HE HS; intro a w HE HS
  have hcall9 := c_fault br z2.2.2 2 (.slice vA3 z2.2.1.length vc3) c2 c3 c4 c5 c6 c7 c8 c9 c10 c11 c12 c13 c14 c15 _ _ (HS.front (C := [(br, Cells 77 [(0, .slice vA3 z2.2.1.length vc3), (1, .int .i64 z2.2.2), (2, c2), (3, c3), (4, c4), (5, c5), (6, c6), (7, c7), (8, c8), (9, c9), (10, c10), (11, c11), (12, c12), (13, c13), (14, c14), (15, c15)])]) .here)
  replace HS : St w0 G [br] G3 _ ([] ++ [(br, Cells 77 [(0, .slice vA3 z2.2.1.length vc3), (1, .int .i64 z2.2.2), (2, c2), (3, c3), (4, c4), (5, c5), (6, c6), (7, c7), (8, c8), (9, c9), (10, c10), (11, c11), (12, c12), (13, c13), (14, c14), (15, c15)])] :: []) := HS
  refine o_callM HE rfl HS rfl rfl T.g61 hcall9 ?_ (fun _ _ _ _ _ _ h => h.elim)
  clear HE HS; rintro _ G9 _ w a HS hle9 ⟨rfl, rfl⟩ HE; clear hcall9
  replace hR := hR.le hle9
  replace hgo := hgo.le hle9
  replace hR3 := hR3.le hle9
  refine hK5 _ _ ?_; clear hK5
  refine sr fun K hK => ?_
  refine rn 2 HE HS ?_; clear HE HS; intro a w HE HS
  apply hK; clear hK K
  refine rtE hQ HE HS ?_
  have he : numberS opS l e = ((opS z2.1).1, z2.2.1, faultS z2.2.2 2) := by
   unfold numberS
   rw [← hz2, if_pos h8r]
  exact ⟨_, [(br, Cells 77 [(0, .slice vA3 z2.2.1.length vc3), (1, .int .i64 (faultS z2.2.2 2)), (2, c2), (3, c3), (4, c4), (5, c5), (6, c6), (7, c7), (8, c8), (9, c9), (10, c10), (11, c11), (12, c12), (13, c13), (14, c14), (15, c15)])], HS.stop (by simp), _, rfl, by rw [he]; rfl, by rw [he]; exact ⟨_, _, hcp3, hR3, rfl⟩⟩
 ·have h8 := nm h8r
  refine wp_skip ?_
  refine hK5 _ _ ?_; clear hK5
  refine sr fun K hK => ?_
  refine rn 2 HE HS ?_; clear HE HS; intro a w HE HS
  apply hK; clear hK K
  refine rtE hQ HE HS ?_
  have he : numberS opS l e = ((opS z2.1).1, z2.2.1, z2.2.2) := by
   unfold numberS
   rw [← hz2, if_neg (by rw [h8r]; decide)]
  exact ⟨_, [(br, Cells 77 [(0, .slice vA3 z2.2.1.length vc3), (1, .int .i64 z2.2.2), (2, c2), (3, c3), (4, c4), (5, c5), (6, c6), (7, c7), (8, c8), (9, c9), (10, c10), (11, c11), (12, c12), (13, c13), (14, c14), (15, c15)])], HS.stop (by simp), _, rfl, by rw [he]; rfl, by rw [he]; exact ⟨_, _, hcp3, hR3, rfl⟩⟩

/-! `(*incognito/event.reader).invoked` -/
set_option maxRecDepth 100000 in
set_option maxHeartbeats 4000000 in
theorem c_invoked (br : Nat) (l : List Bs) (A : Option Addr) (c : Nat) (e : Int) (c2 c3 c4 c5 c6 c7 c8 c9 c10 c11 c13 c14 c15 : Value) {W0 : World} {H0 : Heap} {L0 : List Nat} {M0 : List Chunk} (w0 : World) (G : Heap) (hS0 : St W0 H0 L0 G w0 ([(br, Cells 77 [(0, .slice A l.length c), (1, .int .i64 e), (2, c2), (3, c3), (4, c4), (5, c5), (6, c6), (7, c7), (8, c8), (9, c9), (10, c10), (11, c11), (12, .slice none 0 0), (13, c13), (14, c14), (15, c15)])] :: M0)) (hR : Rd Knd.s G A l) (hc : l.length ≤ c) (hls : ∀ x ∈ l, x.length ≤ 4294967280) (hg0 : CellsAt G 1 0 [.int .i64 3, .int .i64 1, str []]) (hg1 : CellsAt G 2 0 [.int .i64 3, .int .i64 0, str []]) (hgm : CellsAt G 3 0 [str [], str [114, 101, 103], str [99, 97, 115], str [115, 101, 116], str [109, 97, 112], str [102, 105, 102, 111], str [115, 116, 97, 99, 107], str [108, 111, 99, 107], str [99, 111, 117, 110, 116], str [109, 97, 120], str [111, 109, 97, 112]]) (hgo : CellsAt G 4 0 [str [], str [119, 114, 105, 116, 101], str [114, 101, 97, 100], str [115, 119, 97, 112], str [97, 100, 100], str [100, 101, 108], str [104, 97, 115], str [112, 117, 116], str [103, 101, 116], str [112, 117, 115, 104], str [112, 111, 112], str [116, 97, 107, 101], str [102, 114, 101, 101], str [115, 99, 97, 110]]):
  Calls Tryz.prog 65 #[.pointer (some ⟨br, 0, none⟩)] w0 (X.Ends w0 G [br] (fun v G' C' => ∃ z, z = invS l e ∧ v = .tuple #[] ∧ ∃ A' c' A1 c1, z.2.2.2.2.1.length ≤ c' ∧ Rd Knd.s G' A' z.2.2.2.2.1 ∧ z.2.2.2.1.length ≤ c1 ∧ Rd kVal G' A1 z.2.2.2.1 ∧ C' = [(br, Cells 77 [(0, .slice A' z.2.2.2.2.1.length c'), (1, .int .i64 z.2.2.2.2.2), (2, c2), (3, c3), (4, c4), (5, c5), (6, c6), (7, .int .i64 z.1), (8, .int .i64 z.2.1.k), (9, .int .i64 z.2.1.n), (10, str z.2.1.s), (11, .int .i64 z.2.2.1), (12, .slice A1 z.2.2.2.1.length c1), (13, c13), (14, c14), (15, c15)])]) (fun _ _ _ => False)) := by
 refine enter Tryz.func65 rfl Tryz.ntmps65 rfl ?_
 intro Q hQ a HE
 have HS := St.start (C := [(br, Cells 77 [(0, .slice A l.length c), (1, .int .i64 e), (2, c2), (3, c3), (4, c4), (5, c5), (6, c6), (7, c7), (8, c8), (9, c9), (10, c10), (11, c11), (12, .slice none 0 0), (13, c13), (14, c14), (15, c15)])]) hS0.sub (fun p hp => hS0.mem p (by simp only [List.flatten_cons, List.mem_append]; exact .inl hp)) (fun p hp => hS0.sep p (by simp only [List.flatten_cons, List.mem_append]; exact .inl hp)) (by simp [X.keys])
 change St w0 G [br] G w0 _ at HS
 refine sr fun K hK => ?_
 refine rn 2 HE HS ?_; clear HE HS; intro a w HE HS
 have hcall2 := c_number2 br l _ _ e c2 c3 c4 c5 c6 c7 c8 c9 c10 c11 (.slice none 0 0) c13 c14 c15 _ _ (HS.front (C := [(br, Cells 77 [(0, .slice A l.length c), (1, .int .i64 e), (2, c2), (3, c3), (4, c4), (5, c5), (6, c6), (7, c7), (8, c8), (9, c9), (10, c10), (11, c11), (12, .slice none 0 0), (13, c13), (14, c14), (15, c15)])]) .here) hR hc hls hgm
 replace HS : St w0 G [br] G _ ([] ++ [(br, Cells 77 [(0, .slice A l.length c), (1, .int .i64 e), (2, c2), (3, c3), (4, c4), (5, c5), (6, c6), (7, c7), (8, c8), (9, c9), (10, c10), (11, c11), (12, .slice none 0 0), (13, c13), (14, c14), (15, c15)])] :: []) := HS
 refine o_callM HE rfl HS rfl rfl T.g63 hcall2 ?_ (fun _ _ _ _ _ _ h => h.elim)
 clear HE HS; rintro _ G2 _ w a HS hle2 ⟨z1, hz1, rfl, vA2, vc2, hcp2, hR2, rfl⟩ HE; clear hcall2
 replace hR := hR.le hle2
 replace hg0 := hg0.le hle2
 replace hg1 := hg1.le hle2
 replace hgm := hgm.le hle2
 replace hgo := hgo.le hle2
 have hlsz1 : ∀ x ∈ z1.2.1, x.length ≤ 4294967280 := by rw [hz1]; unfold numberS; exact (next_len hls).2.1
 have hlnz1 : z1.2.1.length ≤ (l).length := by rw [hz1]; unfold numberS; exact (next_len hls).2.2
 refine rn 4 HE HS ?_; clear HE HS; intro a w HE HS
 apply hK; clear hK K
 refine sr fun K hK => ?_
 refine rn 2 HE HS ?_; clear HE HS; intro a w HE HS
 have hcall5 := c_value br z1.2.1 _ _ z1.2.2 c2 c3 c4 c5 c6 (.int .i64 z1.1) c8 c9 c10 c11 (.slice none 0 0) c13 c14 c15 1 _ _ (HS.front (C := [(br, Cells 77 [(0, .slice vA2 z1.2.1.length vc2), (1, .int .i64 z1.2.2), (2, c2), (3, c3), (4, c4), (5, c5), (6, c6), (7, .int .i64 z1.1), (8, c8), (9, c9), (10, c10), (11, c11), (12, .slice none 0 0), (13, c13), (14, c14), (15, c15)])]) .here) hR2 hcp2 hlsz1 hg0 hg1
 replace HS : St w0 G [br] G2 _ ([] ++ [(br, Cells 77 [(0, .slice vA2 z1.2.1.length vc2), (1, .int .i64 z1.2.2), (2, c2), (3, c3), (4, c4), (5, c5), (6, c6), (7, .int .i64 z1.1), (8, c8), (9, c9), (10, c10), (11, c11), (12, .slice none 0 0), (13, c13), (14, c14), (15, c15)])] :: []) := HS
 refine o_callM HE rfl HS rfl rfl T.g62 hcall5 ?_ (fun _ _ _ _ _ _ h => h.elim)
 clear HE HS; rintro _ G5 _ w a HS hle5 ⟨z4, hz4, rfl, vA5, vc5, hcp5, hR5, rfl⟩ HE; clear hcall5
 replace hR := hR.le hle5
 replace hg0 := hg0.le hle5
 replace hg1 := hg1.le hle5
 replace hgm := hgm.le hle5
 replace hgo := hgo.le hle5
 replace hR2 := hR2.le hle5
 have hlsz4 : ∀ x ∈ z4.2.1, x.length ≤ 4294967280 := by rw [hz4, value_left]; exact (next_len hlsz1).2.1
 have hlnz4 : z4.2.1.length ≤ (z1.2.1).length := by rw [hz4, value_left]; exact (next_len hlsz1).2.2
 have hvwz4 : z4.1.Wf := by rw [hz4]; exact value_wf hlsz1
 refine rn 4 HE HS ?_; clear HE HS; intro a w HE HS
 apply hK; clear hK K
 refine sr fun K hK => ?_
 refine rn 2 HE HS ?_; clear HE HS; intro a w HE HS
 have hcall8 := c_number3 br z4.2.1 _ _ z4.2.2 c2 c3 c4 c5 c6 (.int .i64 z1.1) (.int .i64 z4.1.k) (.int .i64 z4.1.n) (str z4.1.s) c11 (.slice none 0 0) c13 c14 c15 _ _ (HS.front (C := [(br, Cells 77 [(0, .slice vA5 z4.2.1.length vc5), (1, .int .i64 z4.2.2), (2, c2), (3, c3), (4, c4), (5, c5), (6, c6), (7, .int .i64 z1.1), (8, .int .i64 z4.1.k), (9, .int .i64 z4.1.n), (10, str z4.1.s), (11, c11), (12, .slice none 0 0), (13, c13), (14, c14), (15, c15)])]) .here) hR5 hcp5 hlsz4 hgo
 replace HS : St w0 G [br] G5 _ ([] ++ [(br, Cells 77 [(0, .slice vA5 z4.2.1.length vc5), (1, .int .i64 z4.2.2), (2, c2), (3, c3), (4, c4), (5, c5), (6, c6), (7, .int .i64 z1.1), (8, .int .i64 z4.1.k), (9, .int .i64 z4.1.n), (10, str z4.1.s), (11, c11), (12, .slice none 0 0), (13, c13), (14, c14), (15, c15)])] :: []) := HS
 refine o_callM HE rfl HS rfl rfl T.g63 hcall8 ?_ (fun _ _ _ _ _ _ h => h.elim)
 clear HE HS; rintro _ G8 _ w a HS hle8 ⟨z7, hz7, rfl, vA8, vc8, hcp8, hR8, rfl⟩ HE; clear hcall8
 replace hR := hR.le hle8
 replace hg0 := hg0.le hle8
 replace hg1 := hg1.le hle8
 replace hgm := hgm.le hle8
 replace hgo := hgo.le hle8
 replace hR2 := hR2.le hle8
 replace hR5 := hR5.le hle8
 have hlsz7 : ∀ x ∈ z7.2.1, x.length ≤ 4294967280 := by rw [hz7]; unfold numberS; exact (next_len hlsz4).2.1
 have hlnz7 : z7.2.1.length ≤ (z4.2.1).length := by rw [hz7]; unfold numberS; exact (next_len hlsz4).2.2
 refine rn 4 HE HS ?_; clear HE HS; intro a w HE HS
 apply hK; clear hK K
 refine wp_seq_k (fun K11 hK10 => ?_)
 replace HE := HE.cut (L' := [(0, .pointer (some ⟨br, 0, none⟩)), (6, .pointer (some ⟨br, 0, none⟩)), (7, .pointer (some ⟨br, 0, none⟩)), (8, .int .i64 z1.1), (9, .pointer (some ⟨br, 0, none⟩)), (10, .pointer (some ⟨br, 2, none⟩)), (11, .pointer (some ⟨br, 7, none⟩)), (12, .pointer (some ⟨br, 0, none⟩)), (13, .pointer (some ⟨br, 0, none⟩)), (14, .agg #[.int .i64 z4.1.k, .int .i64 z4.1.n, str z4.1.s]), (15, .pointer (some ⟨br, 0, none⟩)), (16, .pointer (some ⟨br, 2, none⟩)), (17, .pointer (some ⟨br, 8, none⟩)), (18, .pointer (some ⟨br, 0, none⟩)), (19, .pointer (some ⟨br, 0, none⟩)), (20, .int .i64 z7.1), (21, .pointer (some ⟨br, 0, none⟩)), (22, .pointer (some ⟨br, 2, none⟩)), (23, .pointer (some ⟨br, 11, none⟩))]) ⟨rfl, rfl, rfl, rfl, rfl, rfl, rfl, rfl, rfl, rfl, rfl, rfl, rfl, rfl, rfl, rfl, rfl, rfl, rfl, trivial⟩
 refine drawnW [fun v _ => v = .pointer (some ⟨br, 0, none⟩), fun v _ => v = .pointer (some ⟨br, 0, none⟩), fun v _ => v = .pointer (some ⟨br, 2, none⟩), fun v _ => v = .pointer (some ⟨br, 7, none⟩), fun v _ => v = .int .i64 z1.1, fun v _ => v = .pointer (some ⟨br, 0, none⟩), fun v _ => v = .pointer (some ⟨br, 0, none⟩), fun v _ => v = .pointer (some ⟨br, 2, none⟩), fun v _ => v = .pointer (some ⟨br, 11, none⟩), fun v _ => v = .int .i64 z7.1, fun v G' => ∃ A2 c2, v = .tuple #[.slice A2 (argsD z1.1 z7.1).1.length c2, .bool (argsD z1.1 z7.1).2] ∧ (argsD z1.1 z7.1).1.length ≤ c2 ∧ Rd (Knd.int .i64) G' A2 (argsD z1.1 z7.1).1, fun v G' => ∃ A2 c2, v = .tuple #[.slice A2 (argsD z1.1 z7.1).1.length c2, .bool (argsD z1.1 z7.1).2] ∧ (argsD z1.1 z7.1).1.length ≤ c2 ∧ Rd (Knd.int .i64) G' A2 (argsD z1.1 z7.1).1, fun v G' => ∃ A2 c2, v = .slice A2 (argsD z1.1 z7.1).1.length c2 ∧ (argsD z1.1 z7.1).1.length ≤ c2 ∧ Rd (Knd.int .i64) G' A2 (argsD z1.1 z7.1).1, fun v _ => v = .bool (argsD z1.1 z7.1).2, fun v G' => ∃ A2 c2, v = .slice A2 (argsD z1.1 z7.1).1.length c2 ∧ (argsD z1.1 z7.1).1.length ≤ c2 ∧ Rd (Knd.int .i64) G' A2 (argsD z1.1 z7.1).1, fun v _ => v = .bool (argsD z1.1 z7.1).2] T.mix rfl HE HS rfl ⟨fun _ _ _ _ h => h, fun _ _ _ _ h => h, fun _ _ _ _ h => h, fun _ _ _ _ h => h, fun _ _ _ _ h => h, fun _ _ _ _ h => h, fun _ _ _ _ h => h, fun _ _ _ _ h => h, fun _ _ _ _ h => h, fun _ _ _ _ h => h, fun _ _ _ h hx => (let ⟨A2, c2, h1, h2, h3⟩ := hx; ⟨A2, c2, h1, h2, h3.le h⟩), fun _ _ _ h hx => (let ⟨A2, c2, h1, h2, h3⟩ := hx; ⟨A2, c2, h1, h2, h3.le h⟩), fun _ _ _ h hx => (let ⟨A2, c2, h1, h2, h3⟩ := hx; ⟨A2, c2, h1, h2, h3.le h⟩), fun _ _ _ _ h => h, fun _ _ _ h hx => (let ⟨A2, c2, h1, h2, h3⟩ := hx; ⟨A2, c2, h1, h2, h3.le h⟩), fun _ _ _ _ h => h, trivial⟩ ⟨?_, ?_, ?_, ?_, ?_, ?_, ?_, ?_, ?_, ?_, ?_, ?_, ?_, ?_, ?_, ?_, trivial⟩ ?_
 ·intro a w G1 hl HS HE hp
  refine o_move HE rfl rfl ?_; clear HE; intro a HE
  exact ⟨_, _, _, Heap.le.refl _, HS, rfl, HE.get _ _ rfl, HE.defers, rfl⟩
 ·intro a w G1 hl HS HE hp
  obtain ⟨_, e0, rfl⟩ := hp 0 25 _ rfl rfl rfl; replace HE := HE.add e0
  refine o_nil HE rfl rfl ?_; clear HE; intro a HE
  exact ⟨_, _, _, Heap.le.refl _, HS, rfl, HE.get _ _ rfl, HE.defers, rfl⟩
 ·intro a w G1 hl HS HE hp
  obtain ⟨_, e1, rfl⟩ := hp 1 26 _ rfl rfl rfl; replace HE := HE.add e1
  refine o_fld HE rfl rfl T.f77_1 ?_; clear HE; intro a HE
  exact ⟨_, _, _, Heap.le.refl _, HS, rfl, HE.get _ _ rfl, HE.defers, rfl⟩
 ·intro a w G1 hl HS HE hp
  obtain ⟨_, e2, rfl⟩ := hp 2 27 _ rfl rfl rfl; replace HE := HE.add e2
  refine o_fld HE rfl rfl T.f26_3 ?_; clear HE; intro a HE
  exact ⟨_, _, _, Heap.le.refl _, HS, rfl, HE.get _ _ rfl, HE.defers, rfl⟩
 ·intro a w G1 hl HS HE hp
  obtain ⟨_, e3, rfl⟩ := hp 3 28 _ rfl rfl rfl; replace HE := HE.add e3
  refine o_ld HE rfl HS rfl T.s3 (.here .here) rfl ?_; clear HE; intro a HE
  exact ⟨_, _, _, Heap.le.refl _, HS, rfl, HE.get _ _ rfl, HE.defers, rfl⟩
 ·intro a w G1 hl HS HE hp
  refine o_move HE rfl rfl ?_; clear HE; intro a HE
  exact ⟨_, _, _, Heap.le.refl _, HS, rfl, HE.get _ _ rfl, HE.defers, rfl⟩
 ·intro a w G1 hl HS HE hp
  obtain ⟨_, e5, rfl⟩ := hp 5 30 _ rfl rfl rfl; replace HE := HE.add e5
  refine o_nil HE rfl rfl ?_; clear HE; intro a HE
  exact ⟨_, _, _, Heap.le.refl _, HS, rfl, HE.get _ _ rfl, HE.defers, rfl⟩
 ·intro a w G1 hl HS HE hp
  obtain ⟨_, e6, rfl⟩ := hp 6 31 _ rfl rfl rfl; replace HE := HE.add e6
  refine o_fld HE rfl rfl T.f77_1 ?_; clear HE; intro a HE
  exact ⟨_, _, _, Heap.le.refl _, HS, rfl, HE.get _ _ rfl, HE.defers, rfl⟩
 ·intro a w G1 hl HS HE hp
  obtain ⟨_, e7, rfl⟩ := hp 7 32 _ rfl rfl rfl; replace HE := HE.add e7
  refine o_fld HE rfl rfl T.f26_5 ?_; clear HE; intro a HE
  exact ⟨_, _, _, Heap.le.refl _, HS, rfl, HE.get _ _ rfl, HE.defers, rfl⟩
 ·intro a w G1 hl HS HE hp
  obtain ⟨_, e8, rfl⟩ := hp 8 33 _ rfl rfl rfl; replace HE := HE.add e8
  refine o_ld HE rfl HS rfl T.s3 (.here .here) rfl ?_; clear HE; intro a HE
  exact ⟨_, _, _, Heap.le.refl _, HS, rfl, HE.get _ _ rfl, HE.defers, rfl⟩
 ·intro a w G1 hl HS HE hp
  obtain ⟨_, e4, rfl⟩ := hp 4 29 _ rfl rfl rfl; replace HE := HE.add e4
  obtain ⟨_, e9, rfl⟩ := hp 9 34 _ rfl rfl rfl; replace HE := HE.add e9
  refine o_call HE rfl HS rfl rfl T.g20 (c_args z1.1 z7.1 _ _ HS.sub) ?_; clear HE HS; rintro _ G2 w a HS hle2 ⟨A2, c2, rfl, hc2, hR2⟩ HE
  exact ⟨_, G2, _, hle2, HS, rfl, HE.get _ _ rfl, HE.defers, ⟨_, _, rfl, hc2, hR2⟩⟩
 ·intro a w G1 hl HS HE hp
  obtain ⟨_, e10, A2, c2, rfl, hc2, hR2⟩ := hp 10 35 _ rfl rfl rfl; replace HE := HE.add e10
  refine o_move HE rfl rfl ?_; clear HE; intro a HE
  exact ⟨_, _, _, Heap.le.refl _, HS, rfl, HE.get _ _ rfl, HE.defers, ⟨_, _, rfl, hc2, hR2⟩⟩
 ·intro a w G1 hl HS HE hp
  obtain ⟨_, e11, A2, c2, rfl, hc2, hR2⟩ := hp 11 24 _ rfl rfl rfl; replace HE := HE.add e11
  refine o_extract HE rfl rfl rfl ?_; clear HE; intro a HE
  exact ⟨_, _, _, Heap.le.refl _, HS, rfl, HE.get _ _ rfl, HE.defers, ⟨_, _, rfl, hc2, hR2⟩⟩
 ·intro a w G1 hl HS HE hp
  obtain ⟨_, e11, A2, c2, rfl, hc2, hR2⟩ := hp 11 24 _ rfl rfl rfl; replace HE := HE.add e11
  refine o_extract HE rfl rfl rfl ?_; clear HE; intro a HE
  exact ⟨_, _, _, Heap.le.refl _, HS, rfl, HE.get _ _ rfl, HE.defers, rfl⟩
 ·intro a w G1 hl HS HE hp
  obtain ⟨_, e12, A2, c2, rfl, hc2, hR2⟩ := hp 12 36 _ rfl rfl rfl; replace HE := HE.add e12
  refine o_assign HE rfl rfl ?_; clear HE; intro a HE
  exact ⟨_, _, _, Heap.le.refl _, HS, rfl, HE.get _ _ rfl, HE.defers, ⟨_, _, rfl, hc2, hR2⟩⟩
 ·intro a w G1 hl HS HE hp
  obtain ⟨_, e13, rfl⟩ := hp 13 37 _ rfl rfl rfl; replace HE := HE.add e13
  refine o_assign HE rfl rfl ?_; clear HE; intro a HE
  exact ⟨_, _, _, Heap.le.refl _, HS, rfl, HE.get _ _ rfl, HE.defers, rfl⟩
 clear HE HS; intro a w G12 hle13 HS HE hp
 replace hR := hR.le hle13
 replace hg0 := hg0.le hle13
 replace hg1 := hg1.le hle13
 replace hgm := hgm.le hle13
 replace hgo := hgo.le hle13
 replace hR2 := hR2.le hle13
 replace hR5 := hR5.le hle13
 replace hR8 := hR8.le hle13
 obtain ⟨_, e14, vA14, vc14, rfl, hcp14, hR14⟩ := hp 14 2 _ rfl rfl; replace HE := HE.add e14
 obtain ⟨_, e15, rfl⟩ := hp 15 3 _ rfl rfl; replace HE := HE.add e15; clear hp
 refine hK10 _ _ ?_; clear hK10
 refine wp_seq_k (fun K16 hK15 => ?_)
 refine sr fun K hK => ?_
 refine rn 2 HE HS ?_; clear HE HS; intro a w HE HS
 apply hK; clear hK K
 refine cond HE rfl (fun h18r => ?_) (fun h18r => ?_)
 ·have h18 := nm h18r
  refine wp_region_lit ?_
  refine rn 3 HE HS ?_; clear HE HS; intro a w HE HS
  have hcall19 := c_fault br z7.2.2 2 (.slice vA8 z7.2.1.length vc8) c2 c3 c4 c5 c6 (.int .i64 z1.1) (.int .i64 z4.1.k) (.int .i64 z4.1.n) (str z4.1.s) (.int .i64 z7.1) (.slice none 0 0) c13 c14 c15 _ _ (HS.front (C := [(br, Cells 77 [(0, .slice vA8 z7.2.1.length vc8), (1, .int .i64 z7.2.2), (2, c2), (3, c3), (4, c4), (5, c5), (6, c6), (7, .int .i64 z1.1), (8, .int .i64 z4.1.k), (9, .int .i64 z4.1.n), (10, str z4.1.s), (11, .int .i64 z7.1), (12, .slice none 0 0), (13, c13), (14, c14), (15, c15)])]) .here)
  replace HS : St w0 G [br] G12 _ ([] ++ [(br, Cells 77 [(0, .slice vA8 z7.2.1.length vc8), (1, .int .i64 z7.2.2), (2, c2), (3, c3), (4, c4), (5, c5), (6, c6), (7, .int .i64 z1.1), (8, .int .i64 z4.1.k), (9, .int .i64 z4.1.n), (10, str z4.1.s), (11, .int .i64 z7.1), (12, .slice none 0 0), (13, c13), (14, c14), (15, c15)])] :: []) := HS
  refine o_callM HE rfl HS rfl rfl T.g61 hcall19 ?_ (fun _ _ _ _ _ _ h => h.elim)
  clear HE HS; rintro _ G19 _ w a HS hle19 ⟨rfl, rfl⟩ HE; clear hcall19
  replace hR := hR.le hle19
  replace hg0 := hg0.le hle19
  replace hg1 := hg1.le hle19
  replace hgm := hgm.le hle19
  replace hgo := hgo.le hle19
  replace hR2 := hR2.le hle19
  replace hR5 := hR5.le hle19
  replace hR8 := hR8.le hle19
  replace hR14 := hR14.le hle19
  refine hK15 _ _ ?_; clear hK15
  refine sr fun K hK => ?_
  skip
  refine rn 3 HE HS ?_; clear HE HS; intro a w HE HS
  apply hK; clear hK K
  refine wp_block ?_
  replace HS := HS.nilChunk
  have oH22 : X.Own kVal 23 G19 none 0 ([] : List Val) [] := X.Own.nil
  have hdl := args_len z1.1 z7.1
  refine loop (fun (y : Nat × List Bs × Option Addr × Nat × Int × List Val) a' w' => ∃ (oAbr12_1 : Option Addr) (ocbr12_1 : Nat) (oCbr12_1 : Chunk), ∃ GL23, Heap.le G19 GL23 ∧ St w0 G [br] GL23 w' [oCbr12_1, [(br, Cells 77 [(0, .slice y.2.2.1 y.2.1.length y.2.2.2.1), (1, .int .i64 y.2.2.2.2.1), (2, c2), (3, c3), (4, c4), (5, c5), (6, c6), (7, .int .i64 z1.1), (8, .int .i64 z4.1.k), (9, .int .i64 z4.1.n), (10, str z4.1.s), (11, .int .i64 z7.1), (12, .slice oAbr12_1 ((y.2.2.2.2.2).length) ocbr12_1), (13, c13), (14, c14), (15, c15)])]] ∧ Env a' 65 [] [(0, .pointer (some ⟨br, 0, none⟩)), (44, .slice vA14 ((argsD z1.1 z7.1).1.length) vc14), (45, .int .i64 ((argsD z1.1 z7.1).1.length : Int)), (46, .int .i64 ((y.1 : Nat) : Int))] ∧ X.Own kVal 23 GL23 oAbr12_1 ocbr12_1 (y.2.2.2.2.2) oCbr12_1 ∧ (y.1 ≤ (argsD z1.1 z7.1).1.length ∧ argsL (argsD z1.1 z7.1).1 z7.2.1 (faultS z7.2.2 2) = (y.2.2.2.2.2 ++ (argsL ((argsD z1.1 z7.1).1.drop y.1) y.2.1 y.2.2.2.2.1).1, (argsL ((argsD z1.1 z7.1).1.drop y.1) y.2.1 y.2.2.2.2.1).2) ∧ y.2.1.length ≤ y.2.2.2.1 ∧ Rd Knd.s GL23 y.2.2.1 y.2.1 ∧ (∀ x ∈ y.2.1, x.length ≤ 4294967280) ∧ y.2.2.2.2.2.length ≤ y.1)) (fun (y : Nat × List Bs × Option Addr × Nat × Int × List Val) => (argsD z1.1 z7.1).1.length - y.1) (0, z7.2.1, vA8, vc8, faultS z7.2.2 2, []) ⟨_, _, _, _, Heap.le.refl _, HS, HE.cut ⟨rfl, rfl, rfl, rfl, trivial⟩, oH22, ⟨Nat.zero_le _, rfl, hcp8, hR8, hlsz7, Nat.zero_le _⟩⟩ ?_
  clear HE HS; intro y a w ⟨oAbr12_1, ocbr12_1, oCbr12_1, GL23, hle24, HS, HE, oHbr12_1, ⟨hy1, hy2, hcy, hRy, hlsy, hy6⟩⟩
  replace hR := hR.le hle24
  replace hg0 := hg0.le hle24
  replace hg1 := hg1.le hle24
  replace hgm := hgm.le hle24
  replace hgo := hgo.le hle24
  replace hR2 := hR2.le hle24
  replace hR5 := hR5.le hle24
  replace hR8 := hR8.le hle24
  replace hR14 := hR14.le hle24
  refine sr fun K hK => ?_
  skip
  refine rn 1 HE HS ?_; clear HE HS; intro a w HE HS
  apply hK; clear hK K
  refine wp_seq_k (fun K27 hK26 => ?_)
  refine cond HE rfl (fun h28r => ?_) (fun h28r => ?_)
  ·have h28 := nm h28r
   refine wp_skip ?_
   refine hK26 _ _ ?_; clear hK26
   refine wp_seq_k (fun K30 hK29 => ?_)
   refine wp_block ?_
   refine sr fun K hK => ?_
   have hi31 : ((y.1 : Nat) : Int).toNat < ((argsD z1.1 z7.1).1).length := by omega
   obtain ⟨eb31, eo31, hA31, el31⟩ := Rd.at hR14 (List.getElem?_eq_getElem hi31); cases hA31
   obtain ⟨x31, ex31⟩ : ∃ x, ((argsD z1.1 z7.1).1)[((y.1 : Nat) : Int).toNat] = x := ⟨_, rfl⟩; rw [ex31] at el31
   have el31 := kof_open el31
   refine o_ixL HE rfl rfl rfl T.l44 ⟨by omega, by omega⟩ ?_; clear HE; intro a HE
   refine o_ldI HE rfl HS rfl T.s3 el31 (j := 0) rfl rfl ?_; clear HE; intro a HE
   refine rn 1 HE HS ?_; clear HE HS; intro a w HE HS
   apply hK; clear hK K
   obtain ⟨z33, hz33⟩ : ∃ z, z = valueS x31 y.2.1 y.2.2.2.2.1 := ⟨_, rfl⟩
   replace HE := HE.cut (L' := [(0, .pointer (some ⟨br, 0, none⟩)), (5, .int .i64 x31), (44, .slice (some ⟨eb31, eo31, none⟩) ((argsD z1.1 z7.1).1.length) vc14), (45, .int .i64 ((argsD z1.1 z7.1).1.length : Int)), (46, .int .i64 ((y.1 : Nat) : Int)), (47, .bool (decide (((y.1 : Nat) : Int) < ((argsD z1.1 z7.1).1.length : Int)))), (48, .pointer (some ⟨eb31, eo31 + ((y.1 : Nat) : Int).toNat * 1, none⟩)), (49, .int .i64 x31)]) ⟨rfl, rfl, rfl, rfl, rfl, rfl, rfl, rfl, trivial⟩
   refine drawnH ((0, none, 0, []) : Nat × Option Addr × Nat × Chunk) (fun g f G' w => Heap.le GL23 G' ∧ (f 8 = true → z33.2.1.length ≤ (g 8).2.2.1 ∧ Rd Knd.s G' (g 8).2.1 z33.2.1) ∧ (f 10 = false → X.Own kVal 23 G' oAbr12_1 ocbr12_1 y.2.2.2.2.2 oCbr12_1) ∧ (f 10 = true → X.Own kVal 23 G' (g 10).2.1 (g 10).2.2.1 (y.2.2.2.2.2 ++ [z33.1]) (g 10).2.2.2) ∧ St w0 G [br] G' w (bif (f 14) then ((g 10).2.2.2 :: [(br, Cells 77 [(0, .slice (g 8).2.1 z33.2.1.length (g 8).2.2.1), (1, .int .i64 z33.2.2), (2, c2), (3, c3), (4, c4), (5, c5), (6, c6), (7, .int .i64 z1.1), (8, .int .i64 z4.1.k), (9, .int .i64 z4.1.n), (10, str z4.1.s), (11, .int .i64 z7.1), (12, .slice (g 10).2.1 (y.2.2.2.2.2 ++ [z33.1]).length (g 10).2.2.1), (13, c13), (14, c14), (15, c15)])] :: []) else (bif (f 10) then ((g 10).2.2.2 :: [((g 9).1, Cells 23 [(0, .int .i64 z33.1.k), (1, .int .i64 z33.1.n), (2, str z33.1.s)])] :: [(br, Cells 77 [(0, .slice (g 8).2.1 z33.2.1.length (g 8).2.2.1), (1, .int .i64 z33.2.2), (2, c2), (3, c3), (4, c4), (5, c5), (6, c6), (7, .int .i64 z1.1), (8, .int .i64 z4.1.k), (9, .int .i64 z4.1.n), (10, str z4.1.s), (11, .int .i64 z7.1), (12, .slice oAbr12_1 ((y.2.2.2.2.2).length) ocbr12_1), (13, c13), (14, c14), (15, c15)])] :: []) else (bif (f 9) then ([((g 9).1, Cells 23 [(0, .int .i64 z33.1.k), (1, .int .i64 z33.1.n), (2, str z33.1.s)])] :: oCbr12_1 :: [(br, Cells 77 [(0, .slice (g 8).2.1 z33.2.1.length (g 8).2.2.1), (1, .int .i64 z33.2.2), (2, c2), (3, c3), (4, c4), (5, c5), (6, c6), (7, .int .i64 z1.1), (8, .int .i64 z4.1.k), (9, .int .i64 z4.1.n), (10, str z4.1.s), (11, .int .i64 z7.1), (12, .slice oAbr12_1 ((y.2.2.2.2.2).length) ocbr12_1), (13, c13), (14, c14), (15, c15)])] :: []) else (bif (f 8) then (oCbr12_1 :: [(br, Cells 77 [(0, .slice (g 8).2.1 z33.2.1.length (g 8).2.2.1), (1, .int .i64 z33.2.2), (2, c2), (3, c3), (4, c4), (5, c5), (6, c6), (7, .int .i64 z1.1), (8, .int .i64 z4.1.k), (9, .int .i64 z4.1.n), (10, str z4.1.s), (11, .int .i64 z7.1), (12, .slice oAbr12_1 ((y.2.2.2.2.2).length) ocbr12_1), (13, c13), (14, c14), (15, c15)])] :: []) else (oCbr12_1 :: [(br, Cells 77 [(0, .slice y.2.2.1 y.2.1.length y.2.2.2.1), (1, .int .i64 y.2.2.2.2.1), (2, c2), (3, c3), (4, c4), (5, c5), (6, c6), (7, .int .i64 z1.1), (8, .int .i64 z4.1.k), (9, .int .i64 z4.1.n), (10, str z4.1.s), (11, .int .i64 z7.1), (12, .slice oAbr12_1 ((y.2.2.2.2.2).length) ocbr12_1), (13, c13), (14, c14), (15, c15)])] :: [])))))) (fun g => [fun v _ => v = .pointer (some ⟨br, 0, none⟩), fun v _ => v = .pointer (some ⟨br, 0, none⟩), fun v _ => v = .pointer (some ⟨br, 0, none⟩), fun v _ => v = .pointer (some ⟨br, 2, none⟩), fun v _ => v = .pointer (some ⟨br, 12, none⟩), fun v _ => v = .slice oAbr12_1 ((y.2.2.2.2.2).length) ocbr12_1, fun v _ => v = .pointer (some ⟨br, 0, none⟩), fun v _ => v = .int .i64 x31, fun v _ => v = .agg #[.int .i64 z33.1.k, .int .i64 z33.1.n, str z33.1.s], fun v _ => v = .slice (some ⟨(g 9).1, 0, none⟩) 1 1, fun v _ => v = .slice (g 10).2.1 (y.2.2.2.2.2 ++ [z33.1]).length (g 10).2.2.1, fun v _ => v = .pointer (some ⟨br, 0, none⟩), fun v _ => v = .pointer (some ⟨br, 2, none⟩), fun v _ => v = .pointer (some ⟨br, 12, none⟩), fun _ _ => True]) [] T.mix rfl HE ⟨Heap.le.refl _, fun h => (by cases h), fun _ => oHbr12_1, fun h => (by cases h), HS.drew⟩ rfl (by simp) (fun g g' j h => match j, h with | 0, _ => rfl | 1, _ => rfl | 2, _ => rfl | 3, _ => rfl | 4, _ => rfl | 5, _ => rfl | 6, _ => rfl | 7, _ => rfl | 8, _ => rfl | 11, _ => rfl | 12, _ => rfl | 13, _ => rfl | 14, _ => rfl | 9, h => by show some (fun v _ => v = Value.slice (some ⟨(g 9).1, 0, none⟩) 1 1) = some (fun v _ => v = Value.slice (some ⟨(g' 9).1, 0, none⟩) 1 1); rw [h] | 10, h => by show some (fun v _ => v = Value.slice (g 10).2.1 (y.2.2.2.2.2 ++ [z33.1]).length (g 10).2.2.1) = some (fun v _ => v = Value.slice (g' 10).2.1 (y.2.2.2.2.2 ++ [z33.1]).length (g' 10).2.2.1); rw [h] | n + 15, _ => rfl) (fun g => AllM.get ⟨fun _ _ _ _ h => h, fun _ _ _ _ h => h, fun _ _ _ _ h => h, fun _ _ _ _ h => h, fun _ _ _ _ h => h, fun _ _ _ _ h => h, fun _ _ _ _ h => h, fun _ _ _ _ h => h, fun _ _ _ _ h => h, fun _ _ _ _ h => h, fun _ _ _ _ h => h, fun _ _ _ _ h => h, fun _ _ _ _ h => h, fun _ _ _ _ h => h, fun _ _ _ _ h => h, trivial⟩) (fun g => ⟨?_, ?_, ?_, ?_, ?_, ?_, ?_, ?_, ?_, ?_, ?_, ?_, ?_, ?_, ?_, trivial⟩) ?_
   ·intro a w G1 f hcl hfi hon hW HE hp hO; obtain ⟨hl, hWc, hWo, hWn, HS⟩ := hW
    refine o_move HE rfl rfl ?_; clear HE; intro a HE
    exact ⟨_, _, (0, none, 0, []), Heap.le.refl _, ⟨hl, hWc, hWo, hWn, HS⟩, fun d hd => (by cases hd; exact HE.get _ _ rfl), HE.defers, fun q hq => by obtain rfl := Option.some.inj hq; exact rfl⟩
   ·intro a w G1 f hcl hfi hon hW HE hp hO; obtain ⟨hl, hWc, hWo, hWn, HS⟩ := hW
    refine o_move HE rfl rfl ?_; clear HE; intro a HE
    exact ⟨_, _, (0, none, 0, []), Heap.le.refl _, ⟨hl, hWc, hWo, hWn, HS⟩, fun d hd => (by cases hd; exact HE.get _ _ rfl), HE.defers, fun q hq => by obtain rfl := Option.some.inj hq; exact rfl⟩
   ·intro a w G1 f hcl hfi hon hW HE hp hO; obtain ⟨hl, hWc, hWo, hWn, HS⟩ := hW
    obtain ⟨_, e1, rfl⟩ := hp 1 51 _ (hon 1 rfl) rfl rfl; replace HE := HE.add e1
    refine o_nil HE rfl rfl ?_; clear HE; intro a HE
    exact ⟨_, _, (0, none, 0, []), Heap.le.refl _, ⟨hl, hWc, hWo, hWn, HS⟩, fun d hd => (by cases hd; exact HE.get _ _ rfl), HE.defers, fun q hq => by obtain rfl := Option.some.inj hq; exact rfl⟩
   ·intro a w G1 f hcl hfi hon hW HE hp hO; obtain ⟨hl, hWc, hWo, hWn, HS⟩ := hW
    obtain ⟨_, e2, rfl⟩ := hp 2 52 _ (hon 2 rfl) rfl rfl; replace HE := HE.add e2
    refine o_fld HE rfl rfl T.f77_1 ?_; clear HE; intro a HE
    exact ⟨_, _, (0, none, 0, []), Heap.le.refl _, ⟨hl, hWc, hWo, hWn, HS⟩, fun d hd => (by cases hd; exact HE.get _ _ rfl), HE.defers, fun q hq => by obtain rfl := Option.some.inj hq; exact rfl⟩
   ·intro a w G1 f hcl hfi hon hW HE hp hO; obtain ⟨hl, hWc, hWo, hWn, HS⟩ := hW
    obtain ⟨_, e3, rfl⟩ := hp 3 53 _ (hon 3 rfl) rfl rfl; replace HE := HE.add e3
    refine o_fld HE rfl rfl T.f26_6 ?_; clear HE; intro a HE
    exact ⟨_, _, (0, none, 0, []), Heap.le.refl _, ⟨hl, hWc, hWo, hWn, HS⟩, fun d hd => (by cases hd; exact HE.get _ _ rfl), HE.defers, fun q hq => by obtain rfl := Option.some.inj hq; exact rfl⟩
   ·intro a w G1 f hcl hfi hon hW HE hp hO; obtain ⟨hl, hWc, hWo, hWn, HS⟩ := hW
    obtain ⟨_, e4, rfl⟩ := hp 4 54 _ (hon 4 rfl) rfl rfl; replace HE := HE.add e4
    have n10 : f 10 = false := by
     cases h : f 10 with
     | false => rfl
     | true => have h_9 := hcl 10 _ rfl h 5 rfl; rw [hfi] at h_9; cases h_9
    have n14 : f 14 = false := by
     cases h : f 14 with
     | false => rfl
     | true => have h_9 := hcl 14 _ rfl h 10 rfl; rw [n10] at h_9; cases h_9
    have HS2 := HS
    rw [n10, n14] at HS; simp only [cond_false] at HS
    cases hb : f 9 with
    | true =>
     rw [hb] at HS; simp only [cond_true] at HS
     refine o_ld HE rfl HS rfl T.s24 (.there (.there (.here .here))) rfl ?_; clear HE; intro a HE
     exact ⟨_, _, (0, none, 0, []), Heap.le.refl _, ⟨hl, hWc, hWo, hWn, HS2⟩, fun d hd => (by cases hd; exact HE.get _ _ rfl), HE.defers, fun q hq => by obtain rfl := Option.some.inj hq; exact rfl⟩
    | false =>
     rw [hb] at HS; simp only [cond_false] at HS
     cases hcc : f 8 with
     | true =>
      rw [hcc] at HS; simp only [cond_true] at HS
      refine o_ld HE rfl HS rfl T.s24 (.there (.here .here)) rfl ?_; clear HE; intro a HE
      exact ⟨_, _, (0, none, 0, []), Heap.le.refl _, ⟨hl, hWc, hWo, hWn, HS2⟩, fun d hd => (by cases hd; exact HE.get _ _ rfl), HE.defers, fun q hq => by obtain rfl := Option.some.inj hq; exact rfl⟩
     | false =>
      rw [hcc] at HS; simp only [cond_false] at HS
      refine o_ld HE rfl HS rfl T.s24 (.there (.here .here)) rfl ?_; clear HE; intro a HE
      exact ⟨_, _, (0, none, 0, []), Heap.le.refl _, ⟨hl, hWc, hWo, hWn, HS2⟩, fun d hd => (by cases hd; exact HE.get _ _ rfl), HE.defers, fun q hq => by obtain rfl := Option.some.inj hq; exact rfl⟩
   ·intro a w G1 f hcl hfi hon hW HE hp hO; obtain ⟨hl, hWc, hWo, hWn, HS⟩ := hW
    refine o_move HE rfl rfl ?_; clear HE; intro a HE
    exact ⟨_, _, (0, none, 0, []), Heap.le.refl _, ⟨hl, hWc, hWo, hWn, HS⟩, fun d hd => (by cases hd; exact HE.get _ _ rfl), HE.defers, fun q hq => by obtain rfl := Option.some.inj hq; exact rfl⟩
   ·intro a w G1 f hcl hfi hon hW HE hp hO; obtain ⟨hl, hWc, hWo, hWn, HS⟩ := hW
    refine o_move HE rfl rfl ?_; clear HE; intro a HE
    exact ⟨_, _, (0, none, 0, []), Heap.le.refl _, ⟨hl, hWc, hWo, hWn, HS⟩, fun d hd => (by cases hd; exact HE.get _ _ rfl), HE.defers, fun q hq => by obtain rfl := Option.some.inj hq; exact rfl⟩
   ·intro a w G1 f hcl hfi hon hW HE hp hO; obtain ⟨hl, hWc, hWo, hWn, HS⟩ := hW
    obtain ⟨_, e6, rfl⟩ := hp 6 56 _ (hon 6 rfl) rfl rfl; replace HE := HE.add e6
    obtain ⟨_, e7, rfl⟩ := hp 7 57 _ (hon 7 rfl) rfl rfl; replace HE := HE.add e7
    have n9 : f 9 = false := by
     cases h : f 9 with
     | false => rfl
     | true => have h_9 := hcl 9 _ rfl h 8 rfl; rw [hfi] at h_9; cases h_9
    have n10 : f 10 = false := by
     cases h : f 10 with
     | false => rfl
     | true => have h_9 := hcl 10 _ rfl h 9 rfl; rw [n9] at h_9; cases h_9
    have n14 : f 14 = false := by
     cases h : f 14 with
     | false => rfl
     | true => have h_9 := hcl 14 _ rfl h 10 rfl; rw [n10] at h_9; cases h_9
    rw [n14, n10, n9, hfi] at HS; simp only [cond_false] at HS
    have hcall := c_value br y.2.1 _ _ y.2.2.2.2.1 c2 c3 c4 c5 c6 (.int .i64 z1.1) (.int .i64 z4.1.k) (.int .i64 z4.1.n) (str z4.1.s) (.int .i64 z7.1) (.slice oAbr12_1 ((y.2.2.2.2.2).length) ocbr12_1) c13 c14 c15 x31 _ _ (HS.front (C := [(br, Cells 77 [(0, .slice y.2.2.1 y.2.1.length y.2.2.2.1), (1, .int .i64 y.2.2.2.2.1), (2, c2), (3, c3), (4, c4), (5, c5), (6, c6), (7, .int .i64 z1.1), (8, .int .i64 z4.1.k), (9, .int .i64 z4.1.n), (10, str z4.1.s), (11, .int .i64 z7.1), (12, .slice oAbr12_1 ((y.2.2.2.2.2).length) ocbr12_1), (13, c13), (14, c14), (15, c15)])]) (.there .here)) (hRy.le hl) hcy hlsy (hg0.le hl) (hg1.le hl)
    replace HS : St w0 G [br] G1 _ ([oCbr12_1] ++ [(br, Cells 77 [(0, .slice y.2.2.1 y.2.1.length y.2.2.2.1), (1, .int .i64 y.2.2.2.2.1), (2, c2), (3, c3), (4, c4), (5, c5), (6, c6), (7, .int .i64 z1.1), (8, .int .i64 z4.1.k), (9, .int .i64 z4.1.n), (10, str z4.1.s), (11, .int .i64 z7.1), (12, .slice oAbr12_1 ((y.2.2.2.2.2).length) ocbr12_1), (13, c13), (14, c14), (15, c15)])] :: []) := HS
    refine o_callM HE rfl HS rfl rfl T.g62 hcall ?_ (fun _ _ _ _ _ _ h => h.elim)
    clear HE HS; rintro _ G2 _ w a HS hle2 ⟨z', hz', rfl, Aq, cq, hcq, hR2, rfl⟩ HE
    rw [← hz33] at hz'; have hz2 := hz'.symm; subst hz2
    exact ⟨_, _, (0, Aq, cq, []), hle2, ⟨hl.trans hle2, fun _ => ⟨hcq, hR2⟩, fun h => (hWo h).le hle2, fun h => (by have h' : f 10 = true := h; rw [n10] at h'; cases h'), (by show St w0 G [br] G2 w (bif (f 14) then ((g 10).2.2.2 :: [(br, Cells 77 [(0, .slice Aq z33.2.1.length cq), (1, .int .i64 z33.2.2), (2, c2), (3, c3), (4, c4), (5, c5), (6, c6), (7, .int .i64 z1.1), (8, .int .i64 z4.1.k), (9, .int .i64 z4.1.n), (10, str z4.1.s), (11, .int .i64 z7.1), (12, .slice (g 10).2.1 (y.2.2.2.2.2 ++ [z33.1]).length (g 10).2.2.1), (13, c13), (14, c14), (15, c15)])] :: []) else (bif (f 10) then ((g 10).2.2.2 :: [((g 9).1, Cells 23 [(0, .int .i64 z33.1.k), (1, .int .i64 z33.1.n), (2, str z33.1.s)])] :: [(br, Cells 77 [(0, .slice Aq z33.2.1.length cq), (1, .int .i64 z33.2.2), (2, c2), (3, c3), (4, c4), (5, c5), (6, c6), (7, .int .i64 z1.1), (8, .int .i64 z4.1.k), (9, .int .i64 z4.1.n), (10, str z4.1.s), (11, .int .i64 z7.1), (12, .slice oAbr12_1 ((y.2.2.2.2.2).length) ocbr12_1), (13, c13), (14, c14), (15, c15)])] :: []) else (bif (f 9) then ([((g 9).1, Cells 23 [(0, .int .i64 z33.1.k), (1, .int .i64 z33.1.n), (2, str z33.1.s)])] :: oCbr12_1 :: [(br, Cells 77 [(0, .slice Aq z33.2.1.length cq), (1, .int .i64 z33.2.2), (2, c2), (3, c3), (4, c4), (5, c5), (6, c6), (7, .int .i64 z1.1), (8, .int .i64 z4.1.k), (9, .int .i64 z4.1.n), (10, str z4.1.s), (11, .int .i64 z7.1), (12, .slice oAbr12_1 ((y.2.2.2.2.2).length) ocbr12_1), (13, c13), (14, c14), (15, c15)])] :: []) else (bif true then (oCbr12_1 :: [(br, Cells 77 [(0, .slice Aq z33.2.1.length cq), (1, .int .i64 z33.2.2), (2, c2), (3, c3), (4, c4), (5, c5), (6, c6), (7, .int .i64 z1.1), (8, .int .i64 z4.1.k), (9, .int .i64 z4.1.n), (10, str z4.1.s), (11, .int .i64 z7.1), (12, .slice oAbr12_1 ((y.2.2.2.2.2).length) ocbr12_1), (13, c13), (14, c14), (15, c15)])] :: []) else (oCbr12_1 :: [(br, Cells 77 [(0, .slice y.2.2.1 y.2.1.length y.2.2.2.1), (1, .int .i64 y.2.2.2.2.1), (2, c2), (3, c3), (4, c4), (5, c5), (6, c6), (7, .int .i64 z1.1), (8, .int .i64 z4.1.k), (9, .int .i64 z4.1.n), (10, str z4.1.s), (11, .int .i64 z7.1), (12, .slice oAbr12_1 ((y.2.2.2.2.2).length) ocbr12_1), (13, c13), (14, c14), (15, c15)])] :: []))))); rw [n14, n10, n9]; exact HS)⟩, fun d hd => (by cases hd; exact HE.get _ _ rfl), HE.defers, fun q hq => by obtain rfl := Option.some.inj hq; exact rfl⟩
   ·intro a w G1 f hcl hfi hon hW HE hp hO; obtain ⟨hl, hWc, hWo, hWn, HS⟩ := hW
    obtain ⟨_, e8, rfl⟩ := hp 8 58 _ (hon 8 rfl) rfl rfl; replace HE := HE.add e8
    have n10 : f 10 = false := by
     cases h : f 10 with
     | false => rfl
     | true => have h_9 := hcl 10 _ rfl h 9 rfl; rw [hfi] at h_9; cases h_9
    have n14 : f 14 = false := by
     cases h : f 14 with
     | false => rfl
     | true => have h_9 := hcl 14 _ rfl h 10 rfl; rw [n10] at h_9; cases h_9
    have hcc := hon 8 rfl
    rw [n14, n10, hfi, hcc] at HS; simp only [cond_false, cond_true] at HS
    refine o_buildSl (cs := #[.int .i64 z33.1.k, .int .i64 z33.1.n, str z33.1.s]) [(0, _), (1, _), (2, _)] HE rfl HS rfl T.l24 (by kernel_rfl) ⟨rfl, rfl, rfl, trivial⟩ ?_
    clear HE HS; intro bb w a HS HE
    exact ⟨_, _, (bb, none, 0, []), Heap.le.refl _, ⟨hl, hWc, hWo, hWn, (by show St w0 G [br] G1 w (bif (f 14) then ((g 10).2.2.2 :: [(br, Cells 77 [(0, .slice (g 8).2.1 z33.2.1.length (g 8).2.2.1), (1, .int .i64 z33.2.2), (2, c2), (3, c3), (4, c4), (5, c5), (6, c6), (7, .int .i64 z1.1), (8, .int .i64 z4.1.k), (9, .int .i64 z4.1.n), (10, str z4.1.s), (11, .int .i64 z7.1), (12, .slice (g 10).2.1 (y.2.2.2.2.2 ++ [z33.1]).length (g 10).2.2.1), (13, c13), (14, c14), (15, c15)])] :: []) else (bif (f 10) then ((g 10).2.2.2 :: [(bb, Cells 23 [(0, .int .i64 z33.1.k), (1, .int .i64 z33.1.n), (2, str z33.1.s)])] :: [(br, Cells 77 [(0, .slice (g 8).2.1 z33.2.1.length (g 8).2.2.1), (1, .int .i64 z33.2.2), (2, c2), (3, c3), (4, c4), (5, c5), (6, c6), (7, .int .i64 z1.1), (8, .int .i64 z4.1.k), (9, .int .i64 z4.1.n), (10, str z4.1.s), (11, .int .i64 z7.1), (12, .slice oAbr12_1 ((y.2.2.2.2.2).length) ocbr12_1), (13, c13), (14, c14), (15, c15)])] :: []) else (bif true then ([(bb, Cells 23 [(0, .int .i64 z33.1.k), (1, .int .i64 z33.1.n), (2, str z33.1.s)])] :: oCbr12_1 :: [(br, Cells 77 [(0, .slice (g 8).2.1 z33.2.1.length (g 8).2.2.1), (1, .int .i64 z33.2.2), (2, c2), (3, c3), (4, c4), (5, c5), (6, c6), (7, .int .i64 z1.1), (8, .int .i64 z4.1.k), (9, .int .i64 z4.1.n), (10, str z4.1.s), (11, .int .i64 z7.1), (12, .slice oAbr12_1 ((y.2.2.2.2.2).length) ocbr12_1), (13, c13), (14, c14), (15, c15)])] :: []) else (bif (f 8) then (oCbr12_1 :: [(br, Cells 77 [(0, .slice (g 8).2.1 z33.2.1.length (g 8).2.2.1), (1, .int .i64 z33.2.2), (2, c2), (3, c3), (4, c4), (5, c5), (6, c6), (7, .int .i64 z1.1), (8, .int .i64 z4.1.k), (9, .int .i64 z4.1.n), (10, str z4.1.s), (11, .int .i64 z7.1), (12, .slice oAbr12_1 ((y.2.2.2.2.2).length) ocbr12_1), (13, c13), (14, c14), (15, c15)])] :: []) else (oCbr12_1 :: [(br, Cells 77 [(0, .slice y.2.2.1 y.2.1.length y.2.2.2.1), (1, .int .i64 y.2.2.2.2.1), (2, c2), (3, c3), (4, c4), (5, c5), (6, c6), (7, .int .i64 z1.1), (8, .int .i64 z4.1.k), (9, .int .i64 z4.1.n), (10, str z4.1.s), (11, .int .i64 z7.1), (12, .slice oAbr12_1 ((y.2.2.2.2.2).length) ocbr12_1), (13, c13), (14, c14), (15, c15)])] :: []))))); rw [n14, n10]; exact HS)⟩, fun d hd => (by cases hd; exact HE.get _ _ rfl), HE.defers, fun q hq => by obtain rfl := Option.some.inj hq; exact rfl⟩
   ·intro a w G1 f hcl hfi hon hW HE hp hO; obtain ⟨hl, hWc, hWo, hWn, HS⟩ := hW
    obtain ⟨_, e5, rfl⟩ := hp 5 55 _ (hon 5 rfl) rfl rfl; replace HE := HE.add e5
    obtain ⟨_, e9, rfl⟩ := hp 9 59 _ (hon 9 rfl) rfl rfl; replace HE := HE.add e9
    have n14 : f 14 = false := by
     cases h : f 14 with
     | false => rfl
     | true => have h_9 := hcl 14 _ rfl h 10 rfl; rw [hfi] at h_9; cases h_9
    have hcc := hon 9 rfl
    have hcall := hcl 9 _ rfl hcc 8 rfl
    have hOo := hWo hfi
    rw [n14, hfi, hcc] at HS; simp only [cond_false, cond_true] at HS
    refine o_appendL (K := kVal) (ys := [z33.1]) (n := 3) HE rfl HS (.there .here) hOo rfl rfl T.p24 (.here .here) rfl ⟨rfl, rfl⟩ rfl rfl (by (simp; omega)) (by (simp; omega)) ?_
    clear HE HS; intro Aq cq Cq w a HS hO2 HE
    exact ⟨_, _, (0, Aq, cq, Cq), Heap.le.refl _, ⟨hl, hWc, fun h => (by cases h), fun _ => hO2, (by show St w0 G [br] G1 w (bif (f 14) then (Cq :: [(br, Cells 77 [(0, .slice (g 8).2.1 z33.2.1.length (g 8).2.2.1), (1, .int .i64 z33.2.2), (2, c2), (3, c3), (4, c4), (5, c5), (6, c6), (7, .int .i64 z1.1), (8, .int .i64 z4.1.k), (9, .int .i64 z4.1.n), (10, str z4.1.s), (11, .int .i64 z7.1), (12, .slice Aq (y.2.2.2.2.2 ++ [z33.1]).length cq), (13, c13), (14, c14), (15, c15)])] :: []) else (bif true then (Cq :: [((g 9).1, Cells 23 [(0, .int .i64 z33.1.k), (1, .int .i64 z33.1.n), (2, str z33.1.s)])] :: [(br, Cells 77 [(0, .slice (g 8).2.1 z33.2.1.length (g 8).2.2.1), (1, .int .i64 z33.2.2), (2, c2), (3, c3), (4, c4), (5, c5), (6, c6), (7, .int .i64 z1.1), (8, .int .i64 z4.1.k), (9, .int .i64 z4.1.n), (10, str z4.1.s), (11, .int .i64 z7.1), (12, .slice oAbr12_1 ((y.2.2.2.2.2).length) ocbr12_1), (13, c13), (14, c14), (15, c15)])] :: []) else (bif (f 9) then ([((g 9).1, Cells 23 [(0, .int .i64 z33.1.k), (1, .int .i64 z33.1.n), (2, str z33.1.s)])] :: oCbr12_1 :: [(br, Cells 77 [(0, .slice (g 8).2.1 z33.2.1.length (g 8).2.2.1), (1, .int .i64 z33.2.2), (2, c2), (3, c3), (4, c4), (5, c5), (6, c6), (7, .int .i64 z1.1), (8, .int .i64 z4.1.k), (9, .int .i64 z4.1.n), (10, str z4.1.s), (11, .int .i64 z7.1), (12, .slice oAbr12_1 ((y.2.2.2.2.2).length) ocbr12_1), (13, c13), (14, c14), (15, c15)])] :: []) else (bif (f 8) then (oCbr12_1 :: [(br, Cells 77 [(0, .slice (g 8).2.1 z33.2.1.length (g 8).2.2.1), (1, .int .i64 z33.2.2), (2, c2), (3, c3), (4, c4), (5, c5), (6, c6), (7, .int .i64 z1.1), (8, .int .i64 z4.1.k), (9, .int .i64 z4.1.n), (10, str z4.1.s), (11, .int .i64 z7.1), (12, .slice oAbr12_1 ((y.2.2.2.2.2).length) ocbr12_1), (13, c13), (14, c14), (15, c15)])] :: []) else (oCbr12_1 :: [(br, Cells 77 [(0, .slice y.2.2.1 y.2.1.length y.2.2.2.1), (1, .int .i64 y.2.2.2.2.1), (2, c2), (3, c3), (4, c4), (5, c5), (6, c6), (7, .int .i64 z1.1), (8, .int .i64 z4.1.k), (9, .int .i64 z4.1.n), (10, str z4.1.s), (11, .int .i64 z7.1), (12, .slice oAbr12_1 ((y.2.2.2.2.2).length) ocbr12_1), (13, c13), (14, c14), (15, c15)])] :: []))))); rw [n14]; exact HS)⟩, fun d hd => (by cases hd; exact HE.get _ _ rfl), HE.defers, fun q hq => by obtain rfl := Option.some.inj hq; exact rfl⟩
   ·intro a w G1 f hcl hfi hon hW HE hp hO; obtain ⟨hl, hWc, hWo, hWn, HS⟩ := hW
    obtain ⟨_, e0, rfl⟩ := hp 0 50 _ (hon 0 rfl) rfl rfl; replace HE := HE.add e0
    refine o_nil HE rfl rfl ?_; clear HE; intro a HE
    exact ⟨_, _, (0, none, 0, []), Heap.le.refl _, ⟨hl, hWc, hWo, hWn, HS⟩, fun d hd => (by cases hd; exact HE.get _ _ rfl), HE.defers, fun q hq => by obtain rfl := Option.some.inj hq; exact rfl⟩
   ·intro a w G1 f hcl hfi hon hW HE hp hO; obtain ⟨hl, hWc, hWo, hWn, HS⟩ := hW
    obtain ⟨_, e11, rfl⟩ := hp 11 61 _ (hon 11 rfl) rfl rfl; replace HE := HE.add e11
    refine o_fld HE rfl rfl T.f77_1 ?_; clear HE; intro a HE
    exact ⟨_, _, (0, none, 0, []), Heap.le.refl _, ⟨hl, hWc, hWo, hWn, HS⟩, fun d hd => (by cases hd; exact HE.get _ _ rfl), HE.defers, fun q hq => by obtain rfl := Option.some.inj hq; exact rfl⟩
   ·intro a w G1 f hcl hfi hon hW HE hp hO; obtain ⟨hl, hWc, hWo, hWn, HS⟩ := hW
    obtain ⟨_, e12, rfl⟩ := hp 12 62 _ (hon 12 rfl) rfl rfl; replace HE := HE.add e12
    refine o_fld HE rfl rfl T.f26_6 ?_; clear HE; intro a HE
    exact ⟨_, _, (0, none, 0, []), Heap.le.refl _, ⟨hl, hWc, hWo, hWn, HS⟩, fun d hd => (by cases hd; exact HE.get _ _ rfl), HE.defers, fun q hq => by obtain rfl := Option.some.inj hq; exact rfl⟩
   ·intro a w G1 f hcl hfi hon hW HE hp hO; obtain ⟨hl, hWc, hWo, hWn, HS⟩ := hW
    obtain ⟨_, e13, rfl⟩ := hp 13 63 _ (hon 13 rfl) rfl rfl; replace HE := HE.add e13
    obtain ⟨_, e10, rfl⟩ := hp 10 60 _ (hon 10 rfl) rfl rfl; replace HE := HE.add e10
    have hcc := hon 10 rfl
    rw [hfi, hcc] at HS; simp only [cond_false, cond_true] at HS
    refine o_st HE HS rfl rfl rfl T.s24 (.there (.there (.here .here))) rfl ?_; clear HS; intro w HS
    replace HS := HS.conv (L2 := [(0, .slice (g 8).2.1 z33.2.1.length (g 8).2.2.1), (1, .int .i64 z33.2.2), (2, c2), (3, c3), (4, c4), (5, c5), (6, c6), (7, .int .i64 z1.1), (8, .int .i64 z4.1.k), (9, .int .i64 z4.1.n), (10, str z4.1.s), (11, .int .i64 z7.1), (12, .slice (g 10).2.1 (y.2.2.2.2.2 ++ [z33.1]).length (g 10).2.2.1), (13, c13), (14, c14), (15, c15)]) (.there (.there (.here .here))) ⟨rfl, rfl, rfl, rfl, rfl, rfl, rfl, rfl, rfl, rfl, rfl, rfl, rfl, rfl, rfl, rfl, trivial⟩
    exact ⟨.bool true, _, (0, none, 0, []), Heap.le.refl _, ⟨hl, hWc, hWo, hWn, HS.drop (sub_keep (sub_drop (List.Sublist.refl _)))⟩, fun d hd => (by cases hd), HE.defers, fun q hq => by obtain rfl := Option.some.inj hq; trivial⟩
   clear HE HS; intro a w G34 g f hle35 hall HW HE hp; obtain ⟨_, hWc, _, hWn, HS⟩ := HW
   obtain ⟨hcp36, hR36⟩ := hWc (hall 8 (by decide)); have oH36 := hWn (hall 10 (by decide)); rw [hall 14 (by decide)] at HS; simp only [cond_true] at HS; clear hWc hWn hp hall
   generalize (g 8).2.1 = vA36 at *; generalize (g 8).2.2.1 = vc36 at *; generalize (g 10).2.1 = oA36 at *; generalize (g 10).2.2.1 = oc36 at *; generalize (g 10).2.2.2 = oC36 at *
   replace hR := hR.le hle35
   replace hg0 := hg0.le hle35
   replace hg1 := hg1.le hle35
   replace hgm := hgm.le hle35
   replace hgo := hgo.le hle35
   replace hR2 := hR2.le hle35
   replace hR5 := hR5.le hle35
   replace hR8 := hR8.le hle35
   replace hR14 := hR14.le hle35
   replace hRy := hRy.le hle35
   have hlsz33 : ∀ x ∈ z33.2.1, x.length ≤ 4294967280 := by rw [hz33, value_left]; exact (next_len hlsy).2.1
   have hvwz33 : z33.1.Wf := by rw [hz33]; exact value_wf hlsy
   refine hK29 _ _ ?_; clear hK29
   refine wp_region_lit ?_
   refine rn 2 HE HS ?_; clear HE HS; intro a w HE HS
   have hnx : argsL (argsD z1.1 z7.1).1 z7.2.1 (faultS z7.2.2 2) = ((y.2.2.2.2.2 ++ [z33.1]) ++ (argsL ((argsD z1.1 z7.1).1.drop (y.1 + 1)) z33.2.1 z33.2.2).1, (argsL ((argsD z1.1 z7.1).1.drop (y.1 + 1)) z33.2.1 z33.2.2).2) := by
    rw [hy2, argsL_step (j := y.1) (by simpa using ex31), ← hz33, List.append_assoc]
    rfl
   exact ⟨(y.1 + 1, z33.2.1, vA36, vc36, z33.2.2, y.2.2.2.2.2 ++ [z33.1]), ⟨_, _, _, _, (hle24.trans hle35), HS, HE.cut ⟨rfl, rfl, rfl, rfl, trivial⟩, oH36, ⟨by show y.1 + 1 ≤ _; omega, hnx, hcp36, hR36, hlsz33, by simp; omega⟩⟩, by show (argsD z1.1 z7.1).1.length - (y.1 + 1) < _; omega⟩
  ·have h28 := nm h28r
   refine wp_exit ?_
   show Q .normal _ _
   refine retN hQ HE rfl .nil ?_
   have hcphR38 := oHbr12_1.cap
   obtain ⟨G37, hle39, HS', hR38⟩ := X.Own.still HS .here oHbr12_1; clear HS; have HS := HS'; clear HS'
   replace hR := hR.le hle39
   replace hg0 := hg0.le hle39
   replace hg1 := hg1.le hle39
   replace hgm := hgm.le hle39
   replace hgo := hgo.le hle39
   replace hR2 := hR2.le hle39
   replace hR5 := hR5.le hle39
   replace hR8 := hR8.le hle39
   replace hR14 := hR14.le hle39
   replace hRy := hRy.le hle39
   have hj9 : y.1 = (argsD z1.1 z7.1).1.length := by omega
   rw [List.drop_of_length_le (by omega)] at hy2
   have he : invS l e = (z1.1, z4.1, z7.1, y.2.2.2.2.2, y.2.1, y.2.2.2.2.1) := by
    unfold invS
    dsimp only
    rw [← hz1, ← hz4, ← hz7, if_pos h18r, hy2]
    simp only [argsL, List.append_nil]
   exact ⟨_, [(br, Cells 77 [(0, .slice y.2.2.1 y.2.1.length y.2.2.2.1), (1, .int .i64 y.2.2.2.2.1), (2, c2), (3, c3), (4, c4), (5, c5), (6, c6), (7, .int .i64 z1.1), (8, .int .i64 z4.1.k), (9, .int .i64 z4.1.n), (10, str z4.1.s), (11, .int .i64 z7.1), (12, .slice oAbr12_1 ((y.2.2.2.2.2).length) ocbr12_1), (13, c13), (14, c14), (15, c15)])], HS.stop (by simp), _, rfl, rfl, by rw [he]; exact ⟨_, _, _, _, hcy, hRy, hcphR38, hR38, rfl⟩⟩
 ·have h18 := nm h18r
  refine wp_skip ?_
  refine hK15 _ _ ?_; clear hK15
  refine sr fun K hK => ?_
  skip
  refine rn 3 HE HS ?_; clear HE HS; intro a w HE HS
  apply hK; clear hK K
  refine wp_block ?_
  replace HS := HS.nilChunk
  have oH42 : X.Own kVal 23 G12 none 0 ([] : List Val) [] := X.Own.nil
  have hdl := args_len z1.1 z7.1
  refine loop (fun (y : Nat × List Bs × Option Addr × Nat × Int × List Val) a' w' => ∃ (oAbr12_1 : Option Addr) (ocbr12_1 : Nat) (oCbr12_1 : Chunk), ∃ GL43, Heap.le G12 GL43 ∧ St w0 G [br] GL43 w' [oCbr12_1, [(br, Cells 77 [(0, .slice y.2.2.1 y.2.1.length y.2.2.2.1), (1, .int .i64 y.2.2.2.2.1), (2, c2), (3, c3), (4, c4), (5, c5), (6, c6), (7, .int .i64 z1.1), (8, .int .i64 z4.1.k), (9, .int .i64 z4.1.n), (10, str z4.1.s), (11, .int .i64 z7.1), (12, .slice oAbr12_1 ((y.2.2.2.2.2).length) ocbr12_1), (13, c13), (14, c14), (15, c15)])]] ∧ Env a' 65 [] [(0, .pointer (some ⟨br, 0, none⟩)), (44, .slice vA14 ((argsD z1.1 z7.1).1.length) vc14), (45, .int .i64 ((argsD z1.1 z7.1).1.length : Int)), (46, .int .i64 ((y.1 : Nat) : Int))] ∧ X.Own kVal 23 GL43 oAbr12_1 ocbr12_1 (y.2.2.2.2.2) oCbr12_1 ∧ (y.1 ≤ (argsD z1.1 z7.1).1.length ∧ argsL (argsD z1.1 z7.1).1 z7.2.1 z7.2.2 = (y.2.2.2.2.2 ++ (argsL ((argsD z1.1 z7.1).1.drop y.1) y.2.1 y.2.2.2.2.1).1, (argsL ((argsD z1.1 z7.1).1.drop y.1) y.2.1 y.2.2.2.2.1).2) ∧ y.2.1.length ≤ y.2.2.2.1 ∧ Rd Knd.s GL43 y.2.2.1 y.2.1 ∧ (∀ x ∈ y.2.1, x.length ≤ 4294967280) ∧ y.2.2.2.2.2.length ≤ y.1)) (fun (y : Nat × List Bs × Option Addr × Nat × Int × List Val) => (argsD z1.1 z7.1).1.length - y.1) (0, z7.2.1, vA8, vc8, z7.2.2, []) ⟨_, _, _, _, Heap.le.refl _, HS, HE.cut ⟨rfl, rfl, rfl, rfl, trivial⟩, oH42, ⟨Nat.zero_le _, rfl, hcp8, hR8, hlsz7, Nat.zero_le _⟩⟩ ?_
  clear HE HS; intro y a w ⟨oAbr12_1, ocbr12_1, oCbr12_1, GL43, hle44, HS, HE, oHbr12_1, ⟨hy1, hy2, hcy, hRy, hlsy, hy6⟩⟩
  replace hR := hR.le hle44
  replace hg0 := hg0.le hle44
  replace hg1 := hg1.le hle44
  replace hgm := hgm.le hle44
  replace hgo := hgo.le hle44
  replace hR2 := hR2.le hle44
  replace hR5 := hR5.le hle44
  replace hR8 := hR8.le hle44
  replace hR14 := hR14.le hle44
  refine sr fun K hK => ?_
  skip
  refine rn 1 HE HS ?_; clear HE HS; intro a w HE HS
  apply hK; clear hK K
  refine wp_seq_k (fun K47 hK46 => ?_)
  refine cond HE rfl (fun h48r => ?_) (fun h48r => ?_)
  ·have h48 := nm h48r
   refine wp_skip ?_
   refine hK46 _ _ ?_; clear hK46
   refine wp_seq_k (fun K50 hK49 => ?_)
   refine wp_block ?_
   refine sr fun K hK => ?_
   have hi51 : ((y.1 : Nat) : Int).toNat < ((argsD z1.1 z7.1).1).length := by omega
   obtain ⟨eb51, eo51, hA51, el51⟩ := Rd.at hR14 (List.getElem?_eq_getElem hi51); cases hA51
   obtain ⟨x51, ex51⟩ : ∃ x, ((argsD z1.1 z7.1).1)[((y.1 : Nat) : Int).toNat] = x := ⟨_, rfl⟩; rw [ex51] at el51
   have el51 := kof_open el51
   refine o_ixL HE rfl rfl rfl T.l44 ⟨by omega, by omega⟩ ?_; clear HE; intro a HE
   refine o_ldI HE rfl HS rfl T.s3 el51 (j := 0) rfl rfl ?_; clear HE; intro a HE
   refine rn 1 HE HS ?_; clear HE HS; intro a w HE HS
   apply hK; clear hK K
   obtain ⟨z53, hz53⟩ : ∃ z, z = valueS x51 y.2.1 y.2.2.2.2.1 := ⟨_, rfl⟩
   replace HE := HE.cut (L' := [(0, .pointer (some ⟨br, 0, none⟩)), (5, .int .i64 x51), (44, .slice (some ⟨eb51, eo51, none⟩) ((argsD z1.1 z7.1).1.length) vc14), (45, .int .i64 ((argsD z1.1 z7.1).1.length : Int)), (46, .int .i64 ((y.1 : Nat) : Int)), (47, .bool (decide (((y.1 : Nat) : Int) < ((argsD z1.1 z7.1).1.length : Int)))), (48, .pointer (some ⟨eb51, eo51 + ((y.1 : Nat) : Int).toNat * 1, none⟩)), (49, .int .i64 x51)]) ⟨rfl, rfl, rfl, rfl, rfl, rfl, rfl, rfl, trivial⟩
   refine drawnH ((0, none, 0, []) : Nat × Option Addr × Nat × Chunk) (fun g f G' w => Heap.le GL43 G' ∧ (f 8 = true → z53.2.1.length ≤ (g 8).2.2.1 ∧ Rd Knd.s G' (g 8).2.1 z53.2.1) ∧ (f 10 = false → X.Own kVal 23 G' oAbr12_1 ocbr12_1 y.2.2.2.2.2 oCbr12_1) ∧ (f 10 = true → X.Own kVal 23 G' (g 10).2.1 (g 10).2.2.1 (y.2.2.2.2.2 ++ [z53.1]) (g 10).2.2.2) ∧ St w0 G [br] G' w (bif (f 14) then ((g 10).2.2.2 :: [(br, Cells 77 [(0, .slice (g 8).2.1 z53.2.1.length (g 8).2.2.1), (1, .int .i64 z53.2.2), (2, c2), (3, c3), (4, c4), (5, c5), (6, c6), (7, .int .i64 z1.1), (8, .int .i64 z4.1.k), (9, .int .i64 z4.1.n), (10, str z4.1.s), (11, .int .i64 z7.1), (12, .slice (g 10).2.1 (y.2.2.2.2.2 ++ [z53.1]).length (g 10).2.2.1), (13, c13), (14, c14), (15, c15)])] :: []) else (bif (f 10) then ((g 10).2.2.2 :: [((g 9).1, Cells 23 [(0, .int .i64 z53.1.k), (1, .int .i64 z53.1.n), (2, str z53.1.s)])] :: [(br, Cells 77 [(0, .slice (g 8).2.1 z53.2.1.length (g 8).2.2.1), (1, .int .i64 z53.2.2), (2, c2), (3, c3), (4, c4), (5, c5), (6, c6), (7, .int .i64 z1.1), (8, .int .i64 z4.1.k), (9, .int .i64 z4.1.n), (10, str z4.1.s), (11, .int .i64 z7.1), (12, .slice oAbr12_1 ((y.2.2.2.2.2).length) ocbr12_1), (13, c13), (14, c14), (15, c15)])] :: []) else (bif (f 9) then ([((g 9).1, Cells 23 [(0, .int .i64 z53.1.k), (1, .int .i64 z53.1.n), (2, str z53.1.s)])] :: oCbr12_1 :: [(br, Cells 77 [(0, .slice (g 8).2.1 z53.2.1.length (g 8).2.2.1), (1, .int .i64 z53.2.2), (2, c2), (3, c3), (4, c4), (5, c5), (6, c6), (7, .int .i64 z1.1), (8, .int .i64 z4.1.k), (9, .int .i64 z4.1.n), (10, str z4.1.s), (11, .int .i64 z7.1), (12, .slice oAbr12_1 ((y.2.2.2.2.2).length) ocbr12_1), (13, c13), (14, c14), (15, c15)])] :: []) else (bif (f 8) then (oCbr12_1 :: [(br, Cells 77 [(0, .slice (g 8).2.1 z53.2.1.length (g 8).2.2.1), (1, .int .i64 z53.2.2), (2, c2), (3, c3), (4, c4), (5, c5), (6, c6), (7, .int .i64 z1.1), (8, .int .i64 z4.1.k), (9, .int .i64 z4.1.n), (10, str z4.1.s), (11, .int .i64 z7.1), (12, .slice oAbr12_1 ((y.2.2.2.2.2).length) ocbr12_1), (13, c13), (14, c14), (15, c15)])] :: []) else (oCbr12_1 :: [(br, Cells 77 [(0, .slice y.2.2.1 y.2.1.length y.2.2.2.1), (1, .int .i64 y.2.2.2.2.1), (2, c2), (3, c3), (4, c4), (5, c5), (6, c6), (7, .int .i64 z1.1), (8, .int .i64 z4.1.k), (9, .int .i64 z4.1.n), (10, str z4.1.s), (11, .int .i64 z7.1), (12, .slice oAbr12_1 ((y.2.2.2.2.2).length) ocbr12_1), (13, c13), (14, c14), (15, c15)])] :: [])))))) (fun g => [fun v _ => v = .pointer (some ⟨br, 0, none⟩), fun v _ => v = .pointer (some ⟨br, 0, none⟩), fun v _ => v = .pointer (some ⟨br, 0, none⟩), fun v _ => v = .pointer (some ⟨br, 2, none⟩), fun v _ => v = .pointer (some ⟨br, 12, none⟩), fun v _ => v = .slice oAbr12_1 ((y.2.2.2.2.2).length) ocbr12_1, fun v _ => v = .pointer (some ⟨br, 0, none⟩), fun v _ => v = .int .i64 x51, fun v _ => v = .agg #[.int .i64 z53.1.k, .int .i64 z53.1.n, str z53.1.s], fun v _ => v = .slice (some ⟨(g 9).1, 0, none⟩) 1 1, fun v _ => v = .slice (g 10).2.1 (y.2.2.2.2.2 ++ [z53.1]).length (g 10).2.2.1, fun v _ => v = .pointer (some ⟨br, 0, none⟩), fun v _ => v = .pointer (some ⟨br, 2, none⟩), fun v _ => v = .pointer (some ⟨br, 12, none⟩), fun _ _ => True]) [] T.mix rfl HE ⟨Heap.le.refl _, fun h => (by cases h), fun _ => oHbr12_1, fun h => (by cases h), HS.drew⟩ rfl (by simp) (fun g g' j h => match j, h with | 0, _ => rfl | 1, _ => rfl | 2, _ => rfl | 3, _ => rfl | 4, _ => rfl | 5, _ => rfl | 6, _ => rfl | 7, _ => rfl | 8, _ => rfl | 11, _ => rfl | 12, _ => rfl | 13, _ => rfl | 14, _ => rfl | 9, h => by show some (fun v _ => v = Value.slice (some ⟨(g 9).1, 0, none⟩) 1 1) = some (fun v _ => v = Value.slice (some ⟨(g' 9).1, 0, none⟩) 1 1); rw [h] | 10, h => by show some (fun v _ => v = Value.slice (g 10).2.1 (y.2.2.2.2.2 ++ [z53.1]).length (g 10).2.2.1) = some (fun v _ => v = Value.slice (g' 10).2.1 (y.2.2.2.2.2 ++ [z53.1]).length (g' 10).2.2.1); rw [h] | n + 15, _ => rfl) (fun g => AllM.get ⟨fun _ _ _ _ h => h, fun _ _ _ _ h => h, fun _ _ _ _ h => h, fun _ _ _ _ h => h, fun _ _ _ _ h => h, fun _ _ _ _ h => h, fun _ _ _ _ h => h, fun _ _ _ _ h => h, fun _ _ _ _ h => h, fun _ _ _ _ h => h, fun _ _ _ _ h => h, fun _ _ _ _ h => h, fun _ _ _ _ h => h, fun _ _ _ _ h => h, fun _ _ _ _ h => h, trivial⟩) (fun g => ⟨?_, ?_, ?_, ?_, ?_, ?_, ?_, ?_, ?_, ?_, ?_, ?_, ?_, ?_, ?_, trivial⟩) ?_
   ·intro a w G1 f hcl hfi hon hW HE hp hO; obtain ⟨hl, hWc, hWo, hWn, HS⟩ := hW
    refine o_move HE rfl rfl ?_; clear HE; intro a HE
    exact ⟨_, _, (0, none, 0, []), Heap.le.refl _, ⟨hl, hWc, hWo, hWn, HS⟩, fun d hd => (by cases hd; exact HE.get _ _ rfl), HE.defers, fun q hq => by obtain rfl := Option.some.inj hq; exact rfl⟩
   ·intro a w G1 f hcl hfi hon hW HE hp hO; obtain ⟨hl, hWc, hWo, hWn, HS⟩ := hW
    refine o_move HE rfl rfl ?_; clear HE; intro a HE
    exact ⟨_, _, (0, none, 0, []), Heap.le.refl _, ⟨hl, hWc, hWo, hWn, HS⟩, fun d hd => (by cases hd; exact HE.get _ _ rfl), HE.defers, fun q hq => by obtain rfl := Option.some.inj hq; exact rfl⟩
   ·intro a w G1 f hcl hfi hon hW HE hp hO; obtain ⟨hl, hWc, hWo, hWn, HS⟩ := hW
    obtain ⟨_, e1, rfl⟩ := hp 1 51 _ (hon 1 rfl) rfl rfl; replace HE := HE.add e1
    refine o_nil HE rfl rfl ?_; clear HE; intro a HE
    exact ⟨_, _, (0, none, 0, []), Heap.le.refl _, ⟨hl, hWc, hWo, hWn, HS⟩, fun d hd => (by cases hd; exact HE.get _ _ rfl), HE.defers, fun q hq => by obtain rfl := Option.some.inj hq; exact rfl⟩
   ·intro a w G1 f hcl hfi hon hW HE hp hO; obtain ⟨hl, hWc, hWo, hWn, HS⟩ := hW
    obtain ⟨_, e2, rfl⟩ := hp 2 52 _ (hon 2 rfl) rfl rfl; replace HE := HE.add e2
    refine o_fld HE rfl rfl T.f77_1 ?_; clear HE; intro a HE
    exact ⟨_, _, (0, none, 0, []), Heap.le.refl _, ⟨hl, hWc, hWo, hWn, HS⟩, fun d hd => (by cases hd; exact HE.get _ _ rfl), HE.defers, fun q hq => by obtain rfl := Option.some.inj hq; exact rfl⟩
   ·intro a w G1 f hcl hfi hon hW HE hp hO; obtain ⟨hl, hWc, hWo, hWn, HS⟩ := hW
    obtain ⟨_, e3, rfl⟩ := hp 3 53 _ (hon 3 rfl) rfl rfl; replace HE := HE.add e3
    refine o_fld HE rfl rfl T.f26_6 ?_; clear HE; intro a HE
    exact ⟨_, _, (0, none, 0, []), Heap.le.refl _, ⟨hl, hWc, hWo, hWn, HS⟩, fun d hd => (by cases hd; exact HE.get _ _ rfl), HE.defers, fun q hq => by obtain rfl := Option.some.inj hq; exact rfl⟩
   ·intro a w G1 f hcl hfi hon hW HE hp hO; obtain ⟨hl, hWc, hWo, hWn, HS⟩ := hW
    obtain ⟨_, e4, rfl⟩ := hp 4 54 _ (hon 4 rfl) rfl rfl; replace HE := HE.add e4
    have n10 : f 10 = false := by
     cases h : f 10 with
     | false => rfl
     | true => have h_9 := hcl 10 _ rfl h 5 rfl; rw [hfi] at h_9; cases h_9
    have n14 : f 14 = false := by
     cases h : f 14 with
     | false => rfl
     | true => have h_9 := hcl 14 _ rfl h 10 rfl; rw [n10] at h_9; cases h_9
    have HS2 := HS
    rw [n10, n14] at HS; simp only [cond_false] at HS
    cases hb : f 9 with
    | true =>
     rw [hb] at HS; simp only [cond_true] at HS
     refine o_ld HE rfl HS rfl T.s24 (.there (.there (.here .here))) rfl ?_; clear HE; intro a HE
     exact ⟨_, _, (0, none, 0, []), Heap.le.refl _, ⟨hl, hWc, hWo, hWn, HS2⟩, fun d hd => (by cases hd; exact HE.get _ _ rfl), HE.defers, fun q hq => by obtain rfl := Option.some.inj hq; exact rfl⟩
    | false =>
     rw [hb] at HS; simp only [cond_false] at HS
     cases hcc : f 8 with
     | true =>
      rw [hcc] at HS; simp only [cond_true] at HS
      refine o_ld HE rfl HS rfl T.s24 (.there (.here .here)) rfl ?_; clear HE; intro a HE
      exact ⟨_, _, (0, none, 0, []), Heap.le.refl _, ⟨hl, hWc, hWo, hWn, HS2⟩, fun d hd => (by cases hd; exact HE.get _ _ rfl), HE.defers, fun q hq => by obtain rfl := Option.some.inj hq; exact rfl⟩
     | false =>
      rw [hcc] at HS; simp only [cond_false] at HS
      refine o_ld HE rfl HS rfl T.s24 (.there (.here .here)) rfl ?_; clear HE; intro a HE
      exact ⟨_, _, (0, none, 0, []), Heap.le.refl _, ⟨hl, hWc, hWo, hWn, HS2⟩, fun d hd => (by cases hd; exact HE.get _ _ rfl), HE.defers, fun q hq => by obtain rfl := Option.some.inj hq; exact rfl⟩
   ·intro a w G1 f hcl hfi hon hW HE hp hO; obtain ⟨hl, hWc, hWo, hWn, HS⟩ := hW
    refine o_move HE rfl rfl ?_; clear HE; intro a HE
    exact ⟨_, _, (0, none, 0, []), Heap.le.refl _, ⟨hl, hWc, hWo, hWn, HS⟩, fun d hd => (by cases hd; exact HE.get _ _ rfl), HE.defers, fun q hq => by obtain rfl := Option.some.inj hq; exact rfl⟩
   ·intro a w G1 f hcl hfi hon hW HE hp hO; obtain ⟨hl, hWc, hWo, hWn, HS⟩ := hW
    refine o_move HE rfl rfl ?_; clear HE; intro a HE
    exact ⟨_, _, (0, none, 0, []), Heap.le.refl _, ⟨hl, hWc, hWo, hWn, HS⟩, fun d hd => (by cases hd; exact HE.get _ _ rfl), HE.defers, fun q hq => by obtain rfl := Option.some.inj hq; exact rfl⟩
   ·intro a w G1 f hcl hfi hon hW HE hp hO; obtain ⟨hl, hWc, hWo, hWn, HS⟩ := hW
    obtain ⟨_, e6, rfl⟩ := hp 6 56 _ (hon 6 rfl) rfl rfl; replace HE := HE.add e6
    obtain ⟨_, e7, rfl⟩ := hp 7 57 _ (hon 7 rfl) rfl rfl; replace HE := HE.add e7
    have n9 : f 9 = false := by
     cases h : f 9 with
     | false => rfl
     | true => have h_9 := hcl 9 _ rfl h 8 rfl; rw [hfi] at h_9; cases h_9
    have n10 : f 10 = false := by
     cases h : f 10 with
     | false => rfl
     | true => have h_9 := hcl 10 _ rfl h 9 rfl; rw [n9] at h_9; cases h_9
    have n14 : f 14 = false := by
     cases h : f 14 with
     | false => rfl
     | true => have h_9 := hcl 14 _ rfl h 10 rfl; rw [n10] at h_9; cases h_9
    rw [n14, n10, n9, hfi] at HS; simp only [cond_false] at HS
    have hcall := c_value br y.2.1 _ _ y.2.2.2.2.1 c2 c3 c4 c5 c6 (.int .i64 z1.1) (.int .i64 z4.1.k) (.int .i64 z4.1.n) (str z4.1.s) (.int .i64 z7.1) (.slice oAbr12_1 ((y.2.2.2.2.2).length) ocbr12_1) c13 c14 c15 x51 _ _ (HS.front (C := [(br, Cells 77 [(0, .slice y.2.2.1 y.2.1.length y.2.2.2.1), (1, .int .i64 y.2.2.2.2.1), (2, c2), (3, c3), (4, c4), (5, c5), (6, c6), (7, .int .i64 z1.1), (8, .int .i64 z4.1.k), (9, .int .i64 z4.1.n), (10, str z4.1.s), (11, .int .i64 z7.1), (12, .slice oAbr12_1 ((y.2.2.2.2.2).length) ocbr12_1), (13, c13), (14, c14), (15, c15)])]) (.there .here)) (hRy.le hl) hcy hlsy (hg0.le hl) (hg1.le hl)
    replace HS : St w0 G [br] G1 _ ([oCbr12_1] ++ [(br, Cells 77 [(0, .slice y.2.2.1 y.2.1.length y.2.2.2.1), (1, .int .i64 y.2.2.2.2.1), (2, c2), (3, c3), (4, c4), (5, c5), (6, c6), (7, .int .i64 z1.1), (8, .int .i64 z4.1.k), (9, .int .i64 z4.1.n), (10, str z4.1.s), (11, .int .i64 z7.1), (12, .slice oAbr12_1 ((y.2.2.2.2.2).length) ocbr12_1), (13, c13), (14, c14), (15, c15)])] :: []) := HS
    refine o_callM HE rfl HS rfl rfl T.g62 hcall ?_ (fun _ _ _ _ _ _ h => h.elim)
    clear HE HS; rintro _ G2 _ w a HS hle2 ⟨z', hz', rfl, Aq, cq, hcq, hR2, rfl⟩ HE
    rw [← hz53] at hz'; have hz2 := hz'.symm; subst hz2
    exact ⟨_, _, (0, Aq, cq, []), hle2, ⟨hl.trans hle2, fun _ => ⟨hcq, hR2⟩, fun h => (hWo h).le hle2, fun h => (by have h' : f 10 = true := h; rw [n10] at h'; cases h'), (by show St w0 G [br] G2 w (bif (f 14) then ((g 10).2.2.2 :: [(br, Cells 77 [(0, .slice Aq z53.2.1.length cq), (1, .int .i64 z53.2.2), (2, c2), (3, c3), (4, c4), (5, c5), (6, c6), (7, .int .i64 z1.1), (8, .int .i64 z4.1.k), (9, .int .i64 z4.1.n), (10, str z4.1.s), (11, .int .i64 z7.1), (12, .slice (g 10).2.1 (y.2.2.2.2.2 ++ [z53.1]).length (g 10).2.2.1), (13, c13), (14, c14), (15, c15)])] :: []) else (bif (f 10) then ((g 10).2.2.2 :: [((g 9).1, Cells 23 [(0, .int .i64 z53.1.k), (1, .int .i64 z53.1.n), (2, str z53.1.s)])] :: [(br, Cells 77 [(0, .slice Aq z53.2.1.length cq), (1, .int .i64 z53.2.2), (2, c2), (3, c3), (4, c4), (5, c5), (6, c6), (7, .int .i64 z1.1), (8, .int .i64 z4.1.k), (9, .int .i64 z4.1.n), (10, str z4.1.s), (11, .int .i64 z7.1), (12, .slice oAbr12_1 ((y.2.2.2.2.2).length) ocbr12_1), (13, c13), (14, c14), (15, c15)])] :: []) else (bif (f 9) then ([((g 9).1, Cells 23 [(0, .int .i64 z53.1.k), (1, .int .i64 z53.1.n), (2, str z53.1.s)])] :: oCbr12_1 :: [(br, Cells 77 [(0, .slice Aq z53.2.1.length cq), (1, .int .i64 z53.2.2), (2, c2), (3, c3), (4, c4), (5, c5), (6, c6), (7, .int .i64 z1.1), (8, .int .i64 z4.1.k), (9, .int .i64 z4.1.n), (10, str z4.1.s), (11, .int .i64 z7.1), (12, .slice oAbr12_1 ((y.2.2.2.2.2).length) ocbr12_1), (13, c13), (14, c14), (15, c15)])] :: []) else (bif true then (oCbr12_1 :: [(br, Cells 77 [(0, .slice Aq z53.2.1.length cq), (1, .int .i64 z53.2.2), (2, c2), (3, c3), (4, c4), (5, c5), (6, c6), (7, .int .i64 z1.1), (8, .int .i64 z4.1.k), (9, .int .i64 z4.1.n), (10, str z4.1.s), (11, .int .i64 z7.1), (12, .slice oAbr12_1 ((y.2.2.2.2.2).length) ocbr12_1), (13, c13), (14, c14), (15, c15)])] :: []) else (oCbr12_1 :: [(br, Cells 77 [(0, .slice y.2.2.1 y.2.1.length y.2.2.2.1), (1, .int .i64 y.2.2.2.2.1), (2, c2), (3, c3), (4, c4), (5, c5), (6, c6), (7, .int .i64 z1.1), (8, .int .i64 z4.1.k), (9, .int .i64 z4.1.n), (10, str z4.1.s), (11, .int .i64 z7.1), (12, .slice oAbr12_1 ((y.2.2.2.2.2).length) ocbr12_1), (13, c13), (14, c14), (15, c15)])] :: []))))); rw [n14, n10, n9]; exact HS)⟩, fun d hd => (by cases hd; exact HE.get _ _ rfl), HE.defers, fun q hq => by obtain rfl := Option.some.inj hq; exact rfl⟩
   ·intro a w G1 f hcl hfi hon hW HE hp hO; obtain ⟨hl, hWc, hWo, hWn, HS⟩ := hW
    obtain ⟨_, e8, rfl⟩ := hp 8 58 _ (hon 8 rfl) rfl rfl; replace HE := HE.add e8
    have n10 : f 10 = false := by
     cases h : f 10 with
     | false => rfl
     | true => have h_9 := hcl 10 _ rfl h 9 rfl; rw [hfi] at h_9; cases h_9
    have n14 : f 14 = false := by
     cases h : f 14 with
     | false => rfl
     | true => have h_9 := hcl 14 _ rfl h 10 rfl; rw [n10] at h_9; cases h_9
    have hcc := hon 8 rfl
    rw [n14, n10, hfi, hcc] at HS; simp only [cond_false, cond_true] at HS
    refine o_buildSl (cs := #[.int .i64 z53.1.k, .int .i64 z53.1.n, str z53.1.s]) [(0, _), (1, _), (2, _)] HE rfl HS rfl T.l24 (by kernel_rfl) ⟨rfl, rfl, rfl, trivial⟩ ?_
    clear HE HS; intro bb w a HS HE
    exact ⟨_, _, (bb, none, 0, []), Heap.le.refl _, ⟨hl, hWc, hWo, hWn, (by show St w0 G [br] G1 w (bif (f 14) then ((g 10).2.2.2 :: [(br, Cells 77 [(0, .slice (g 8).2.1 z53.2.1.length (g 8).2.2.1), (1, .int .i64 z53.2.2), (2, c2), (3, c3), (4, c4), (5, c5), (6, c6), (7, .int .i64 z1.1), (8, .int .i64 z4.1.k), (9, .int .i64 z4.1.n), (10, str z4.1.s), (11, .int .i64 z7.1), (12, .slice (g 10).2.1 (y.2.2.2.2.2 ++ [z53.1]).length (g 10).2.2.1), (13, c13), (14, c14), (15, c15)])] :: []) else (bif (f 10) then ((g 10).2.2.2 :: [(bb, Cells 23 [(0, .int .i64 z53.1.k), (1, .int .i64 z53.1.n), (2, str z53.1.s)])] :: [(br, Cells 77 [(0, .slice (g 8).2.1 z53.2.1.length (g 8).2.2.1), (1, .int .i64 z53.2.2), (2, c2), (3, c3), (4, c4), (5, c5), (6, c6), (7, .int .i64 z1.1), (8, .int .i64 z4.1.k), (9, .int .i64 z4.1.n), (10, str z4.1.s), (11, .int .i64 z7.1), (12, .slice oAbr12_1 ((y.2.2.2.2.2).length) ocbr12_1), (13, c13), (14, c14), (15, c15)])] :: []) else (bif true then ([(bb, Cells 23 [(0, .int .i64 z53.1.k), (1, .int .i64 z53.1.n), (2, str z53.1.s)])] :: oCbr12_1 :: [(br, Cells 77 [(0, .slice (g 8).2.1 z53.2.1.length (g 8).2.2.1), (1, .int .i64 z53.2.2), (2, c2), (3, c3), (4, c4), (5, c5), (6, c6), (7, .int .i64 z1.1), (8, .int .i64 z4.1.k), (9, .int .i64 z4.1.n), (10, str z4.1.s), (11, .int .i64 z7.1), (12, .slice oAbr12_1 ((y.2.2.2.2.2).length) ocbr12_1), (13, c13), (14, c14), (15, c15)])] :: []) else (bif (f 8) then (oCbr12_1 :: [(br, Cells 77 [(0, .slice (g 8).2.1 z53.2.1.length (g 8).2.2.1), (1, .int .i64 z53.2.2), (2, c2), (3, c3), (4, c4), (5, c5), (6, c6), (7, .int .i64 z1.1), (8, .int .i64 z4.1.k), (9, .int .i64 z4.1.n), (10, str z4.1.s), (11, .int .i64 z7.1), (12, .slice oAbr12_1 ((y.2.2.2.2.2).length) ocbr12_1), (13, c13), (14, c14), (15, c15)])] :: []) else (oCbr12_1 :: [(br, Cells 77 [(0, .slice y.2.2.1 y.2.1.length y.2.2.2.1), (1, .int .i64 y.2.2.2.2.1), (2, c2), (3, c3), (4, c4), (5, c5), (6, c6), (7, .int .i64 z1.1), (8, .int .i64 z4.1.k), (9, .int .i64 z4.1.n), (10, str z4.1.s), (11, .int .i64 z7.1), (12, .slice oAbr12_1 ((y.2.2.2.2.2).length) ocbr12_1), (13, c13), (14, c14), (15, c15)])] :: []))))); rw [n14, n10]; exact HS)⟩, fun d hd => (by cases hd; exact HE.get _ _ rfl), HE.defers, fun q hq => by obtain rfl := Option.some.inj hq; exact rfl⟩
   ·intro a w G1 f hcl hfi hon hW HE hp hO; obtain ⟨hl, hWc, hWo, hWn, HS⟩ := hW
    obtain ⟨_, e5, rfl⟩ := hp 5 55 _ (hon 5 rfl) rfl rfl; replace HE := HE.add e5
    obtain ⟨_, e9, rfl⟩ := hp 9 59 _ (hon 9 rfl) rfl rfl; replace HE := HE.add e9
    have n14 : f 14 = false := by
     cases h : f 14 with
     | false => rfl
     | true => have h_9 := hcl 14 _ rfl h 10 rfl; rw [hfi] at h_9; cases h_9
    have hcc := hon 9 rfl
    have hcall := hcl 9 _ rfl hcc 8 rfl
    have hOo := hWo hfi
    rw [n14, hfi, hcc] at HS; simp only [cond_false, cond_true] at HS
    refine o_appendL (K := kVal) (ys := [z53.1]) (n := 3) HE rfl HS (.there .here) hOo rfl rfl T.p24 (.here .here) rfl ⟨rfl, rfl⟩ rfl rfl (by (simp; omega)) (by (simp; omega)) ?_
    clear HE HS; intro Aq cq Cq w a HS hO2 HE
    exact ⟨_, _, (0, Aq, cq, Cq), Heap.le.refl _, ⟨hl, hWc, fun h => (by cases h), fun _ => hO2, (by show St w0 G [br] G1 w (bif (f 14) then (Cq :: [(br, Cells 77 [(0, .slice (g 8).2.1 z53.2.1.length (g 8).2.2.1), (1, .int .i64 z53.2.2), (2, c2), (3, c3), (4, c4), (5, c5), (6, c6), (7, .int .i64 z1.1), (8, .int .i64 z4.1.k), (9, .int .i64 z4.1.n), (10, str z4.1.s), (11, .int .i64 z7.1), (12, .slice Aq (y.2.2.2.2.2 ++ [z53.1]).length cq), (13, c13), (14, c14), (15, c15)])] :: []) else (bif true then (Cq :: [((g 9).1, Cells 23 [(0, .int .i64 z53.1.k), (1, .int .i64 z53.1.n), (2, str z53.1.s)])] :: [(br, Cells 77 [(0, .slice (g 8).2.1 z53.2.1.length (g 8).2.2.1), (1, .int .i64 z53.2.2), (2, c2), (3, c3), (4, c4), (5, c5), (6, c6), (7, .int .i64 z1.1), (8, .int .i64 z4.1.k), (9, .int .i64 z4.1.n), (10, str z4.1.s), (11, .int .i64 z7.1), (12, .slice oAbr12_1 ((y.2.2.2.2.2).length) ocbr12_1), (13, c13), (14, c14), (15, c15)])] :: []) else (bif (f 9) then ([((g 9).1, Cells 23 [(0, .int .i64 z53.1.k), (1, .int .i64 z53.1.n), (2, str z53.1.s)])] :: oCbr12_1 :: [(br, Cells 77 [(0, .slice (g 8).2.1 z53.2.1.length (g 8).2.2.1), (1, .int .i64 z53.2.2), (2, c2), (3, c3), (4, c4), (5, c5), (6, c6), (7, .int .i64 z1.1), (8, .int .i64 z4.1.k), (9, .int .i64 z4.1.n), (10, str z4.1.s), (11, .int .i64 z7.1), (12, .slice oAbr12_1 ((y.2.2.2.2.2).length) ocbr12_1), (13, c13), (14, c14), (15, c15)])] :: []) else (bif (f 8) then (oCbr12_1 :: [(br, Cells 77 [(0, .slice (g 8).2.1 z53.2.1.length (g 8).2.2.1), (1, .int .i64 z53.2.2), (2, c2), (3, c3), (4, c4), (5, c5), (6, c6), (7, .int .i64 z1.1), (8, .int .i64 z4.1.k), (9, .int .i64 z4.1.n), (10, str z4.1.s), (11, .int .i64 z7.1), (12, .slice oAbr12_1 ((y.2.2.2.2.2).length) ocbr12_1), (13, c13), (14, c14), (15, c15)])] :: []) else (oCbr12_1 :: [(br, Cells 77 [(0, .slice y.2.2.1 y.2.1.length y.2.2.2.1), (1, .int .i64 y.2.2.2.2.1), (2, c2), (3, c3), (4, c4), (5, c5), (6, c6), (7, .int .i64 z1.1), (8, .int .i64 z4.1.k), (9, .int .i64 z4.1.n), (10, str z4.1.s), (11, .int .i64 z7.1), (12, .slice oAbr12_1 ((y.2.2.2.2.2).length) ocbr12_1), (13, c13), (14, c14), (15, c15)])] :: []))))); rw [n14]; exact HS)⟩, fun d hd => (by cases hd; exact HE.get _ _ rfl), HE.defers, fun q hq => by obtain rfl := Option.some.inj hq; exact rfl⟩
   ·intro a w G1 f hcl hfi hon hW HE hp hO; obtain ⟨hl, hWc, hWo, hWn, HS⟩ := hW
    obtain ⟨_, e0, rfl⟩ := hp 0 50 _ (hon 0 rfl) rfl rfl; replace HE := HE.add e0
    refine o_nil HE rfl rfl ?_; clear HE; intro a HE
    exact ⟨_, _, (0, none, 0, []), Heap.le.refl _, ⟨hl, hWc, hWo, hWn, HS⟩, fun d hd => (by cases hd; exact HE.get _ _ rfl), HE.defers, fun q hq => by obtain rfl := Option.some.inj hq; exact rfl⟩
   ·intro a w G1 f hcl hfi hon hW HE hp hO; obtain ⟨hl, hWc, hWo, hWn, HS⟩ := hW
    obtain ⟨_, e11, rfl⟩ := hp 11 61 _ (hon 11 rfl) rfl rfl; replace HE := HE.add e11
    refine o_fld HE rfl rfl T.f77_1 ?_; clear HE; intro a HE
    exact ⟨_, _, (0, none, 0, []), Heap.le.refl _, ⟨hl, hWc, hWo, hWn, HS⟩, fun d hd => (by cases hd; exact HE.get _ _ rfl), HE.defers, fun q hq => by obtain rfl := Option.some.inj hq; exact rfl⟩
   ·intro a w G1 f hcl hfi hon hW HE hp hO; obtain ⟨hl, hWc, hWo, hWn, HS⟩ := hW
    obtain ⟨_, e12, rfl⟩ := hp 12 62 _ (hon 12 rfl) rfl rfl; replace HE := HE.add e12
    refine o_fld HE rfl rfl T.f26_6 ?_; clear HE; intro a HE
    exact ⟨_, _, (0, none, 0, []), Heap.le.refl _, ⟨hl, hWc, hWo, hWn, HS⟩, fun d hd => (by cases hd; exact HE.get _ _ rfl), HE.defers, fun q hq => by obtain rfl := Option.some.inj hq; exact rfl⟩
   ·intro a w G1 f hcl hfi hon hW HE hp hO; obtain ⟨hl, hWc, hWo, hWn, HS⟩ := hW
    obtain ⟨_, e13, rfl⟩ := hp 13 63 _ (hon 13 rfl) rfl rfl; replace HE := HE.add e13
    obtain ⟨_, e10, rfl⟩ := hp 10 60 _ (hon 10 rfl) rfl rfl; replace HE := HE.add e10
    have hcc := hon 10 rfl
    rw [hfi, hcc] at HS; simp only [cond_false, cond_true] at HS
    refine o_st HE HS rfl rfl rfl T.s24 (.there (.there (.here .here))) rfl ?_; clear HS; intro w HS
    replace HS := HS.conv (L2 := [(0, .slice (g 8).2.1 z53.2.1.length (g 8).2.2.1), (1, .int .i64 z53.2.2), (2, c2), (3, c3), (4, c4), (5, c5), (6, c6), (7, .int .i64 z1.1), (8, .int .i64 z4.1.k), (9, .int .i64 z4.1.n), (10, str z4.1.s), (11, .int .i64 z7.1), (12, .slice (g 10).2.1 (y.2.2.2.2.2 ++ [z53.1]).length (g 10).2.2.1), (13, c13), (14, c14), (15, c15)]) (.there (.there (.here .here))) ⟨rfl, rfl, rfl, rfl, rfl, rfl, rfl, rfl, rfl, rfl, rfl, rfl, rfl, rfl, rfl, rfl, trivial⟩
    exact ⟨.bool true, _, (0, none, 0, []), Heap.le.refl _, ⟨hl, hWc, hWo, hWn, HS.drop (sub_keep (sub_drop (List.Sublist.refl _)))⟩, fun d hd => (by cases hd), HE.defers, fun q hq => by obtain rfl := Option.some.inj hq; trivial⟩
   clear HE HS; intro a w G54 g f hle55 hall HW HE hp; obtain ⟨_, hWc, _, hWn, HS⟩ := HW
   obtain ⟨hcp56, hR56⟩ := hWc (hall 8 (by decide)); have oH56 := hWn (hall 10 (by decide)); rw [hall 14 (by decide)] at HS; simp only [cond_true] at HS; clear hWc hWn hp hall
   generalize (g 8).2.1 = vA56 at *; generalize (g 8).2.2.1 = vc56 at *; generalize (g 10).2.1 = oA56 at *; generalize (g 10).2.2.1 = oc56 at *; generalize (g 10).2.2.2 = oC56 at *
   replace hR := hR.le hle55
   replace hg0 := hg0.le hle55
   replace hg1 := hg1.le hle55
   replace hgm := hgm.le hle55
   replace hgo := hgo.le hle55
   replace hR2 := hR2.le hle55
   replace hR5 := hR5.le hle55
   replace hR8 := hR8.le hle55
   replace hR14 := hR14.le hle55
   replace hRy := hRy.le hle55
   have hlsz53 : ∀ x ∈ z53.2.1, x.length ≤ 4294967280 := by rw [hz53, value_left]; exact (next_len hlsy).2.1
   have hvwz53 : z53.1.Wf := by rw [hz53]; exact value_wf hlsy
   refine hK49 _ _ ?_; clear hK49
   refine wp_region_lit ?_
   refine rn 2 HE HS ?_; clear HE HS; intro a w HE HS
   have hnx : argsL (argsD z1.1 z7.1).1 z7.2.1 z7.2.2 = ((y.2.2.2.2.2 ++ [z53.1]) ++ (argsL ((argsD z1.1 z7.1).1.drop (y.1 + 1)) z53.2.1 z53.2.2).1, (argsL ((argsD z1.1 z7.1).1.drop (y.1 + 1)) z53.2.1 z53.2.2).2) := by
    rw [hy2, argsL_step (j := y.1) (by simpa using ex51), ← hz53, List.append_assoc]
    rfl
   exact ⟨(y.1 + 1, z53.2.1, vA56, vc56, z53.2.2, y.2.2.2.2.2 ++ [z53.1]), ⟨_, _, _, _, (hle44.trans hle55), HS, HE.cut ⟨rfl, rfl, rfl, rfl, trivial⟩, oH56, ⟨by show y.1 + 1 ≤ _; omega, hnx, hcp56, hR56, hlsz53, by simp; omega⟩⟩, by show (argsD z1.1 z7.1).1.length - (y.1 + 1) < _; omega⟩
  ·have h48 := nm h48r
   refine wp_exit ?_
   show Q .normal _ _
   refine retN hQ HE rfl .nil ?_
   have hcphR58 := oHbr12_1.cap
   obtain ⟨G57, hle59, HS', hR58⟩ := X.Own.still HS .here oHbr12_1; clear HS; have HS := HS'; clear HS'
   replace hR := hR.le hle59
   replace hg0 := hg0.le hle59
   replace hg1 := hg1.le hle59
   replace hgm := hgm.le hle59
   replace hgo := hgo.le hle59
   replace hR2 := hR2.le hle59
   replace hR5 := hR5.le hle59
   replace hR8 := hR8.le hle59
   replace hR14 := hR14.le hle59
   replace hRy := hRy.le hle59
   have hj9 : y.1 = (argsD z1.1 z7.1).1.length := by omega
   rw [List.drop_of_length_le (by omega)] at hy2
   have he : invS l e = (z1.1, z4.1, z7.1, y.2.2.2.2.2, y.2.1, y.2.2.2.2.1) := by
    unfold invS
    dsimp only
    rw [← hz1, ← hz4, ← hz7, if_neg (by rw [h18r]; decide), hy2]
    simp only [argsL, List.append_nil]
   exact ⟨_, [(br, Cells 77 [(0, .slice y.2.2.1 y.2.1.length y.2.2.2.1), (1, .int .i64 y.2.2.2.2.1), (2, c2), (3, c3), (4, c4), (5, c5), (6, c6), (7, .int .i64 z1.1), (8, .int .i64 z4.1.k), (9, .int .i64 z4.1.n), (10, str z4.1.s), (11, .int .i64 z7.1), (12, .slice oAbr12_1 ((y.2.2.2.2.2).length) ocbr12_1), (13, c13), (14, c14), (15, c15)])], HS.stop (by simp), _, rfl, rfl, by rw [he]; exact ⟨_, _, _, _, hcy, hRy, hcphR58, hR58, rfl⟩⟩

/-! `(*incognito/event.reader).all` -/
set_option maxRecDepth 100000 in
set_option maxHeartbeats 4000000 in
theorem c_all10 (br : Nat) (l : List Bs) (A : Option Addr) (c : Nat) (c14 c15 : Value) {W0 : World} {H0 : Heap} {L0 : List Nat} {M0 : List Chunk} (w0 : World) (G : Heap) (hS0 : St W0 H0 L0 G w0 ([(br, Cells 77 [(0, .slice A l.length c), (1, .int .i64 0), (2, .int .i64 0), (3, .int .i64 0), (4, .int .i64 0), (5, str []), (6, .int .i64 0), (7, .int .i64 0), (8, .int .i64 0), (9, .int .i64 0), (10, str []), (11, .int .i64 0), (12, .slice none 0 0), (13, .slice none 0 0), (14, c14), (15, c15)])] :: M0)) (hR : Rd Knd.s G A l) (hc : l.length ≤ c) (hls : ∀ x ∈ l, x.length ≤ 4294967280) (hg0 : CellsAt G 1 0 [.int .i64 3, .int .i64 1, str []]) (hg1 : CellsAt G 2 0 [.int .i64 3, .int .i64 0, str []]) (hgm : CellsAt G 3 0 [str [], str [114, 101, 103], str [99, 97, 115], str [115, 101, 116], str [109, 97, 112], str [102, 105, 102, 111], str [115, 116, 97, 99, 107], str [108, 111, 99, 107], str [99, 111, 117, 110, 116], str [109, 97, 120], str [111, 109, 97, 112]]) (hgo : CellsAt G 4 0 [str [], str [119, 114, 105, 116, 101], str [114, 101, 97, 100], str [115, 119, 97, 112], str [97, 100, 100], str [100, 101, 108], str [104, 97, 115], str [112, 117, 116], str [103, 101, 116], str [112, 117, 115, 104], str [112, 111, 112], str [116, 97, 107, 101], str [102, 114, 101, 101], str [115, 99, 97, 110]]) (hgn : CellsAt G 0 0 [str [], str [105, 110, 118, 111, 107, 101], str [111, 107], str [102, 97, 105, 108], str [105, 110, 102, 111]]) (hl : l.length ≤ 4294967281):
  Calls Tryz.prog 42 #[.pointer (some ⟨br, 0, none⟩)] w0 (X.Ends w0 G [br] (fun v G' C' => ∃ z, z = allS l ∧ v = .tuple #[] ∧ ∃ A' c' A1 c1 A2 d2, z.2.1.length ≤ c' ∧ Rd Knd.s G' A' z.2.1 ∧ z.1.args.length ≤ c1 ∧ Rd kVal G' A1 z.1.args ∧ z.1.out.length ≤ d2 ∧ Rd kVal G' A2 z.1.out ∧ C' = [(br, Cells 77 [(0, .slice A' z.2.1.length c'), (1, .int .i64 z.2.2), (2, .int .i64 z.1.time), (3, .int .i64 z.1.client.k), (4, .int .i64 z.1.client.n), (5, str z.1.client.s), (6, .int .i64 z.1.type), (7, .int .i64 z.1.model), (8, .int .i64 z.1.key.k), (9, .int .i64 z.1.key.n), (10, str z.1.key.s), (11, .int .i64 z.1.op), (12, .slice A1 z.1.args.length c1), (13, .slice A2 z.1.out.length d2), (14, c14), (15, c15)])]) (fun _ _ _ => False)) := by
 refine enter Tryz.func42 rfl Tryz.ntmps42 rfl ?_
 intro Q hQ a HE
 have HS := St.start (C := [(br, Cells 77 [(0, .slice A l.length c), (1, .int .i64 0), (2, .int .i64 0), (3, .int .i64 0), (4, .int .i64 0), (5, str []), (6, .int .i64 0), (7, .int .i64 0), (8, .int .i64 0), (9, .int .i64 0), (10, str []), (11, .int .i64 0), (12, .slice none 0 0), (13, .slice none 0 0), (14, c14), (15, c15)])]) hS0.sub (fun p hp => hS0.mem p (by simp only [List.flatten_cons, List.mem_append]; exact .inl hp)) (fun p hp => hS0.sep p (by simp only [List.flatten_cons, List.mem_append]; exact .inl hp)) (by simp [X.keys])
 change St w0 G [br] G w0 _ at HS
 refine sr fun K hK => ?_
 refine rn 3 HE HS ?_; clear HE HS; intro a w HE HS
 have hcall2 := c_next br l _ _ 0 (.int .i64 0) (.int .i64 0) (.int .i64 0) (str []) (.int .i64 0) (.int .i64 0) (.int .i64 0) (.int .i64 0) (str []) (.int .i64 0) (.slice none 0 0) (.slice none 0 0) c14 c15 _ _ (HS.front (C := [(br, Cells 77 [(0, .slice A l.length c), (1, .int .i64 0), (2, .int .i64 0), (3, .int .i64 0), (4, .int .i64 0), (5, str []), (6, .int .i64 0), (7, .int .i64 0), (8, .int .i64 0), (9, .int .i64 0), (10, str []), (11, .int .i64 0), (12, .slice none 0 0), (13, .slice none 0 0), (14, c14), (15, c15)])]) .here) hR hc hls 
 replace HS : St w0 G [br] G _ ([] ++ [(br, Cells 77 [(0, .slice A l.length c), (1, .int .i64 0), (2, .int .i64 0), (3, .int .i64 0), (4, .int .i64 0), (5, str []), (6, .int .i64 0), (7, .int .i64 0), (8, .int .i64 0), (9, .int .i64 0), (10, str []), (11, .int .i64 0), (12, .slice none 0 0), (13, .slice none 0 0), (14, c14), (15, c15)])] :: []) := HS
 refine o_callM HE rfl HS rfl rfl T.g60 hcall2 ?_ (fun _ _ _ _ _ _ h => h.elim)
 clear HE HS; rintro _ G2 _ w a HS hle2 ⟨z1, hz1, rfl, vA2, vc2, hcp2, hR2, rfl⟩ HE; clear hcall2
 replace hR := hR.le hle2
 replace hg0 := hg0.le hle2
 replace hg1 := hg1.le hle2
 replace hgm := hgm.le hle2
 replace hgo := hgo.le hle2
 replace hgn := hgn.le hle2
 have hlsz1 : ∀ x ∈ z1.2.1, x.length ≤ 4294967280 := by rw [hz1]; exact (next_len hls).2.1
 have hlnz1 : z1.2.1.length ≤ (l).length := by rw [hz1]; exact (next_len hls).2.2
 have hlwz1 : z1.1.length ≤ 4294967280 := by rw [hz1]; exact (next_len hls).1
 refine o_callP HE rfl HS rfl rfl T.g59 (c_count z1.1 9223372036854775807 _ _ HS.sub (by first | assumption | decide) (by first | omega | (simp; done) | (simp; omega))) ?_
 clear HE HS; rintro _ w a HS rfl HE
 refine rn 5 HE HS ?_; clear HE HS; intro a w HE HS
 apply hK; clear hK K
 refine sr fun K hK => ?_
 refine rn 4 HE HS ?_; clear HE HS; intro a w HE HS
 have hcall4 := c_fault br z1.2.2 (erv (countS z1.1 9223372036854775807)) (.slice vA2 z1.2.1.length vc2) (.int .i64 0) (.int .i64 0) (.int .i64 0) (str []) (.int .i64 0) (.int .i64 0) (.int .i64 0) (.int .i64 0) (str []) (.int .i64 0) (.slice none 0 0) (.slice none 0 0) c14 c15 _ _ (HS.front (C := [(br, Cells 77 [(0, .slice vA2 z1.2.1.length vc2), (1, .int .i64 z1.2.2), (2, .int .i64 0), (3, .int .i64 0), (4, .int .i64 0), (5, str []), (6, .int .i64 0), (7, .int .i64 0), (8, .int .i64 0), (9, .int .i64 0), (10, str []), (11, .int .i64 0), (12, .slice none 0 0), (13, .slice none 0 0), (14, c14), (15, c15)])]) .here)
 replace HS : St w0 G [br] G2 _ ([] ++ [(br, Cells 77 [(0, .slice vA2 z1.2.1.length vc2), (1, .int .i64 z1.2.2), (2, .int .i64 0), (3, .int .i64 0), (4, .int .i64 0), (5, str []), (6, .int .i64 0), (7, .int .i64 0), (8, .int .i64 0), (9, .int .i64 0), (10, str []), (11, .int .i64 0), (12, .slice none 0 0), (13, .slice none 0 0), (14, c14), (15, c15)])] :: []) := HS
 refine o_callM HE rfl HS rfl rfl T.g61 hcall4 ?_ (fun _ _ _ _ _ _ h => h.elim)
 clear HE HS; rintro _ G4 _ w a HS hle4 ⟨rfl, rfl⟩ HE; clear hcall4
 replace hR := hR.le hle4
 replace hg0 := hg0.le hle4
 replace hg1 := hg1.le hle4
 replace hgm := hgm.le hle4
 replace hgo := hgo.le hle4
 replace hgn := hgn.le hle4
 replace hR2 := hR2.le hle4
 apply hK; clear hK K
 refine sr fun K hK => ?_
 refine rn 6 HE HS ?_; clear HE HS; intro a w HE HS
 apply hK; clear hK K
 refine sr fun K hK => ?_
 refine rn 2 HE HS ?_; clear HE HS; intro a w HE HS
 have hcall8 := c_value br z1.2.1 _ _ (faultS z1.2.2 (erv (countS z1.1 9223372036854775807))) (.int .i64 (okv (countS z1.1 9223372036854775807))) (.int .i64 0) (.int .i64 0) (str []) (.int .i64 0) (.int .i64 0) (.int .i64 0) (.int .i64 0) (str []) (.int .i64 0) (.slice none 0 0) (.slice none 0 0) c14 c15 0 _ _ (HS.front (C := [(br, Cells 77 [(0, .slice vA2 z1.2.1.length vc2), (1, .int .i64 (faultS z1.2.2 (erv (countS z1.1 9223372036854775807)))), (2, .int .i64 (okv (countS z1.1 9223372036854775807))), (3, .int .i64 0), (4, .int .i64 0), (5, str []), (6, .int .i64 0), (7, .int .i64 0), (8, .int .i64 0), (9, .int .i64 0), (10, str []), (11, .int .i64 0), (12, .slice none 0 0), (13, .slice none 0 0), (14, c14), (15, c15)])]) .here) hR2 hcp2 hlsz1 hg0 hg1
 replace HS : St w0 G [br] G4 _ ([] ++ [(br, Cells 77 [(0, .slice vA2 z1.2.1.length vc2), (1, .int .i64 (faultS z1.2.2 (erv (countS z1.1 9223372036854775807)))), (2, .int .i64 (okv (countS z1.1 9223372036854775807))), (3, .int .i64 0), (4, .int .i64 0), (5, str []), (6, .int .i64 0), (7, .int .i64 0), (8, .int .i64 0), (9, .int .i64 0), (10, str []), (11, .int .i64 0), (12, .slice none 0 0), (13, .slice none 0 0), (14, c14), (15, c15)])] :: []) := HS
 refine o_callM HE rfl HS rfl rfl T.g62 hcall8 ?_ (fun _ _ _ _ _ _ h => h.elim)
 clear HE HS; rintro _ G8 _ w a HS hle8 ⟨z7, hz7, rfl, vA8, vc8, hcp8, hR8, rfl⟩ HE; clear hcall8
 replace hR := hR.le hle8
 replace hg0 := hg0.le hle8
 replace hg1 := hg1.le hle8
 replace hgm := hgm.le hle8
 replace hgo := hgo.le hle8
 replace hgn := hgn.le hle8
 replace hR2 := hR2.le hle8
 have hlsz7 : ∀ x ∈ z7.2.1, x.length ≤ 4294967280 := by rw [hz7, value_left]; exact (next_len hlsz1).2.1
 have hlnz7 : z7.2.1.length ≤ (z1.2.1).length := by rw [hz7, value_left]; exact (next_len hlsz1).2.2
 have hvwz7 : z7.1.Wf := by rw [hz7]; exact value_wf hlsz1
 refine rn 4 HE HS ?_; clear HE HS; intro a w HE HS
 apply hK; clear hK K
 refine sr fun K hK => ?_
 refine rn 2 HE HS ?_; clear HE HS; intro a w HE HS
 have hcall11 := c_number1 br z7.2.1 _ _ z7.2.2 (.int .i64 (okv (countS z1.1 9223372036854775807))) (.int .i64 z7.1.k) (.int .i64 z7.1.n) (str z7.1.s) (.int .i64 0) (.int .i64 0) (.int .i64 0) (.int .i64 0) (str []) (.int .i64 0) (.slice none 0 0) (.slice none 0 0) c14 c15 _ _ (HS.front (C := [(br, Cells 77 [(0, .slice vA8 z7.2.1.length vc8), (1, .int .i64 z7.2.2), (2, .int .i64 (okv (countS z1.1 9223372036854775807))), (3, .int .i64 z7.1.k), (4, .int .i64 z7.1.n), (5, str z7.1.s), (6, .int .i64 0), (7, .int .i64 0), (8, .int .i64 0), (9, .int .i64 0), (10, str []), (11, .int .i64 0), (12, .slice none 0 0), (13, .slice none 0 0), (14, c14), (15, c15)])]) .here) hR8 hcp8 hlsz7 hgn
 replace HS : St w0 G [br] G8 _ ([] ++ [(br, Cells 77 [(0, .slice vA8 z7.2.1.length vc8), (1, .int .i64 z7.2.2), (2, .int .i64 (okv (countS z1.1 9223372036854775807))), (3, .int .i64 z7.1.k), (4, .int .i64 z7.1.n), (5, str z7.1.s), (6, .int .i64 0), (7, .int .i64 0), (8, .int .i64 0), (9, .int .i64 0), (10, str []), (11, .int .i64 0), (12, .slice none 0 0), (13, .slice none 0 0), (14, c14), (15, c15)])] :: []) := HS
 refine o_callM HE rfl HS rfl rfl T.g63 hcall11 ?_ (fun _ _ _ _ _ _ h => h.elim)
 clear HE HS; rintro _ G11 _ w a HS hle11 ⟨z10, hz10, rfl, vA11, vc11, hcp11, hR11, rfl⟩ HE; clear hcall11
 replace hR := hR.le hle11
 replace hg0 := hg0.le hle11
 replace hg1 := hg1.le hle11
 replace hgm := hgm.le hle11
 replace hgo := hgo.le hle11
 replace hgn := hgn.le hle11
 replace hR2 := hR2.le hle11
 replace hR8 := hR8.le hle11
 have hlsz10 : ∀ x ∈ z10.2.1, x.length ≤ 4294967280 := by rw [hz10]; unfold numberS; exact (next_len hlsz7).2.1
 have hlnz10 : z10.2.1.length ≤ (z7.2.1).length := by rw [hz10]; unfold numberS; exact (next_len hlsz7).2.2
 refine rn 4 HE HS ?_; clear HE HS; intro a w HE HS
 apply hK; clear hK K
 refine wp_seq_k (fun K14 hK13 => ?_)
 refine sr fun K hK => ?_
 refine rn 5 HE HS ?_; clear HE HS; intro a w HE HS
 apply hK; clear hK K
 refine wp_block ?_
 refine sr fun K hK => ?_
 refine rn 2 HE HS ?_; clear HE HS; intro a w HE HS
 apply hK; clear hK K
 refine cond HE rfl (fun h17r => ?_) (fun h17r => ?_)
 ·have h17 := nm h17r
  refine wp_region_lit ?_
  refine rn 1 HE HS ?_; clear HE HS; intro a w HE HS
  have hcall19 := c_invoked br z10.2.1 _ _ z10.2.2 (.int .i64 (okv (countS z1.1 9223372036854775807))) (.int .i64 z7.1.k) (.int .i64 z7.1.n) (str z7.1.s) (.int .i64 z10.1) (.int .i64 0) (.int .i64 0) (.int .i64 0) (str []) (.int .i64 0) (.slice none 0 0) c14 c15 _ _ (HS.front (C := [(br, Cells 77 [(0, .slice vA11 z10.2.1.length vc11), (1, .int .i64 z10.2.2), (2, .int .i64 (okv (countS z1.1 9223372036854775807))), (3, .int .i64 z7.1.k), (4, .int .i64 z7.1.n), (5, str z7.1.s), (6, .int .i64 z10.1), (7, .int .i64 0), (8, .int .i64 0), (9, .int .i64 0), (10, str []), (11, .int .i64 0), (12, .slice none 0 0), (13, .slice none 0 0), (14, c14), (15, c15)])]) .here) hR11 hcp11 hlsz10 hg0 hg1 hgm hgo
  replace HS : St w0 G [br] G11 _ ([] ++ [(br, Cells 77 [(0, .slice vA11 z10.2.1.length vc11), (1, .int .i64 z10.2.2), (2, .int .i64 (okv (countS z1.1 9223372036854775807))), (3, .int .i64 z7.1.k), (4, .int .i64 z7.1.n), (5, str z7.1.s), (6, .int .i64 z10.1), (7, .int .i64 0), (8, .int .i64 0), (9, .int .i64 0), (10, str []), (11, .int .i64 0), (12, .slice none 0 0), (13, .slice none 0 0), (14, c14), (15, c15)])] :: []) := HS
  refine o_callM HE rfl HS rfl rfl T.g65 hcall19 ?_ (fun _ _ _ _ _ _ h => h.elim)
  clear HE HS; rintro _ G19 _ w a HS hle19 ⟨z18, hz18, rfl, vA19, vc19, vB19, vd19, hcp19, hR19, hap19, hA19, rfl⟩ HE; clear hcall19
  replace hR := hR.le hle19
  replace hg0 := hg0.le hle19
  replace hg1 := hg1.le hle19
  replace hgm := hgm.le hle19
  replace hgo := hgo.le hle19
  replace hgn := hgn.le hle19
  replace hR2 := hR2.le hle19
  replace hR8 := hR8.le hle19
  replace hR11 := hR11.le hle19
  refine hK13 _ _ ?_; clear hK13
  refine sr fun K hK => ?_
  refine rn 7 HE HS ?_; clear HE HS; intro a w HE HS
  apply hK; clear hK K
  refine cond HE rfl (fun h21r => ?_) (fun h21r => ?_)
  ·have h21 := nm h21r
   refine wp_region_lit ?_
   refine rn 3 HE HS ?_; clear HE HS; intro a w HE HS
   have hcall22 := c_fault br z18.2.2.2.2.2 2 (.slice vA19 z18.2.2.2.2.1.length vc19) (.int .i64 (okv (countS z1.1 9223372036854775807))) (.int .i64 z7.1.k) (.int .i64 z7.1.n) (str z7.1.s) (.int .i64 z10.1) (.int .i64 z18.1) (.int .i64 z18.2.1.k) (.int .i64 z18.2.1.n) (str z18.2.1.s) (.int .i64 z18.2.2.1) (.slice vB19 z18.2.2.2.1.length vd19) (.slice none 0 0) c14 c15 _ _ (HS.front (C := [(br, Cells 77 [(0, .slice vA19 z18.2.2.2.2.1.length vc19), (1, .int .i64 z18.2.2.2.2.2), (2, .int .i64 (okv (countS z1.1 9223372036854775807))), (3, .int .i64 z7.1.k), (4, .int .i64 z7.1.n), (5, str z7.1.s), (6, .int .i64 z10.1), (7, .int .i64 z18.1), (8, .int .i64 z18.2.1.k), (9, .int .i64 z18.2.1.n), (10, str z18.2.1.s), (11, .int .i64 z18.2.2.1), (12, .slice vB19 z18.2.2.2.1.length vd19), (13, .slice none 0 0), (14, c14), (15, c15)])]) .here)
   replace HS : St w0 G [br] G19 _ ([] ++ [(br, Cells 77 [(0, .slice vA19 z18.2.2.2.2.1.length vc19), (1, .int .i64 z18.2.2.2.2.2), (2, .int .i64 (okv (countS z1.1 9223372036854775807))), (3, .int .i64 z7.1.k), (4, .int .i64 z7.1.n), (5, str z7.1.s), (6, .int .i64 z10.1), (7, .int .i64 z18.1), (8, .int .i64 z18.2.1.k), (9, .int .i64 z18.2.1.n), (10, str z18.2.1.s), (11, .int .i64 z18.2.2.1), (12, .slice vB19 z18.2.2.2.1.length vd19), (13, .slice none 0 0), (14, c14), (15, c15)])] :: []) := HS
   refine o_callM HE rfl HS rfl rfl T.g61 hcall22 ?_ (fun _ _ _ _ _ _ h => h.elim)
   clear HE HS; rintro _ G22 _ w a HS hle22 ⟨rfl, rfl⟩ HE; clear hcall22
   replace hR := hR.le hle22
   replace hg0 := hg0.le hle22
   replace hg1 := hg1.le hle22
   replace hgm := hgm.le hle22
   replace hgo := hgo.le hle22
   replace hgn := hgn.le hle22
   replace hR2 := hR2.le hle22
   replace hR8 := hR8.le hle22
   replace hR11 := hR11.le hle22
   replace hR19 := hR19.le hle22
   replace hA19 := hA19.le hle22
   show Q .normal _ _
   refine retN hQ HE rfl .nil ?_
   have he : allS l = ((⟨okv (countS z1.1 9223372036854775807), z7.1, z10.1, z18.1, z18.2.1, z18.2.2.1, z18.2.2.2.1, [], false, []⟩ : Evt), z18.2.2.2.2.1, faultS z18.2.2.2.2.2 2) := by
    unfold allS
    dsimp only
    rw [← hz1, ← hz7, ← hz10]
    rw [if_pos h17, ← hz18]
    dsimp only
    rw [if_pos (by omega)]
   exact ⟨_, [(br, Cells 77 [(0, .slice vA19 z18.2.2.2.2.1.length vc19), (1, .int .i64 (faultS z18.2.2.2.2.2 2)), (2, .int .i64 (okv (countS z1.1 9223372036854775807))), (3, .int .i64 z7.1.k), (4, .int .i64 z7.1.n), (5, str z7.1.s), (6, .int .i64 z10.1), (7, .int .i64 z18.1), (8, .int .i64 z18.2.1.k), (9, .int .i64 z18.2.1.n), (10, str z18.2.1.s), (11, .int .i64 z18.2.2.1), (12, .slice vB19 z18.2.2.2.1.length vd19), (13, .slice none 0 0), (14, c14), (15, c15)])], HS.stop (by simp), _, rfl, rfl, by rw [he]; exact ⟨_, _, _, _, _, _, hcp19, hR19, hap19, hA19, Nat.zero_le _, .nil, rfl⟩⟩
  ·have h21 := nm h21r
   refine wp_skip ?_
   show Q .normal _ _
   refine retN hQ HE rfl .nil ?_
   have he : allS l = ((⟨okv (countS z1.1 9223372036854775807), z7.1, z10.1, z18.1, z18.2.1, z18.2.2.1, z18.2.2.2.1, [], false, []⟩ : Evt), z18.2.2.2.2.1, z18.2.2.2.2.2) := by
    unfold allS
    dsimp only
    rw [← hz1, ← hz7, ← hz10]
    rw [if_pos h17, ← hz18]
    dsimp only
    rw [if_neg (by omega)]
   exact ⟨_, [(br, Cells 77 [(0, .slice vA19 z18.2.2.2.2.1.length vc19), (1, .int .i64 z18.2.2.2.2.2), (2, .int .i64 (okv (countS z1.1 9223372036854775807))), (3, .int .i64 z7.1.k), (4, .int .i64 z7.1.n), (5, str z7.1.s), (6, .int .i64 z10.1), (7, .int .i64 z18.1), (8, .int .i64 z18.2.1.k), (9, .int .i64 z18.2.1.n), (10, str z18.2.1.s), (11, .int .i64 z18.2.2.1), (12, .slice vB19 z18.2.2.2.1.length vd19), (13, .slice none 0 0), (14, c14), (15, c15)])], HS.stop (by simp), _, rfl, rfl, by rw [he]; exact ⟨_, _, _, _, _, _, hcp19, hR19, hap19, hA19, Nat.zero_le _, .nil, rfl⟩⟩
 ·have h17 := nm h17r
  refine sr fun K hK => ?_
  refine rn 1 HE HS ?_; clear HE HS; intro a w HE HS
  skip
  refine rn 1 HE HS ?_; clear HE HS; intro a w HE HS
  apply hK; clear hK K
  refine cond HE rfl (fun h24r => ?_) (fun h24r => ?_)
  ·have h24 := nm h24r
   refine wp_block ?_
   replace HS := HS.nilChunk
   have oH26 : X.Own kVal 23 G11 none 0 ([] : List Val) [] := X.Own.nil
   refine loop (fun (y : List Bs × Option Addr × Nat × Int × List Val) a' w' => ∃ (oAbr13_1 : Option Addr) (ocbr13_1 : Nat) (oCbr13_1 : Chunk), ∃ GL27, Heap.le G11 GL27 ∧ St w0 G [br] GL27 w' [oCbr13_1, [(br, Cells 77 [(0, .slice y.2.1 y.1.length y.2.2.1), (1, .int .i64 y.2.2.2.1), (2, .int .i64 (okv (countS z1.1 9223372036854775807))), (3, .int .i64 z7.1.k), (4, .int .i64 z7.1.n), (5, str z7.1.s), (6, .int .i64 z10.1), (7, .int .i64 0), (8, .int .i64 0), (9, .int .i64 0), (10, str []), (11, .int .i64 0), (12, .slice none 0 0), (13, .slice oAbr13_1 ((y.2.2.2.2).length) ocbr13_1), (14, c14), (15, c15)])]] ∧ Env a' 84 [] [(0, .pointer (some ⟨br, 0, none⟩))] ∧ X.Own kVal 23 GL27 oAbr13_1 ocbr13_1 (y.2.2.2.2) oCbr13_1 ∧ (outL z10.2.1 z10.2.2 = (y.2.2.2.2 ++ (outL y.1 y.2.2.2.1).1, (outL y.1 y.2.2.2.1).2) ∧ y.1.length ≤ y.2.2.1 ∧ Rd Knd.s GL27 y.2.1 y.1 ∧ (∀ x ∈ y.1, x.length ≤ 4294967280) ∧ y.2.2.2.2.length + y.1.length ≤ l.length)) (fun (y : List Bs × Option Addr × Nat × Int × List Val) => y.1.length) (z10.2.1, vA11, vc11, z10.2.2, []) ⟨_, _, _, _, Heap.le.refl _, HS, HE.cut ⟨rfl, trivial⟩, oH26, ⟨rfl, hcp11, hR11, hlsz10, by simp; omega⟩⟩ ?_
   clear HE HS; intro y a w ⟨oAbr13_1, ocbr13_1, oCbr13_1, GL27, hle28, HS, HE, oHbr13_1, ⟨hy1, hcy, hRy, hlsy, hy5⟩⟩
   replace hR := hR.le hle28
   replace hg0 := hg0.le hle28
   replace hg1 := hg1.le hle28
   replace hgm := hgm.le hle28
   replace hgo := hgo.le hle28
   replace hgn := hgn.le hle28
   replace hR2 := hR2.le hle28
   replace hR8 := hR8.le hle28
   replace hR11 := hR11.le hle28
   refine wp_seq_k (fun K30 hK29 => ?_)
   refine sr fun K hK => ?_
   refine rn 7 HE HS ?_; clear HE HS; intro a w HE HS
   refine cutG 8 59 (.bool ((decide (y.2.2.2.1 = 0)) && (decide (0 < (y.1.length : Int))))) HE HS ?_ ?_
   ·refine bsp HE (t := 51) rfl (fun hb31 => ?_) (fun hb31 => ?_)
    ·have hk32 := nm hb31
     refine rn 8 HE HS ?_; clear HE HS; intro a w HE HS
     exact ⟨HS, HE.cutT (by rw [hb31] <;> rfl)⟩
    ·skip
     refine rn 8 HE HS ?_; clear HE HS; intro a w HE HS
     exact ⟨HS, HE.cutT (by rw [hb31] <;> rfl)⟩
   clear HE HS; intro a w HE HS
   apply hK; clear hK K
   refine cond HE rfl (fun h34r => ?_) (fun h34r => ?_)
   ·have h34 := nm h34r
    refine wp_skip ?_
    refine hK29 _ _ ?_; clear hK29
    refine wp_block ?_
    obtain ⟨z35, hz35⟩ : ∃ z, z = valueS (-1) y.1 y.2.2.2.1 := ⟨_, rfl⟩
    replace HE := HE.cut (L' := [(0, .pointer (some ⟨br, 0, none⟩)), (45, .pointer (some ⟨br, 0, none⟩)), (46, .pointer (some ⟨br, 0, none⟩)), (47, .pointer (some ⟨br, 0, none⟩)), (48, .pointer (some ⟨br, 1, none⟩)), (49, .int .i64 y.2.2.2.1), (50, .bool (decide (y.2.2.2.1 = 0))), (51, .bool (decide (y.2.2.2.1 = 0))), (59, .bool ((decide (y.2.2.2.1 = 0)) && (decide (0 < (y.1.length : Int)))))]) ⟨rfl, rfl, rfl, rfl, rfl, rfl, rfl, rfl, rfl, trivial⟩
    refine drawnH ((0, none, 0, []) : Nat × Option Addr × Nat × Chunk) (fun g f G' w => Heap.le GL27 G' ∧ (f 7 = true → z35.2.1.length ≤ (g 7).2.2.1 ∧ Rd Knd.s G' (g 7).2.1 z35.2.1) ∧ (f 9 = false → X.Own kVal 23 G' oAbr13_1 ocbr13_1 y.2.2.2.2 oCbr13_1) ∧ (f 9 = true → X.Own kVal 23 G' (g 9).2.1 (g 9).2.2.1 (y.2.2.2.2 ++ [z35.1]) (g 9).2.2.2) ∧ St w0 G [br] G' w (bif (f 13) then ((g 9).2.2.2 :: [(br, Cells 77 [(0, .slice (g 7).2.1 z35.2.1.length (g 7).2.2.1), (1, .int .i64 z35.2.2), (2, .int .i64 (okv (countS z1.1 9223372036854775807))), (3, .int .i64 z7.1.k), (4, .int .i64 z7.1.n), (5, str z7.1.s), (6, .int .i64 z10.1), (7, .int .i64 0), (8, .int .i64 0), (9, .int .i64 0), (10, str []), (11, .int .i64 0), (12, .slice none 0 0), (13, .slice (g 9).2.1 (y.2.2.2.2 ++ [z35.1]).length (g 9).2.2.1), (14, c14), (15, c15)])] :: []) else (bif (f 9) then ((g 9).2.2.2 :: [((g 8).1, Cells 23 [(0, .int .i64 z35.1.k), (1, .int .i64 z35.1.n), (2, str z35.1.s)])] :: [(br, Cells 77 [(0, .slice (g 7).2.1 z35.2.1.length (g 7).2.2.1), (1, .int .i64 z35.2.2), (2, .int .i64 (okv (countS z1.1 9223372036854775807))), (3, .int .i64 z7.1.k), (4, .int .i64 z7.1.n), (5, str z7.1.s), (6, .int .i64 z10.1), (7, .int .i64 0), (8, .int .i64 0), (9, .int .i64 0), (10, str []), (11, .int .i64 0), (12, .slice none 0 0), (13, .slice oAbr13_1 ((y.2.2.2.2).length) ocbr13_1), (14, c14), (15, c15)])] :: []) else (bif (f 8) then ([((g 8).1, Cells 23 [(0, .int .i64 z35.1.k), (1, .int .i64 z35.1.n), (2, str z35.1.s)])] :: oCbr13_1 :: [(br, Cells 77 [(0, .slice (g 7).2.1 z35.2.1.length (g 7).2.2.1), (1, .int .i64 z35.2.2), (2, .int .i64 (okv (countS z1.1 9223372036854775807))), (3, .int .i64 z7.1.k), (4, .int .i64 z7.1.n), (5, str z7.1.s), (6, .int .i64 z10.1), (7, .int .i64 0), (8, .int .i64 0), (9, .int .i64 0), (10, str []), (11, .int .i64 0), (12, .slice none 0 0), (13, .slice oAbr13_1 ((y.2.2.2.2).length) ocbr13_1), (14, c14), (15, c15)])] :: []) else (bif (f 7) then (oCbr13_1 :: [(br, Cells 77 [(0, .slice (g 7).2.1 z35.2.1.length (g 7).2.2.1), (1, .int .i64 z35.2.2), (2, .int .i64 (okv (countS z1.1 9223372036854775807))), (3, .int .i64 z7.1.k), (4, .int .i64 z7.1.n), (5, str z7.1.s), (6, .int .i64 z10.1), (7, .int .i64 0), (8, .int .i64 0), (9, .int .i64 0), (10, str []), (11, .int .i64 0), (12, .slice none 0 0), (13, .slice oAbr13_1 ((y.2.2.2.2).length) ocbr13_1), (14, c14), (15, c15)])] :: []) else (oCbr13_1 :: [(br, Cells 77 [(0, .slice y.2.1 y.1.length y.2.2.1), (1, .int .i64 y.2.2.2.1), (2, .int .i64 (okv (countS z1.1 9223372036854775807))), (3, .int .i64 z7.1.k), (4, .int .i64 z7.1.n), (5, str z7.1.s), (6, .int .i64 z10.1), (7, .int .i64 0), (8, .int .i64 0), (9, .int .i64 0), (10, str []), (11, .int .i64 0), (12, .slice none 0 0), (13, .slice oAbr13_1 ((y.2.2.2.2).length) ocbr13_1), (14, c14), (15, c15)])] :: [])))))) (fun g => [fun v _ => v = .pointer (some ⟨br, 0, none⟩), fun v _ => v = .pointer (some ⟨br, 0, none⟩), fun v _ => v = .pointer (some ⟨br, 0, none⟩), fun v _ => v = .pointer (some ⟨br, 2, none⟩), fun v _ => v = .pointer (some ⟨br, 13, none⟩), fun v _ => v = .slice oAbr13_1 ((y.2.2.2.2).length) ocbr13_1, fun v _ => v = .pointer (some ⟨br, 0, none⟩), fun v _ => v = .agg #[.int .i64 z35.1.k, .int .i64 z35.1.n, str z35.1.s], fun v _ => v = .slice (some ⟨(g 8).1, 0, none⟩) 1 1, fun v _ => v = .slice (g 9).2.1 (y.2.2.2.2 ++ [z35.1]).length (g 9).2.2.1, fun v _ => v = .pointer (some ⟨br, 0, none⟩), fun v _ => v = .pointer (some ⟨br, 2, none⟩), fun v _ => v = .pointer (some ⟨br, 13, none⟩), fun _ _ => True]) [] T.mix rfl HE ⟨Heap.le.refl _, fun h => (by cases h), fun _ => oHbr13_1, fun h => (by cases h), HS.drew⟩ rfl (by simp) (fun g g' j h => match j, h with | 0, _ => rfl | 1, _ => rfl | 2, _ => rfl | 3, _ => rfl | 4, _ => rfl | 5, _ => rfl | 6, _ => rfl | 7, _ => rfl | 10, _ => rfl | 11, _ => rfl | 12, _ => rfl | 13, _ => rfl | 8, h => by show some (fun v _ => v = Value.slice (some ⟨(g 8).1, 0, none⟩) 1 1) = some (fun v _ => v = Value.slice (some ⟨(g' 8).1, 0, none⟩) 1 1); rw [h] | 9, h => by show some (fun v _ => v = Value.slice (g 9).2.1 (y.2.2.2.2 ++ [z35.1]).length (g 9).2.2.1) = some (fun v _ => v = Value.slice (g' 9).2.1 (y.2.2.2.2 ++ [z35.1]).length (g' 9).2.2.1); rw [h] | n + 14, _ => rfl) (fun g => AllM.get ⟨fun _ _ _ _ h => h, fun _ _ _ _ h => h, fun _ _ _ _ h => h, fun _ _ _ _ h => h, fun _ _ _ _ h => h, fun _ _ _ _ h => h, fun _ _ _ _ h => h, fun _ _ _ _ h => h, fun _ _ _ _ h => h, fun _ _ _ _ h => h, fun _ _ _ _ h => h, fun _ _ _ _ h => h, fun _ _ _ _ h => h, fun _ _ _ _ h => h, trivial⟩) (fun g => ⟨?_, ?_, ?_, ?_, ?_, ?_, ?_, ?_, ?_, ?_, ?_, ?_, ?_, ?_, trivial⟩) ?_
    ·intro a w G1 f hcl hfi hon hW HE hp hO; obtain ⟨hl, hWc, hWo, hWn, HS⟩ := hW
     refine o_move HE rfl rfl ?_; clear HE; intro a HE
     exact ⟨_, _, (0, none, 0, []), Heap.le.refl _, ⟨hl, hWc, hWo, hWn, HS⟩, fun d hd => (by cases hd; exact HE.get _ _ rfl), HE.defers, fun q hq => by obtain rfl := Option.some.inj hq; exact rfl⟩
    ·intro a w G1 f hcl hfi hon hW HE hp hO; obtain ⟨hl, hWc, hWo, hWn, HS⟩ := hW
     refine o_move HE rfl rfl ?_; clear HE; intro a HE
     exact ⟨_, _, (0, none, 0, []), Heap.le.refl _, ⟨hl, hWc, hWo, hWn, HS⟩, fun d hd => (by cases hd; exact HE.get _ _ rfl), HE.defers, fun q hq => by obtain rfl := Option.some.inj hq; exact rfl⟩
    ·intro a w G1 f hcl hfi hon hW HE hp hO; obtain ⟨hl, hWc, hWo, hWn, HS⟩ := hW
     obtain ⟨_, e1, rfl⟩ := hp 1 61 _ (hon 1 rfl) rfl rfl; replace HE := HE.add e1
     refine o_nil HE rfl rfl ?_; clear HE; intro a HE
     exact ⟨_, _, (0, none, 0, []), Heap.le.refl _, ⟨hl, hWc, hWo, hWn, HS⟩, fun d hd => (by cases hd; exact HE.get _ _ rfl), HE.defers, fun q hq => by obtain rfl := Option.some.inj hq; exact rfl⟩
    ·intro a w G1 f hcl hfi hon hW HE hp hO; obtain ⟨hl, hWc, hWo, hWn, HS⟩ := hW
     obtain ⟨_, e2, rfl⟩ := hp 2 62 _ (hon 2 rfl) rfl rfl; replace HE := HE.add e2
     refine o_fld HE rfl rfl T.f77_1 ?_; clear HE; intro a HE
     exact ⟨_, _, (0, none, 0, []), Heap.le.refl _, ⟨hl, hWc, hWo, hWn, HS⟩, fun d hd => (by cases hd; exact HE.get _ _ rfl), HE.defers, fun q hq => by obtain rfl := Option.some.inj hq; exact rfl⟩
    ·intro a w G1 f hcl hfi hon hW HE hp hO; obtain ⟨hl, hWc, hWo, hWn, HS⟩ := hW
     obtain ⟨_, e3, rfl⟩ := hp 3 63 _ (hon 3 rfl) rfl rfl; replace HE := HE.add e3
     refine o_fld HE rfl rfl T.f26_7 ?_; clear HE; intro a HE
     exact ⟨_, _, (0, none, 0, []), Heap.le.refl _, ⟨hl, hWc, hWo, hWn, HS⟩, fun d hd => (by cases hd; exact HE.get _ _ rfl), HE.defers, fun q hq => by obtain rfl := Option.some.inj hq; exact rfl⟩
    ·intro a w G1 f hcl hfi hon hW HE hp hO; obtain ⟨hl, hWc, hWo, hWn, HS⟩ := hW
     obtain ⟨_, e4, rfl⟩ := hp 4 64 _ (hon 4 rfl) rfl rfl; replace HE := HE.add e4
     have n9 : f 9 = false := by
      cases h : f 9 with
      | false => rfl
      | true => have h_9 := hcl 9 _ rfl h 5 rfl; rw [hfi] at h_9; cases h_9
     have n13 : f 13 = false := by
      cases h : f 13 with
      | false => rfl
      | true => have h_9 := hcl 13 _ rfl h 9 rfl; rw [n9] at h_9; cases h_9
     have HS2 := HS
     rw [n9, n13] at HS; simp only [cond_false] at HS
     cases hb : f 8 with
     | true =>
      rw [hb] at HS; simp only [cond_true] at HS
      refine o_ld HE rfl HS rfl T.s24 (.there (.there (.here .here))) rfl ?_; clear HE; intro a HE
      exact ⟨_, _, (0, none, 0, []), Heap.le.refl _, ⟨hl, hWc, hWo, hWn, HS2⟩, fun d hd => (by cases hd; exact HE.get _ _ rfl), HE.defers, fun q hq => by obtain rfl := Option.some.inj hq; exact rfl⟩
     | false =>
      rw [hb] at HS; simp only [cond_false] at HS
      cases hcc : f 7 with
      | true =>
       rw [hcc] at HS; simp only [cond_true] at HS
       refine o_ld HE rfl HS rfl T.s24 (.there (.here .here)) rfl ?_; clear HE; intro a HE
       exact ⟨_, _, (0, none, 0, []), Heap.le.refl _, ⟨hl, hWc, hWo, hWn, HS2⟩, fun d hd => (by cases hd; exact HE.get _ _ rfl), HE.defers, fun q hq => by obtain rfl := Option.some.inj hq; exact rfl⟩
      | false =>
       rw [hcc] at HS; simp only [cond_false] at HS
       refine o_ld HE rfl HS rfl T.s24 (.there (.here .here)) rfl ?_; clear HE; intro a HE
       exact ⟨_, _, (0, none, 0, []), Heap.le.refl _, ⟨hl, hWc, hWo, hWn, HS2⟩, fun d hd => (by cases hd; exact HE.get _ _ rfl), HE.defers, fun q hq => by obtain rfl := Option.some.inj hq; exact rfl⟩
    ·intro a w G1 f hcl hfi hon hW HE hp hO; obtain ⟨hl, hWc, hWo, hWn, HS⟩ := hW
     refine o_move HE rfl rfl ?_; clear HE; intro a HE
     exact ⟨_, _, (0, none, 0, []), Heap.le.refl _, ⟨hl, hWc, hWo, hWn, HS⟩, fun d hd => (by cases hd; exact HE.get _ _ rfl), HE.defers, fun q hq => by obtain rfl := Option.some.inj hq; exact rfl⟩
    ·intro a w G1 f hcl hfi hon hW HE hp hO; obtain ⟨hl, hWc, hWo, hWn, HS⟩ := hW
     obtain ⟨_, e6, rfl⟩ := hp 6 66 _ (hon 6 rfl) rfl rfl; replace HE := HE.add e6
     have n8 : f 8 = false := by
      cases h : f 8 with
      | false => rfl
      | true => have h_9 := hcl 8 _ rfl h 7 rfl; rw [hfi] at h_9; cases h_9
     have n9 : f 9 = false := by
      cases h : f 9 with
      | false => rfl
      | true => have h_9 := hcl 9 _ rfl h 8 rfl; rw [n8] at h_9; cases h_9
     have n13 : f 13 = false := by
      cases h : f 13 with
      | false => rfl
      | true => have h_9 := hcl 13 _ rfl h 9 rfl; rw [n9] at h_9; cases h_9
     rw [n13, n9, n8, hfi] at HS; simp only [cond_false] at HS
     have hcall := c_value br y.1 _ _ y.2.2.2.1 (.int .i64 (okv (countS z1.1 9223372036854775807))) (.int .i64 z7.1.k) (.int .i64 z7.1.n) (str z7.1.s) (.int .i64 z10.1) (.int .i64 0) (.int .i64 0) (.int .i64 0) (str []) (.int .i64 0) (.slice none 0 0) (.slice oAbr13_1 ((y.2.2.2.2).length) ocbr13_1) c14 c15 (-1) _ _ (HS.front (C := [(br, Cells 77 [(0, .slice y.2.1 y.1.length y.2.2.1), (1, .int .i64 y.2.2.2.1), (2, .int .i64 (okv (countS z1.1 9223372036854775807))), (3, .int .i64 z7.1.k), (4, .int .i64 z7.1.n), (5, str z7.1.s), (6, .int .i64 z10.1), (7, .int .i64 0), (8, .int .i64 0), (9, .int .i64 0), (10, str []), (11, .int .i64 0), (12, .slice none 0 0), (13, .slice oAbr13_1 ((y.2.2.2.2).length) ocbr13_1), (14, c14), (15, c15)])]) (.there .here)) (hRy.le hl) hcy hlsy (hg0.le hl) (hg1.le hl)
     replace HS : St w0 G [br] G1 _ ([oCbr13_1] ++ [(br, Cells 77 [(0, .slice y.2.1 y.1.length y.2.2.1), (1, .int .i64 y.2.2.2.1), (2, .int .i64 (okv (countS z1.1 9223372036854775807))), (3, .int .i64 z7.1.k), (4, .int .i64 z7.1.n), (5, str z7.1.s), (6, .int .i64 z10.1), (7, .int .i64 0), (8, .int .i64 0), (9, .int .i64 0), (10, str []), (11, .int .i64 0), (12, .slice none 0 0), (13, .slice oAbr13_1 ((y.2.2.2.2).length) ocbr13_1), (14, c14), (15, c15)])] :: []) := HS
     refine o_callM HE rfl HS rfl rfl T.g62 hcall ?_ (fun _ _ _ _ _ _ h => h.elim)
     clear HE HS; rintro _ G2 _ w a HS hle2 ⟨z', hz', rfl, Aq, cq, hcq, hR2, rfl⟩ HE
     rw [← hz35] at hz'; have hz2 := hz'.symm; subst hz2
     exact ⟨_, _, (0, Aq, cq, []), hle2, ⟨hl.trans hle2, fun _ => ⟨hcq, hR2⟩, fun h => (hWo h).le hle2, fun h => (by have h' : f 9 = true := h; rw [n9] at h'; cases h'), (by show St w0 G [br] G2 w (bif (f 13) then ((g 9).2.2.2 :: [(br, Cells 77 [(0, .slice Aq z35.2.1.length cq), (1, .int .i64 z35.2.2), (2, .int .i64 (okv (countS z1.1 9223372036854775807))), (3, .int .i64 z7.1.k), (4, .int .i64 z7.1.n), (5, str z7.1.s), (6, .int .i64 z10.1), (7, .int .i64 0), (8, .int .i64 0), (9, .int .i64 0), (10, str []), (11, .int .i64 0), (12, .slice none 0 0), (13, .slice (g 9).2.1 (y.2.2.2.2 ++ [z35.1]).length (g 9).2.2.1), (14, c14), (15, c15)])] :: []) else (bif (f 9) then ((g 9).2.2.2 :: [((g 8).1, Cells 23 [(0, .int .i64 z35.1.k), (1, .int .i64 z35.1.n), (2, str z35.1.s)])] :: [(br, Cells 77 [(0, .slice Aq z35.2.1.length cq), (1, .int .i64 z35.2.2), (2, .int .i64 (okv (countS z1.1 9223372036854775807))), (3, .int .i64 z7.1.k), (4, .int .i64 z7.1.n), (5, str z7.1.s), (6, .int .i64 z10.1), (7, .int .i64 0), (8, .int .i64 0), (9, .int .i64 0), (10, str []), (11, .int .i64 0), (12, .slice none 0 0), (13, .slice oAbr13_1 ((y.2.2.2.2).length) ocbr13_1), (14, c14), (15, c15)])] :: []) else (bif (f 8) then ([((g 8).1, Cells 23 [(0, .int .i64 z35.1.k), (1, .int .i64 z35.1.n), (2, str z35.1.s)])] :: oCbr13_1 :: [(br, Cells 77 [(0, .slice Aq z35.2.1.length cq), (1, .int .i64 z35.2.2), (2, .int .i64 (okv (countS z1.1 9223372036854775807))), (3, .int .i64 z7.1.k), (4, .int .i64 z7.1.n), (5, str z7.1.s), (6, .int .i64 z10.1), (7, .int .i64 0), (8, .int .i64 0), (9, .int .i64 0), (10, str []), (11, .int .i64 0), (12, .slice none 0 0), (13, .slice oAbr13_1 ((y.2.2.2.2).length) ocbr13_1), (14, c14), (15, c15)])] :: []) else (bif true then (oCbr13_1 :: [(br, Cells 77 [(0, .slice Aq z35.2.1.length cq), (1, .int .i64 z35.2.2), (2, .int .i64 (okv (countS z1.1 9223372036854775807))), (3, .int .i64 z7.1.k), (4, .int .i64 z7.1.n), (5, str z7.1.s), (6, .int .i64 z10.1), (7, .int .i64 0), (8, .int .i64 0), (9, .int .i64 0), (10, str []), (11, .int .i64 0), (12, .slice none 0 0), (13, .slice oAbr13_1 ((y.2.2.2.2).length) ocbr13_1), (14, c14), (15, c15)])] :: []) else (oCbr13_1 :: [(br, Cells 77 [(0, .slice y.2.1 y.1.length y.2.2.1), (1, .int .i64 y.2.2.2.1), (2, .int .i64 (okv (countS z1.1 9223372036854775807))), (3, .int .i64 z7.1.k), (4, .int .i64 z7.1.n), (5, str z7.1.s), (6, .int .i64 z10.1), (7, .int .i64 0), (8, .int .i64 0), (9, .int .i64 0), (10, str []), (11, .int .i64 0), (12, .slice none 0 0), (13, .slice oAbr13_1 ((y.2.2.2.2).length) ocbr13_1), (14, c14), (15, c15)])] :: []))))); rw [n13, n9, n8]; exact HS)⟩, fun d hd => (by cases hd; exact HE.get _ _ rfl), HE.defers, fun q hq => by obtain rfl := Option.some.inj hq; exact rfl⟩
    ·intro a w G1 f hcl hfi hon hW HE hp hO; obtain ⟨hl, hWc, hWo, hWn, HS⟩ := hW
     obtain ⟨_, e7, rfl⟩ := hp 7 67 _ (hon 7 rfl) rfl rfl; replace HE := HE.add e7
     have n9 : f 9 = false := by
      cases h : f 9 with
      | false => rfl
      | true => have h_9 := hcl 9 _ rfl h 8 rfl; rw [hfi] at h_9; cases h_9
     have n13 : f 13 = false := by
      cases h : f 13 with
      | false => rfl
      | true => have h_9 := hcl 13 _ rfl h 9 rfl; rw [n9] at h_9; cases h_9
     have hcc := hon 7 rfl
     rw [n13, n9, hfi, hcc] at HS; simp only [cond_false, cond_true] at HS
     refine o_buildSl (cs := #[.int .i64 z35.1.k, .int .i64 z35.1.n, str z35.1.s]) [(0, _), (1, _), (2, _)] HE rfl HS rfl T.l24 (by kernel_rfl) ⟨rfl, rfl, rfl, trivial⟩ ?_
     clear HE HS; intro bb w a HS HE
     exact ⟨_, _, (bb, none, 0, []), Heap.le.refl _, ⟨hl, hWc, hWo, hWn, (by show St w0 G [br] G1 w (bif (f 13) then ((g 9).2.2.2 :: [(br, Cells 77 [(0, .slice (g 7).2.1 z35.2.1.length (g 7).2.2.1), (1, .int .i64 z35.2.2), (2, .int .i64 (okv (countS z1.1 9223372036854775807))), (3, .int .i64 z7.1.k), (4, .int .i64 z7.1.n), (5, str z7.1.s), (6, .int .i64 z10.1), (7, .int .i64 0), (8, .int .i64 0), (9, .int .i64 0), (10, str []), (11, .int .i64 0), (12, .slice none 0 0), (13, .slice (g 9).2.1 (y.2.2.2.2 ++ [z35.1]).length (g 9).2.2.1), (14, c14), (15, c15)])] :: []) else (bif (f 9) then ((g 9).2.2.2 :: [(bb, Cells 23 [(0, .int .i64 z35.1.k), (1, .int .i64 z35.1.n), (2, str z35.1.s)])] :: [(br, Cells 77 [(0, .slice (g 7).2.1 z35.2.1.length (g 7).2.2.1), (1, .int .i64 z35.2.2), (2, .int .i64 (okv (countS z1.1 9223372036854775807))), (3, .int .i64 z7.1.k), (4, .int .i64 z7.1.n), (5, str z7.1.s), (6, .int .i64 z10.1), (7, .int .i64 0), (8, .int .i64 0), (9, .int .i64 0), (10, str []), (11, .int .i64 0), (12, .slice none 0 0), (13, .slice oAbr13_1 ((y.2.2.2.2).length) ocbr13_1), (14, c14), (15, c15)])] :: []) else (bif true then ([(bb, Cells 23 [(0, .int .i64 z35.1.k), (1, .int .i64 z35.1.n), (2, str z35.1.s)])] :: oCbr13_1 :: [(br, Cells 77 [(0, .slice (g 7).2.1 z35.2.1.length (g 7).2.2.1), (1, .int .i64 z35.2.2), (2, .int .i64 (okv (countS z1.1 9223372036854775807))), (3, .int .i64 z7.1.k), (4, .int .i64 z7.1.n), (5, str z7.1.s), (6, .int .i64 z10.1), (7, .int .i64 0), (8, .int .i64 0), (9, .int .i64 0), (10, str []), (11, .int .i64 0), (12, .slice none 0 0), (13, .slice oAbr13_1 ((y.2.2.2.2).length) ocbr13_1), (14, c14), (15, c15)])] :: []) else (bif (f 7) then (oCbr13_1 :: [(br, Cells 77 [(0, .slice (g 7).2.1 z35.2.1.length (g 7).2.2.1), (1, .int .i64 z35.2.2), (2, .int .i64 (okv (countS z1.1 9223372036854775807))), (3, .int .i64 z7.1.k), (4, .int .i64 z7.1.n), (5, str z7.1.s), (6, .int .i64 z10.1), (7, .int .i64 0), (8, .int .i64 0), (9, .int .i64 0), (10, str []), (11, .int .i64 0), (12, .slice none 0 0), (13, .slice oAbr13_1 ((y.2.2.2.2).length) ocbr13_1), (14, c14), (15, c15)])] :: []) else (oCbr13_1 :: [(br, Cells 77 [(0, .slice y.2.1 y.1.length y.2.2.1), (1, .int .i64 y.2.2.2.1), (2, .int .i64 (okv (countS z1.1 9223372036854775807))), (3, .int .i64 z7.1.k), (4, .int .i64 z7.1.n), (5, str z7.1.s), (6, .int .i64 z10.1), (7, .int .i64 0), (8, .int .i64 0), (9, .int .i64 0), (10, str []), (11, .int .i64 0), (12, .slice none 0 0), (13, .slice oAbr13_1 ((y.2.2.2.2).length) ocbr13_1), (14, c14), (15, c15)])] :: []))))); rw [n13, n9]; exact HS)⟩, fun d hd => (by cases hd; exact HE.get _ _ rfl), HE.defers, fun q hq => by obtain rfl := Option.some.inj hq; exact rfl⟩
    ·intro a w G1 f hcl hfi hon hW HE hp hO; obtain ⟨hl, hWc, hWo, hWn, HS⟩ := hW
     obtain ⟨_, e5, rfl⟩ := hp 5 65 _ (hon 5 rfl) rfl rfl; replace HE := HE.add e5
     obtain ⟨_, e8, rfl⟩ := hp 8 68 _ (hon 8 rfl) rfl rfl; replace HE := HE.add e8
     have n13 : f 13 = false := by
      cases h : f 13 with
      | false => rfl
      | true => have h_9 := hcl 13 _ rfl h 9 rfl; rw [hfi] at h_9; cases h_9
     have hcc := hon 8 rfl
     have hcall := hcl 8 _ rfl hcc 7 rfl
     have hOo := hWo hfi
     rw [n13, hfi, hcc] at HS; simp only [cond_false, cond_true] at HS
     refine o_appendL (K := kVal) (ys := [z35.1]) (n := 3) HE rfl HS (.there .here) hOo rfl rfl T.p24 (.here .here) rfl ⟨rfl, rfl⟩ rfl rfl (by (simp; omega)) (by (simp; omega)) ?_
     clear HE HS; intro Aq cq Cq w a HS hO2 HE
     exact ⟨_, _, (0, Aq, cq, Cq), Heap.le.refl _, ⟨hl, hWc, fun h => (by cases h), fun _ => hO2, (by show St w0 G [br] G1 w (bif (f 13) then (Cq :: [(br, Cells 77 [(0, .slice (g 7).2.1 z35.2.1.length (g 7).2.2.1), (1, .int .i64 z35.2.2), (2, .int .i64 (okv (countS z1.1 9223372036854775807))), (3, .int .i64 z7.1.k), (4, .int .i64 z7.1.n), (5, str z7.1.s), (6, .int .i64 z10.1), (7, .int .i64 0), (8, .int .i64 0), (9, .int .i64 0), (10, str []), (11, .int .i64 0), (12, .slice none 0 0), (13, .slice Aq (y.2.2.2.2 ++ [z35.1]).length cq), (14, c14), (15, c15)])] :: []) else (bif true then (Cq :: [((g 8).1, Cells 23 [(0, .int .i64 z35.1.k), (1, .int .i64 z35.1.n), (2, str z35.1.s)])] :: [(br, Cells 77 [(0, .slice (g 7).2.1 z35.2.1.length (g 7).2.2.1), (1, .int .i64 z35.2.2), (2, .int .i64 (okv (countS z1.1 9223372036854775807))), (3, .int .i64 z7.1.k), (4, .int .i64 z7.1.n), (5, str z7.1.s), (6, .int .i64 z10.1), (7, .int .i64 0), (8, .int .i64 0), (9, .int .i64 0), (10, str []), (11, .int .i64 0), (12, .slice none 0 0), (13, .slice oAbr13_1 ((y.2.2.2.2).length) ocbr13_1), (14, c14), (15, c15)])] :: []) else (bif (f 8) then ([((g 8).1, Cells 23 [(0, .int .i64 z35.1.k), (1, .int .i64 z35.1.n), (2, str z35.1.s)])] :: oCbr13_1 :: [(br, Cells 77 [(0, .slice (g 7).2.1 z35.2.1.length (g 7).2.2.1), (1, .int .i64 z35.2.2), (2, .int .i64 (okv (countS z1.1 9223372036854775807))), (3, .int .i64 z7.1.k), (4, .int .i64 z7.1.n), (5, str z7.1.s), (6, .int .i64 z10.1), (7, .int .i64 0), (8, .int .i64 0), (9, .int .i64 0), (10, str []), (11, .int .i64 0), (12, .slice none 0 0), (13, .slice oAbr13_1 ((y.2.2.2.2).length) ocbr13_1), (14, c14), (15, c15)])] :: []) else (bif (f 7) then (oCbr13_1 :: [(br, Cells 77 [(0, .slice (g 7).2.1 z35.2.1.length (g 7).2.2.1), (1, .int .i64 z35.2.2), (2, .int .i64 (okv (countS z1.1 9223372036854775807))), (3, .int .i64 z7.1.k), (4, .int .i64 z7.1.n), (5, str z7.1.s), (6, .int .i64 z10.1), (7, .int .i64 0), (8, .int .i64 0), (9, .int .i64 0), (10, str []), (11, .int .i64 0), (12, .slice none 0 0), (13, .slice oAbr13_1 ((y.2.2.2.2).length) ocbr13_1), (14, c14), (15, c15)])] :: []) else (oCbr13_1 :: [(br, Cells 77 [(0, .slice y.2.1 y.1.length y.2.2.1), (1, .int .i64 y.2.2.2.1), (2, .int .i64 (okv (countS z1.1 9223372036854775807))), (3, .int .i64 z7.1.k), (4, .int .i64 z7.1.n), (5, str z7.1.s), (6, .int .i64 z10.1), (7, .int .i64 0), (8, .int .i64 0), (9, .int .i64 0), (10, str []), (11, .int .i64 0), (12, .slice none 0 0), (13, .slice oAbr13_1 ((y.2.2.2.2).length) ocbr13_1), (14, c14), (15, c15)])] :: []))))); rw [n13]; exact HS)⟩, fun d hd => (by cases hd; exact HE.get _ _ rfl), HE.defers, fun q hq => by obtain rfl := Option.some.inj hq; exact rfl⟩
    ·intro a w G1 f hcl hfi hon hW HE hp hO; obtain ⟨hl, hWc, hWo, hWn, HS⟩ := hW
     obtain ⟨_, e0, rfl⟩ := hp 0 60 _ (hon 0 rfl) rfl rfl; replace HE := HE.add e0
     refine o_nil HE rfl rfl ?_; clear HE; intro a HE
     exact ⟨_, _, (0, none, 0, []), Heap.le.refl _, ⟨hl, hWc, hWo, hWn, HS⟩, fun d hd => (by cases hd; exact HE.get _ _ rfl), HE.defers, fun q hq => by obtain rfl := Option.some.inj hq; exact rfl⟩
    ·intro a w G1 f hcl hfi hon hW HE hp hO; obtain ⟨hl, hWc, hWo, hWn, HS⟩ := hW
     obtain ⟨_, e10, rfl⟩ := hp 10 70 _ (hon 10 rfl) rfl rfl; replace HE := HE.add e10
     refine o_fld HE rfl rfl T.f77_1 ?_; clear HE; intro a HE
     exact ⟨_, _, (0, none, 0, []), Heap.le.refl _, ⟨hl, hWc, hWo, hWn, HS⟩, fun d hd => (by cases hd; exact HE.get _ _ rfl), HE.defers, fun q hq => by obtain rfl := Option.some.inj hq; exact rfl⟩
    ·intro a w G1 f hcl hfi hon hW HE hp hO; obtain ⟨hl, hWc, hWo, hWn, HS⟩ := hW
     obtain ⟨_, e11, rfl⟩ := hp 11 71 _ (hon 11 rfl) rfl rfl; replace HE := HE.add e11
     refine o_fld HE rfl rfl T.f26_7 ?_; clear HE; intro a HE
     exact ⟨_, _, (0, none, 0, []), Heap.le.refl _, ⟨hl, hWc, hWo, hWn, HS⟩, fun d hd => (by cases hd; exact HE.get _ _ rfl), HE.defers, fun q hq => by obtain rfl := Option.some.inj hq; exact rfl⟩
    ·intro a w G1 f hcl hfi hon hW HE hp hO; obtain ⟨hl, hWc, hWo, hWn, HS⟩ := hW
     obtain ⟨_, e12, rfl⟩ := hp 12 72 _ (hon 12 rfl) rfl rfl; replace HE := HE.add e12
     obtain ⟨_, e9, rfl⟩ := hp 9 69 _ (hon 9 rfl) rfl rfl; replace HE := HE.add e9
     have hcc := hon 9 rfl
     rw [hfi, hcc] at HS; simp only [cond_false, cond_true] at HS
     refine o_st HE HS rfl rfl rfl T.s24 (.there (.there (.here .here))) rfl ?_; clear HS; intro w HS
     replace HS := HS.conv (L2 := [(0, .slice (g 7).2.1 z35.2.1.length (g 7).2.2.1), (1, .int .i64 z35.2.2), (2, .int .i64 (okv (countS z1.1 9223372036854775807))), (3, .int .i64 z7.1.k), (4, .int .i64 z7.1.n), (5, str z7.1.s), (6, .int .i64 z10.1), (7, .int .i64 0), (8, .int .i64 0), (9, .int .i64 0), (10, str []), (11, .int .i64 0), (12, .slice none 0 0), (13, .slice (g 9).2.1 (y.2.2.2.2 ++ [z35.1]).length (g 9).2.2.1), (14, c14), (15, c15)]) (.there (.there (.here .here))) ⟨rfl, rfl, rfl, rfl, rfl, rfl, rfl, rfl, rfl, rfl, rfl, rfl, rfl, rfl, rfl, rfl, trivial⟩
     exact ⟨.bool true, _, (0, none, 0, []), Heap.le.refl _, ⟨hl, hWc, hWo, hWn, HS.drop (sub_keep (sub_drop (List.Sublist.refl _)))⟩, fun d hd => (by cases hd), HE.defers, fun q hq => by obtain rfl := Option.some.inj hq; trivial⟩
    clear HE HS; intro a w G36 g f hle37 hall HW HE hp; obtain ⟨_, hWc, _, hWn, HS⟩ := HW
    obtain ⟨hcp38, hR38⟩ := hWc (hall 7 (by decide)); have oH38 := hWn (hall 9 (by decide)); rw [hall 13 (by decide)] at HS; simp only [cond_true] at HS; clear hWc hWn hp hall
    generalize (g 7).2.1 = vA38 at *; generalize (g 7).2.2.1 = vc38 at *; generalize (g 9).2.1 = oA38 at *; generalize (g 9).2.2.1 = oc38 at *; generalize (g 9).2.2.2 = oC38 at *
    replace hR := hR.le hle37
    replace hg0 := hg0.le hle37
    replace hg1 := hg1.le hle37
    replace hgm := hgm.le hle37
    replace hgo := hgo.le hle37
    replace hgn := hgn.le hle37
    replace hR2 := hR2.le hle37
    replace hR8 := hR8.le hle37
    replace hR11 := hR11.le hle37
    replace hRy := hRy.le hle37
    have hlsz35 : ∀ x ∈ z35.2.1, x.length ≤ 4294967280 := by rw [hz35, value_left]; exact (next_len hlsy).2.1
    have hvwz35 : z35.1.Wf := by rw [hz35]; exact value_wf hlsy
    have hne : ¬ y.1 = [] := by intro h0; rw [h0] at h34; simp at h34
    obtain ⟨hst1, hst2⟩ := outL_step hne h34.1 hz35
    have hnx : outL z10.2.1 z10.2.2 = ((y.2.2.2.2 ++ [z35.1]) ++ (outL z35.2.1 z35.2.2).1, (outL z35.2.1 z35.2.2).2) := by
     rw [hy1, hst1, List.append_assoc]
     rfl
    exact ⟨(z35.2.1, vA38, vc38, z35.2.2, y.2.2.2.2 ++ [z35.1]), ⟨_, _, _, _, (hle28.trans hle37), HS, HE.cut ⟨rfl, trivial⟩, oH38, ⟨hnx, hcp38, hR38, hlsz35, by simp; omega⟩⟩, hst2⟩
   ·have h34 := nm h34r
    refine wp_exit ?_
    refine hK13 _ _ ?_; clear hK13
    refine sr fun K hK => ?_
    refine rn 7 HE HS ?_; clear HE HS; intro a w HE HS
    apply hK; clear hK K
    refine cond HE rfl (fun h40r => ?_) (fun h40r => ?_)
    ·have h40 := nm h40r
     refine wp_region_lit ?_
     refine rn 3 HE HS ?_; clear HE HS; intro a w HE HS
     have hcall41 := c_fault br y.2.2.2.1 2 (.slice y.2.1 y.1.length y.2.2.1) (.int .i64 (okv (countS z1.1 9223372036854775807))) (.int .i64 z7.1.k) (.int .i64 z7.1.n) (str z7.1.s) (.int .i64 z10.1) (.int .i64 0) (.int .i64 0) (.int .i64 0) (str []) (.int .i64 0) (.slice none 0 0) (.slice oAbr13_1 ((y.2.2.2.2).length) ocbr13_1) c14 c15 _ _ (HS.front (C := [(br, Cells 77 [(0, .slice y.2.1 y.1.length y.2.2.1), (1, .int .i64 y.2.2.2.1), (2, .int .i64 (okv (countS z1.1 9223372036854775807))), (3, .int .i64 z7.1.k), (4, .int .i64 z7.1.n), (5, str z7.1.s), (6, .int .i64 z10.1), (7, .int .i64 0), (8, .int .i64 0), (9, .int .i64 0), (10, str []), (11, .int .i64 0), (12, .slice none 0 0), (13, .slice oAbr13_1 ((y.2.2.2.2).length) ocbr13_1), (14, c14), (15, c15)])]) (.there .here))
     replace HS : St w0 G [br] GL27 _ ([oCbr13_1] ++ [(br, Cells 77 [(0, .slice y.2.1 y.1.length y.2.2.1), (1, .int .i64 y.2.2.2.1), (2, .int .i64 (okv (countS z1.1 9223372036854775807))), (3, .int .i64 z7.1.k), (4, .int .i64 z7.1.n), (5, str z7.1.s), (6, .int .i64 z10.1), (7, .int .i64 0), (8, .int .i64 0), (9, .int .i64 0), (10, str []), (11, .int .i64 0), (12, .slice none 0 0), (13, .slice oAbr13_1 ((y.2.2.2.2).length) ocbr13_1), (14, c14), (15, c15)])] :: []) := HS
     refine o_callM HE rfl HS rfl rfl T.g61 hcall41 ?_ (fun _ _ _ _ _ _ h => h.elim)
     clear HE HS; rintro _ G41 _ w a HS hle41 ⟨rfl, rfl⟩ HE; clear hcall41
     replace hR := hR.le hle41
     replace hg0 := hg0.le hle41
     replace hg1 := hg1.le hle41
     replace hgm := hgm.le hle41
     replace hgo := hgo.le hle41
     replace hgn := hgn.le hle41
     replace hR2 := hR2.le hle41
     replace hR8 := hR8.le hle41
     replace hR11 := hR11.le hle41
     replace hRy := hRy.le hle41
     replace oHbr13_1 := oHbr13_1.le hle41
     show Q .normal _ _
     refine retN hQ HE rfl .nil ?_
     have hcphR43 := oHbr13_1.cap
     obtain ⟨G42, hle44, HS', hR43⟩ := X.Own.still HS .here oHbr13_1; clear HS; have HS := HS'; clear HS'
     replace hR := hR.le hle44
     replace hg0 := hg0.le hle44
     replace hg1 := hg1.le hle44
     replace hgm := hgm.le hle44
     replace hgo := hgo.le hle44
     replace hgn := hgn.le hle44
     replace hR2 := hR2.le hle44
     replace hR8 := hR8.le hle44
     replace hR11 := hR11.le hle44
     replace hRy := hRy.le hle44
     have he : allS l = ((⟨okv (countS z1.1 9223372036854775807), z7.1, z10.1, 0, (⟨0, 0, []⟩ : Val), 0, [], y.2.2.2.2, false, []⟩ : Evt), y.1, faultS y.2.2.2.1 2) := by
      unfold allS
      dsimp only
      rw [← hz1, ← hz7, ← hz10]
      rw [if_neg h17, if_pos h24]
      rw [outL_end (l := y.1) (e := y.2.2.2.1) (by rintro ⟨g1, g2⟩; rcases h34 with h | h; exact h g1; exact h (by have := List.length_pos_iff.2 g2; omega))] at hy1
      rw [hy1]
      simp only [List.append_nil]
      rw [if_pos (by omega)]
     exact ⟨_, [(br, Cells 77 [(0, .slice y.2.1 y.1.length y.2.2.1), (1, .int .i64 (faultS y.2.2.2.1 2)), (2, .int .i64 (okv (countS z1.1 9223372036854775807))), (3, .int .i64 z7.1.k), (4, .int .i64 z7.1.n), (5, str z7.1.s), (6, .int .i64 z10.1), (7, .int .i64 0), (8, .int .i64 0), (9, .int .i64 0), (10, str []), (11, .int .i64 0), (12, .slice none 0 0), (13, .slice oAbr13_1 ((y.2.2.2.2).length) ocbr13_1), (14, c14), (15, c15)])], HS.stop (by simp), _, rfl, rfl, by rw [he]; exact ⟨_, _, _, _, _, _, hcy, hRy, Nat.zero_le _, .nil, hcphR43, hR43, rfl⟩⟩
    ·have h40 := nm h40r
     refine wp_skip ?_
     show Q .normal _ _
     refine retN hQ HE rfl .nil ?_
     have hcphR46 := oHbr13_1.cap
     obtain ⟨G45, hle47, HS', hR46⟩ := X.Own.still HS .here oHbr13_1; clear HS; have HS := HS'; clear HS'
     replace hR := hR.le hle47
     replace hg0 := hg0.le hle47
     replace hg1 := hg1.le hle47
     replace hgm := hgm.le hle47
     replace hgo := hgo.le hle47
     replace hgn := hgn.le hle47
     replace hR2 := hR2.le hle47
     replace hR8 := hR8.le hle47
     replace hR11 := hR11.le hle47
     replace hRy := hRy.le hle47
     have he : allS l = ((⟨okv (countS z1.1 9223372036854775807), z7.1, z10.1, 0, (⟨0, 0, []⟩ : Val), 0, [], y.2.2.2.2, false, []⟩ : Evt), y.1, y.2.2.2.1) := by
      unfold allS
      dsimp only
      rw [← hz1, ← hz7, ← hz10]
      rw [if_neg h17, if_pos h24]
      rw [outL_end (l := y.1) (e := y.2.2.2.1) (by rintro ⟨g1, g2⟩; rcases h34 with h | h; exact h g1; exact h (by have := List.length_pos_iff.2 g2; omega))] at hy1
      rw [hy1]
      simp only [List.append_nil]
      rw [if_neg (by omega)]
     exact ⟨_, [(br, Cells 77 [(0, .slice y.2.1 y.1.length y.2.2.1), (1, .int .i64 y.2.2.2.1), (2, .int .i64 (okv (countS z1.1 9223372036854775807))), (3, .int .i64 z7.1.k), (4, .int .i64 z7.1.n), (5, str z7.1.s), (6, .int .i64 z10.1), (7, .int .i64 0), (8, .int .i64 0), (9, .int .i64 0), (10, str []), (11, .int .i64 0), (12, .slice none 0 0), (13, .slice oAbr13_1 ((y.2.2.2.2).length) ocbr13_1), (14, c14), (15, c15)])], HS.stop (by simp), _, rfl, rfl, by rw [he]; exact ⟨_, _, _, _, _, _, hcy, hRy, Nat.zero_le _, .nil, hcphR46, hR46, rfl⟩⟩
  ·have h24 := nm h24r
   refine wp_skip ?_
   refine hK13 _ _ ?_; clear hK13
   refine sr fun K hK => ?_
   refine rn 7 HE HS ?_; clear HE HS; intro a w HE HS
   apply hK; clear hK K
   refine cond HE rfl (fun h49r => ?_) (fun h49r => ?_)
   ·have h49 := nm h49r
    refine wp_region_lit ?_
    refine rn 3 HE HS ?_; clear HE HS; intro a w HE HS
    have hcall50 := c_fault br z10.2.2 2 (.slice vA11 z10.2.1.length vc11) (.int .i64 (okv (countS z1.1 9223372036854775807))) (.int .i64 z7.1.k) (.int .i64 z7.1.n) (str z7.1.s) (.int .i64 z10.1) (.int .i64 0) (.int .i64 0) (.int .i64 0) (str []) (.int .i64 0) (.slice none 0 0) (.slice none 0 0) c14 c15 _ _ (HS.front (C := [(br, Cells 77 [(0, .slice vA11 z10.2.1.length vc11), (1, .int .i64 z10.2.2), (2, .int .i64 (okv (countS z1.1 9223372036854775807))), (3, .int .i64 z7.1.k), (4, .int .i64 z7.1.n), (5, str z7.1.s), (6, .int .i64 z10.1), (7, .int .i64 0), (8, .int .i64 0), (9, .int .i64 0), (10, str []), (11, .int .i64 0), (12, .slice none 0 0), (13, .slice none 0 0), (14, c14), (15, c15)])]) .here)
    replace HS : St w0 G [br] G11 _ ([] ++ [(br, Cells 77 [(0, .slice vA11 z10.2.1.length vc11), (1, .int .i64 z10.2.2), (2, .int .i64 (okv (countS z1.1 9223372036854775807))), (3, .int .i64 z7.1.k), (4, .int .i64 z7.1.n), (5, str z7.1.s), (6, .int .i64 z10.1), (7, .int .i64 0), (8, .int .i64 0), (9, .int .i64 0), (10, str []), (11, .int .i64 0), (12, .slice none 0 0), (13, .slice none 0 0), (14, c14), (15, c15)])] :: []) := HS
    refine o_callM HE rfl HS rfl rfl T.g61 hcall50 ?_ (fun _ _ _ _ _ _ h => h.elim)
    clear HE HS; rintro _ G50 _ w a HS hle50 ⟨rfl, rfl⟩ HE; clear hcall50
    replace hR := hR.le hle50
    replace hg0 := hg0.le hle50
    replace hg1 := hg1.le hle50
    replace hgm := hgm.le hle50
    replace hgo := hgo.le hle50
    replace hgn := hgn.le hle50
    replace hR2 := hR2.le hle50
    replace hR8 := hR8.le hle50
    replace hR11 := hR11.le hle50
    show Q .normal _ _
    refine retN hQ HE rfl .nil ?_
    have he : allS l = ((⟨okv (countS z1.1 9223372036854775807), z7.1, z10.1, 0, (⟨0, 0, []⟩ : Val), 0, [], [], false, []⟩ : Evt), z10.2.1, faultS z10.2.2 2) := by
     unfold allS
     dsimp only
     rw [← hz1, ← hz7, ← hz10]
     rw [if_neg h17, if_neg h24]
     dsimp only
     rw [if_pos (by omega)]
    exact ⟨_, [(br, Cells 77 [(0, .slice vA11 z10.2.1.length vc11), (1, .int .i64 (faultS z10.2.2 2)), (2, .int .i64 (okv (countS z1.1 9223372036854775807))), (3, .int .i64 z7.1.k), (4, .int .i64 z7.1.n), (5, str z7.1.s), (6, .int .i64 z10.1), (7, .int .i64 0), (8, .int .i64 0), (9, .int .i64 0), (10, str []), (11, .int .i64 0), (12, .slice none 0 0), (13, .slice none 0 0), (14, c14), (15, c15)])], HS.stop (by simp), _, rfl, rfl, by rw [he]; exact ⟨_, _, _, _, _, _, hcp11, hR11, Nat.zero_le _, .nil, Nat.zero_le _, .nil, rfl⟩⟩
   ·have h49 := nm h49r
    refine wp_skip ?_
    show Q .normal _ _
    refine retN hQ HE rfl .nil ?_
    have he : allS l = ((⟨okv (countS z1.1 9223372036854775807), z7.1, z10.1, 0, (⟨0, 0, []⟩ : Val), 0, [], [], false, []⟩ : Evt), z10.2.1, z10.2.2) := by
     unfold allS
     dsimp only
     rw [← hz1, ← hz7, ← hz10]
     rw [if_neg h17, if_neg h24]
     dsimp only
     rw [if_neg (by omega)]
    exact ⟨_, [(br, Cells 77 [(0, .slice vA11 z10.2.1.length vc11), (1, .int .i64 z10.2.2), (2, .int .i64 (okv (countS z1.1 9223372036854775807))), (3, .int .i64 z7.1.k), (4, .int .i64 z7.1.n), (5, str z7.1.s), (6, .int .i64 z10.1), (7, .int .i64 0), (8, .int .i64 0), (9, .int .i64 0), (10, str []), (11, .int .i64 0), (12, .slice none 0 0), (13, .slice none 0 0), (14, c14), (15, c15)])], HS.stop (by simp), _, rfl, rfl, by rw [he]; exact ⟨_, _, _, _, _, _, hcp11, hR11, Nat.zero_le _, .nil, Nat.zero_le _, .nil, rfl⟩⟩

/-! `incognito/event.Parse` -/
set_option maxRecDepth 100000 in
set_option maxHeartbeats 4000000 in
theorem c_Parse10 (s : Bs) (w0 : World) (G : Heap) (hG : Sub G w0) (m8 : Int) (h8 : CellsAt G 5 0 [.int .i64 m8]) (hg0 : CellsAt G 1 0 [.int .i64 3, .int .i64 1, str []]) (hg1 : CellsAt G 2 0 [.int .i64 3, .int .i64 0, str []]) (hgm : CellsAt G 3 0 [str [], str [114, 101, 103], str [99, 97, 115], str [115, 101, 116], str [109, 97, 112], str [102, 105, 102, 111], str [115, 116, 97, 99, 107], str [108, 111, 99, 107], str [99, 111, 117, 110, 116], str [109, 97, 120], str [111, 109, 97, 112]]) (hgo : CellsAt G 4 0 [str [], str [119, 114, 105, 116, 101], str [114, 101, 97, 100], str [115, 119, 97, 112], str [97, 100, 100], str [100, 101, 108], str [104, 97, 115], str [112, 117, 116], str [103, 101, 116], str [112, 117, 115, 104], str [112, 111, 112], str [116, 97, 107, 101], str [102, 114, 101, 101], str [115, 99, 97, 110]]) (hgn : CellsAt G 0 0 [str [], str [105, 110, 118, 111, 107, 101], str [111, 107], str [102, 97, 105, 108], str [105, 110, 102, 111]]) (hl : s.length ≤ 4294967280):
  Calls Tryz.prog 17 #[str s] w0 (Ret w0 G (fun v G' => ∃ A1 c1 A2 c2, v = .tuple #[.agg (evtCells (parseE s).1 A1 c1 A2 c2).toArray, .int .i64 (parseE s).2] ∧ (parseE s).1.args.length ≤ c1 ∧ Rd kVal G' A1 (parseE s).1.args ∧ (parseE s).1.out.length ≤ c2 ∧ Rd kVal G' A2 (parseE s).1.out)) := by
 refine enter Tryz.func17 rfl Tryz.ntmps17 rfl ?_
 intro Q hQ a HE
 have HS := St.start0 hG
 refine sr fun K hK => ?_
 refine o_allocZ HE rfl HS ?_; clear HE HS; intro B2 w a HS HE
 refine rn 1 HE HS ?_; clear HE HS; intro a w HE HS
 apply hK; clear hK K
 refine sr fun K hK => ?_
 refine rn 1 HE HS ?_; clear HE HS; intro a w HE HS
 refine o_callP HE rfl HS rfl rfl T.g40 (c_note s _ _ HS.sub m8 h8 (by first | omega | (simp; done) | (simp; omega) | (have := cutA_len s 59; have := cutB_len s 59; omega))) ?_
 clear HE HS; rintro _ w a HS rfl HE
 refine rn 9 HE HS ?_; clear HE HS; intro a w HE HS
 apply hK; clear hK K
 refine wp_seq_k (fun K4 hK3 => ?_)
 refine sr fun K hK => ?_
 refine rn 2 HE HS ?_; clear HE HS; intro a w HE HS
 apply hK; clear hK K
 refine cond HE rfl (fun h6r => ?_) (fun h6r => ?_)
 ·have h6 := nm h6r
  refine sr fun K hK => ?_
  refine o_build (cs := #[.int .i64 0, .int .i64 0, .int .i64 0, str [], .int .i64 0, .int .i64 0, .int .i64 0, .int .i64 0, str [], .int .i64 0, .slice none 0 0, .slice none 0 0, .bool false, str []]) HE rfl rfl (by kernel_rfl) ?_; clear HE; intro a HE
  refine rn 3 HE HS ?_; clear HE HS; intro a w HE HS
  apply hK; clear hK K
  refine rt hQ HE HS ?_
  have he : parseE s = (E0, (noteS s).2.2.2) := by
   unfold parseE
   rw [if_pos h6]
  rw [he]
  exact ⟨_, _, _, _, rfl, Nat.zero_le _, .nil, Nat.zero_le _, .nil⟩
 ·have h6 := nm h6r
  refine wp_skip ?_
  refine hK3 _ _ ?_; clear hK3
  refine sr fun K hK => ?_
  have hnl := note_len s
  refine rn 1 HE HS ?_; clear HE HS; intro a w HE HS
  refine o_call HE rfl HS rfl rfl T.g41 (c_words ((noteS s).1) _ _ HS.sub m8 h8 (by first | omega | (simp; done) | (simp; omega) | (have := cutA_len s 59; have := cutB_len s 59; omega))) ?_
  clear HE HS; rintro _ G8 w a HS hle8 ⟨vA8, vc8, rfl, hcp8, hR8⟩ HE
  replace h8 := h8.le hle8
  replace hg0 := hg0.le hle8
  replace hg1 := hg1.le hle8
  replace hgm := hgm.le hle8
  replace hgo := hgo.le hle8
  replace hgn := hgn.le hle8
  refine rn 5 HE HS ?_; clear HE HS; intro a w HE HS
  apply hK; clear hK K
  refine wp_seq_k (fun K11 hK10 => ?_)
  refine sr fun K hK => ?_
  refine rn 2 HE HS ?_; clear HE HS; intro a w HE HS
  apply hK; clear hK K
  refine cond HE rfl (fun h13r => ?_) (fun h13r => ?_)
  ·have h13 := nm h13r
   refine sr fun K hK => ?_
   refine o_build (cs := #[.int .i64 0, .int .i64 0, .int .i64 0, str [], .int .i64 0, .int .i64 0, .int .i64 0, .int .i64 0, str [], .int .i64 0, .slice none 0 0, .slice none 0 0, .bool false, str []]) HE rfl rfl (by kernel_rfl) ?_; clear HE; intro a HE
   refine rn 3 HE HS ?_; clear HE HS; intro a w HE HS
   apply hK; clear hK K
   refine rt hQ HE HS ?_
   have he : parseE s = (E0, (wordsS ((noteS s).1)).2) := by
    unfold parseE
    rw [if_neg (by omega), if_pos h13]
   rw [he]
   exact ⟨_, _, _, _, rfl, Nat.zero_le _, .nil, Nat.zero_le _, .nil⟩
  ·have h13 := nm h13r
   refine wp_skip ?_
   refine hK10 _ _ ?_; clear hK10
   refine sr fun K hK => ?_
   refine rn 1 HE HS ?_; clear HE HS; intro a w HE HS
   refine o_build (cs := #[.slice vA8 ((wordsS ((noteS s).1)).1.length) vc8, .int .i64 0]) HE rfl rfl (by kernel_rfl) ?_; clear HE; intro a HE
   refine rn 2 HE HS ?_; clear HE HS; intro a w HE HS
   refine o_build (cs := #[.int .i64 0, .int .i64 0, .int .i64 0, str [], .int .i64 0, .int .i64 0, .int .i64 0, .int .i64 0, str [], .int .i64 0, .slice none 0 0, .slice none 0 0, .bool ((noteS s).2.2.1), str ((noteS s).2.1)]) HE rfl rfl (by kernel_rfl) ?_; clear HE; intro a HE
   refine o_build (cs := #[.slice vA8 ((wordsS ((noteS s).1)).1.length) vc8, .int .i64 0, .int .i64 0, .int .i64 0, .int .i64 0, str [], .int .i64 0, .int .i64 0, .int .i64 0, .int .i64 0, str [], .int .i64 0, .slice none 0 0, .slice none 0 0, .bool ((noteS s).2.2.1), str ((noteS s).2.1)]) HE rfl rfl (by kernel_rfl) ?_; clear HE; intro a HE
   refine o_allocZ HE rfl HS ?_; clear HE HS; intro B9 w a HS HE
   refine rn 1 HE HS ?_; clear HE HS; intro a w HE HS
   apply hK; clear hK K
   refine sr fun K hK => ?_
   have hwl := wordsS_len (noteS s).1
   have hlsw : ∀ x ∈ (wordsS (noteS s).1).1, x.length ≤ 4294967280 := fun x hx => by have := words_mem hx; omega
   have hcall16 := c_all10 B9 ((wordsS ((noteS s).1)).1) _ _ (.bool ((noteS s).2.2.1)) (str ((noteS s).2.1)) _ _ (HS.front (C := [(B9, Cells 77 [(0, .slice vA8 ((wordsS ((noteS s).1)).1.length) vc8), (1, .int .i64 0), (2, .int .i64 0), (3, .int .i64 0), (4, .int .i64 0), (5, str []), (6, .int .i64 0), (7, .int .i64 0), (8, .int .i64 0), (9, .int .i64 0), (10, str []), (11, .int .i64 0), (12, .slice none 0 0), (13, .slice none 0 0), (14, .bool ((noteS s).2.2.1)), (15, str ((noteS s).2.1))])]) .here) hR8 hcp8 hlsw hg0 hg1 hgm hgo hgn (by omega)
   replace HS : St w0 G [] G8 _ ([] ++ [(B9, Cells 77 [(0, .slice vA8 ((wordsS ((noteS s).1)).1.length) vc8), (1, .int .i64 0), (2, .int .i64 0), (3, .int .i64 0), (4, .int .i64 0), (5, str []), (6, .int .i64 0), (7, .int .i64 0), (8, .int .i64 0), (9, .int .i64 0), (10, str []), (11, .int .i64 0), (12, .slice none 0 0), (13, .slice none 0 0), (14, .bool ((noteS s).2.2.1)), (15, str ((noteS s).2.1))])] :: [[(B2, Cells 26 [(0, .int .i64 0), (1, .int .i64 0), (2, .int .i64 0), (3, str []), (4, .int .i64 0), (5, .int .i64 0), (6, .int .i64 0), (7, .int .i64 0), (8, str []), (9, .int .i64 0), (10, .slice none 0 0), (11, .slice none 0 0), (12, .bool false), (13, str [])])]]) := HS
   refine o_callM HE rfl HS rfl rfl T.g42 hcall16 ?_ (fun _ _ _ _ _ _ h => h.elim)
   clear HE HS; rintro _ G16 _ w a HS hle16 ⟨z16, hz16, rfl, vA16, vc16, vB16, vd16, vC16, ve16, hcp16, hR16, hap16, hA16, hbp16, hB16, rfl⟩ HE; clear hcall16
   replace h8 := h8.le hle16
   replace hg0 := hg0.le hle16
   replace hg1 := hg1.le hle16
   replace hgm := hgm.le hle16
   replace hgo := hgo.le hle16
   replace hgn := hgn.le hle16
   replace hR8 := hR8.le hle16
   apply hK; clear hK K
   refine wp_seq_k (fun K19 hK18 => ?_)
   refine sr fun K hK => ?_
   refine rn 4 HE HS ?_; clear HE HS; intro a w HE HS
   apply hK; clear hK K
   refine cond HE rfl (fun h21r => ?_) (fun h21r => ?_)
   ·have h21 := nm h21r
    refine wp_seq_k (fun K23 hK22 => ?_)
    replace HE := HE.cut (L' := [(0, str s), (2, .pointer (some ⟨B2, 0, none⟩)), (4, str ((noteS s).1)), (5, str ((noteS s).2.1)), (6, .bool ((noteS s).2.2.1)), (7, .int .i64 ((wordsS ((noteS s).1)).2)), (8, .slice vA8 ((wordsS ((noteS s).1)).1.length) vc8), (9, .pointer (some ⟨B9, 0, none⟩)), (10, .tuple #[str ((noteS s).1), str ((noteS s).2.1), .bool ((noteS s).2.2.1), .int .i64 ((noteS s).2.2.2)]), (11, str s), (12, .tuple #[str ((noteS s).1), str ((noteS s).2.1), .bool ((noteS s).2.2.1), .int .i64 ((noteS s).2.2.2)]), (13, str ((noteS s).1)), (14, str ((noteS s).2.1)), (15, .bool ((noteS s).2.2.1)), (16, .int .i64 ((noteS s).2.2.2)), (17, .int .i64 ((noteS s).2.2.2)), (18, .bool (!decide (((noteS s).2.2.2) = 0))), (21, .tuple #[.slice vA8 ((wordsS ((noteS s).1)).1.length) vc8, .int .i64 ((wordsS ((noteS s).1)).2)]), (22, str ((noteS s).1)), (23, .tuple #[.slice vA8 ((wordsS ((noteS s).1)).1.length) vc8, .int .i64 ((wordsS ((noteS s).1)).2)]), (24, .slice vA8 ((wordsS ((noteS s).1)).1.length) vc8), (25, .int .i64 ((wordsS ((noteS s).1)).2)), (26, .int .i64 ((wordsS ((noteS s).1)).2)), (27, .bool (!decide (((wordsS ((noteS s).1)).2) = 0))), (30, .slice vA8 ((wordsS ((noteS s).1)).1.length) vc8), (31, .agg #[.slice vA8 ((wordsS ((noteS s).1)).1.length) vc8, .int .i64 0]), (32, .bool ((noteS s).2.2.1)), (33, str ((noteS s).2.1)), (34, .agg #[.int .i64 0, .int .i64 0, .int .i64 0, str [], .int .i64 0, .int .i64 0, .int .i64 0, .int .i64 0, str [], .int .i64 0, .slice none 0 0, .slice none 0 0, .bool ((noteS s).2.2.1), str ((noteS s).2.1)]), (35, .agg #[.slice vA8 ((wordsS ((noteS s).1)).1.length) vc8, .int .i64 0, .int .i64 0, .int .i64 0, .int .i64 0, str [], .int .i64 0, .int .i64 0, .int .i64 0, .int .i64 0, str [], .int .i64 0, .slice none 0 0, .slice none 0 0, .bool ((noteS s).2.2.1), str ((noteS s).2.1)]), (37, .pointer (some ⟨B9, 0, none⟩)), (38, .pointer (some ⟨B9, 1, none⟩)), (39, .int .i64 z16.2.2), (40, .bool (!decide (z16.2.2 = 0)))]) ⟨rfl, rfl, rfl, rfl, rfl, rfl, rfl, rfl, rfl, rfl, rfl, rfl, rfl, rfl, rfl, rfl, rfl, rfl, rfl, rfl, rfl, rfl, rfl, rfl, rfl, rfl, rfl, rfl, rfl, rfl, rfl, rfl, rfl, rfl, trivial⟩
    refine drawnF (fun f G' w => Heap.le G16 G' ∧ St w0 G [] G' w [[(B9, Cells 77 [(0, .slice vA16 z16.2.1.length vc16), (1, .int .i64 z16.2.2), (2, .int .i64 z16.1.time), (3, .int .i64 z16.1.client.k), (4, .int .i64 z16.1.client.n), (5, str z16.1.client.s), (6, .int .i64 z16.1.type), (7, .int .i64 z16.1.model), (8, .int .i64 z16.1.key.k), (9, .int .i64 z16.1.key.n), (10, str z16.1.key.s), (11, .int .i64 z16.1.op), (12, .slice vB16 z16.1.args.length vd16), (13, .slice vC16 z16.1.out.length ve16), (14, .bool ((noteS s).2.2.1)), (15, str ((noteS s).2.1))])], [(B2, Cells 26 [(0, bif f 4 then .int .i64 0 else .int .i64 0), (1, bif f 4 then .int .i64 0 else .int .i64 0), (2, bif f 4 then .int .i64 0 else .int .i64 0), (3, bif f 4 then str [] else str []), (4, bif f 4 then .int .i64 0 else .int .i64 0), (5, bif f 4 then .int .i64 0 else .int .i64 0), (6, bif f 4 then .int .i64 0 else .int .i64 0), (7, bif f 4 then .int .i64 0 else .int .i64 0), (8, bif f 4 then str [] else str []), (9, bif f 4 then .int .i64 0 else .int .i64 0), (10, bif f 4 then .slice none 0 0 else .slice none 0 0), (11, bif f 4 then .slice none 0 0 else .slice none 0 0), (12, bif f 4 then .bool false else .bool false), (13, bif f 4 then str [] else str [])])]]) [fun v _ => v = .agg #[.int .i64 0, .int .i64 0, .int .i64 0, str [], .int .i64 0, .int .i64 0, .int .i64 0, .int .i64 0, str [], .int .i64 0, .slice none 0 0, .slice none 0 0, .bool false, str []], fun v _ => v = .pointer (some ⟨B9, 0, none⟩), fun v _ => v = .pointer (some ⟨B9, 1, none⟩), fun v _ => v = .int .i64 z16.2.2, fun _ _ => True, fun v _ => v = .int .i64 z16.2.2] [] T.mix rfl HE ⟨Heap.le.refl _, HS.drew⟩ rfl (by simp) (AllM.get ⟨fun _ _ _ _ h => h, fun _ _ _ _ h => h, fun _ _ _ _ h => h, fun _ _ _ _ h => h, fun _ _ _ _ h => h, fun _ _ _ _ h => h, trivial⟩) ⟨?_, ?_, ?_, ?_, ?_, ?_, trivial⟩ ?_
    ·intro a w G1 f hcl hfi hon hW HE hp hO; obtain ⟨hl, HS⟩ := hW
     refine o_build (cs := #[.int .i64 0, .int .i64 0, .int .i64 0, str [], .int .i64 0, .int .i64 0, .int .i64 0, .int .i64 0, str [], .int .i64 0, .slice none 0 0, .slice none 0 0, .bool false, str []]) HE rfl rfl (by kernel_rfl) ?_; clear HE; intro a HE
     exact ⟨_, _, Heap.le.refl _, ⟨hl, HS⟩, fun d hd => (by cases hd; exact HE.get _ _ rfl), HE.defers, rfl⟩
    ·intro a w G1 f hcl hfi hon hW HE hp hO; obtain ⟨hl, HS⟩ := hW
     refine o_fld HE rfl rfl T.f77_0 ?_; clear HE; intro a HE
     exact ⟨_, _, Heap.le.refl _, ⟨hl, HS⟩, fun d hd => (by cases hd; exact HE.get _ _ rfl), HE.defers, rfl⟩
    ·intro a w G1 f hcl hfi hon hW HE hp hO; obtain ⟨hl, HS⟩ := hW
     obtain ⟨_, e1, rfl⟩ := hp 1 42 _ (hon 1 rfl) rfl rfl; replace HE := HE.add e1
     refine o_fld HE rfl rfl T.f75_1 ?_; clear HE; intro a HE
     exact ⟨_, _, Heap.le.refl _, ⟨hl, HS⟩, fun d hd => (by cases hd; exact HE.get _ _ rfl), HE.defers, rfl⟩
    ·intro a w G1 f hcl hfi hon hW HE hp hO; obtain ⟨hl, HS⟩ := hW
     obtain ⟨_, e2, rfl⟩ := hp 2 43 _ (hon 2 rfl) rfl rfl; replace HE := HE.add e2
     refine o_ld HE rfl HS rfl T.s34 (.here .here) rfl ?_; clear HE; intro a HE
     exact ⟨_, _, Heap.le.refl _, ⟨hl, HS⟩, fun d hd => (by cases hd; exact HE.get _ _ rfl), HE.defers, rfl⟩
    ·intro a w G1 f hcl hfi hon hW HE hp hO; obtain ⟨hl, HS⟩ := hW
     obtain ⟨_, e0, rfl⟩ := hp 0 41 _ (hon 0 rfl) rfl rfl; replace HE := HE.add e0
     refine o_stA HE HS rfl rfl rfl T.a26 (.there (.here .here)) rfl ?_; clear HS; intro w HS
     replace HS := HS.conv (L2 := [(0, _), (1, _), (2, _), (3, _), (4, _), (5, _), (6, _), (7, _), (8, _), (9, _), (10, _), (11, _), (12, _), (13, _)]) (.there (.here .here)) ⟨rfl, rfl, rfl, rfl, rfl, rfl, rfl, rfl, rfl, rfl, rfl, rfl, rfl, rfl, trivial⟩
     exact ⟨.bool true, _, Heap.le.refl _, ⟨hl, HS⟩, fun d hd => (by cases hd), HE.defers, trivial⟩
    ·intro a w G1 f hcl hfi hon hW HE hp hO; obtain ⟨hl, HS⟩ := hW
     obtain ⟨_, e3, rfl⟩ := hp 3 44 _ (hon 3 rfl) rfl rfl; replace HE := HE.add e3
     refine o_assign HE rfl rfl ?_; clear HE; intro a HE
     exact ⟨_, _, Heap.le.refl _, ⟨hl, HS⟩, fun d hd => (by cases hd; exact HE.get _ _ rfl), HE.defers, rfl⟩
    clear HE HS; intro a w G24 f hle25 hall HW HE hp; obtain ⟨_, HS⟩ := HW
    have hfw4 := hall 4 (by decide)
    simp only [hfw4, cond_true] at HS
    replace h8 := h8.le hle25
    replace hg0 := hg0.le hle25
    replace hg1 := hg1.le hle25
    replace hgm := hgm.le hle25
    replace hgo := hgo.le hle25
    replace hgn := hgn.le hle25
    replace hR8 := hR8.le hle25
    replace hR16 := hR16.le hle25
    replace hA16 := hA16.le hle25
    replace hB16 := hB16.le hle25
    obtain ⟨_, e5, rfl⟩ := hp 5 3 _ rfl rfl; replace HE := HE.add e5
    clear hp hall
    refine hK22 _ _ ?_; clear hK22
    refine rt hQ HE HS ?_
    have he : parseE s = (E0, z16.2.2) := by
     unfold parseE
     rw [if_neg (by omega), if_neg (by omega), ← hz16, if_pos h21]
    rw [he]
    exact ⟨_, _, _, _, rfl, Nat.zero_le _, .nil, Nat.zero_le _, .nil⟩
   ·have h21 := nm h21r
    refine wp_skip ?_
    refine hK18 _ _ ?_; clear hK18
    refine sr fun K hK => ?_
    refine rn 4 HE HS ?_; clear HE HS; intro a w HE HS
    apply hK; clear hK K
    refine rt hQ HE HS ?_
    have he : parseE s = ({ z16.1 with noted := (noteS s).2.2.1, note := (noteS s).2.1 }, 0) := by
     unfold parseE
     rw [if_neg (by omega), if_neg (by omega), ← hz16, if_neg (by omega)]
    rw [he]
    exact ⟨_, _, _, _, rfl, hap16, hA16, hbp16, hB16⟩
end Go.Proofs.YtiinipcmghhacaaGreatDoor.T10
