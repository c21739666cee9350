/- The program's reading of a line, first part. -/
import Derived.Test.YtiinipcmghhacaaGreatDoorZD1
set_option linter.unusedVariables false
set_option linter.unusedSimpArgs false
namespace Go.Proofs.YtiinipcmghhacaaGreatDoor.T10
open Go Go.Proofs.YtiinipcmghhacaaGreatDoor.X
instance : UN Tryz.prog 111 (.slice 80) := ⟨Tryz.underlying111⟩
instance : UN Tryz.prog 53 (.slice 9) := ⟨Tryz.underlying53⟩
instance : LZ Tryz.prog 80 [(0, .int .i64 0), (1, .int .i64 0), (2, str []), (3, .int .i64 0), (4, .bool false)] := ⟨⟨.agg #[.int .i64 0, .int .i64 0, str [], .int .i64 0, .bool false], by kernel_rfl, ⟨rfl, rfl, rfl, rfl, rfl, trivial⟩⟩⟩
theorem T.a52 : aggSz Tryz.prog 52 = some 5 := by kernel_rfl
instance : AG Tryz.prog 52 5 := ⟨T.a52⟩
theorem T.a80 : aggSz Tryz.prog 80 = some 5 := by kernel_rfl
instance : AG Tryz.prog 80 5 := ⟨T.a80⟩
theorem T.f80_0 : fieldOff Tryz.prog 80 0 = some 0 := by kernel_rfl
instance : FO Tryz.prog 80 0 0 := ⟨T.f80_0⟩
theorem T.f80_1 : fieldOff Tryz.prog 80 1 = some 1 := by kernel_rfl
instance : FO Tryz.prog 80 1 1 := ⟨T.f80_1⟩
theorem T.f80_2 : fieldOff Tryz.prog 80 2 = some 2 := by kernel_rfl
instance : FO Tryz.prog 80 2 2 := ⟨T.f80_2⟩
theorem T.g44 : goFn Tryz.prog 44 = true := by kernel_rfl
theorem T.g45 : goFn Tryz.prog 45 = true := by kernel_rfl
theorem T.g67 : goFn Tryz.prog 67 = true := by kernel_rfl
theorem T.g68 : goFn Tryz.prog 68 = true := by kernel_rfl
theorem T.g95 : goFn Tryz.prog 95 = true := by kernel_rfl
theorem T.l111 : slOf Tryz.prog 111 = some (80, 5) := by kernel_rfl
theorem T.l44 : slOf Tryz.prog 44 = some (3, 1) := by kernel_rfl
theorem T.l53 : slOf Tryz.prog 53 = some (9, 1) := by kernel_rfl
theorem T.p44 : apOf Tryz.prog 44 = some (3, 1, 8) := by kernel_rfl
theorem T.r52 : arrOf Tryz.prog 52 = some (5, 1) := by kernel_rfl
theorem T.r89 : arrOf Tryz.prog 89 = some (11, 1) := by kernel_rfl
theorem T.r90 : arrOf Tryz.prog 90 = some (14, 1) := by kernel_rfl

structure Row where
  model : Int
  op : Int
  ins : Bs
  out : Int
  may : Bool deriving DecidableEq
abbrev rowCells (r : Row) : List Value := [.int .i64 r.model, .int .i64 r.op, str r.ins, .int .i64 r.out, .bool r.may]
def kRow : Knd Row where
  sz := 5
  R := fun _ x cs => cs = rowCells x
  len := by rintro G x cs rfl; rfl
  le := fun _ h => h
theorem kRow_open {G : Heap} {b o : Nat} {x : Row} (h : ElAt kRow G b o x) : CellsAt G b o (rowCells x) := by
  obtain ⟨cs, rfl, hc⟩ := h
  exact hc
theorem kRow_one : KOne kRow := by rintro G x cs rfl; rfl
def rowsT : List Row := [⟨1, 1, [118], (-1), false⟩, ⟨1, 2, [], 2, true⟩, ⟨2, 1, [118], (-1), false⟩, ⟨2, 2, [], 2, true⟩, ⟨2, 3, [118, 118], 6, false⟩, ⟨3, 4, [118], (-1), false⟩, ⟨3, 5, [118], (-1), false⟩, ⟨3, 6, [118], 6, false⟩, ⟨4, 7, [102, 118], (-1), false⟩, ⟨4, 8, [102], 2, true⟩, ⟨4, 5, [102], (-1), false⟩, ⟨5, 9, [118], (-1), false⟩, ⟨5, 10, [], 2, true⟩, ⟨6, 9, [118], (-1), false⟩, ⟨6, 10, [], 2, true⟩, ⟨7, 11, [], 6, false⟩, ⟨7, 12, [], 6, false⟩, ⟨8, 4, [110], (-1), false⟩, ⟨8, 2, [], 5, false⟩, ⟨9, 1, [111], (-1), false⟩, ⟨9, 2, [], 4, true⟩, ⟨10, 7, [111, 118], (-1), false⟩, ⟨10, 5, [111], (-1), false⟩, ⟨10, 13, [111, 111], 99, false⟩]
def isRow (m o : Int) (r : Row) : Bool := decide (r.model = m) && decide (r.op = o)
def findS (m o : Int) : Row × Bool := match rowsT.find? (isRow m o) with
  | some r => (r, true)
  | none => (⟨0, 0, [], 0, false⟩, false)
def idxR : List Row → Int → Int → Int → Int
  | [], _, _, _ => -1
  | r :: rs, k, m, o => if isRow m o r = true then k else idxR rs (k + 1) m o
theorem idxR_step {rows : List Row} {i : Nat} {k m o : Int} {x : Row} {h : i < rows.length} (e : rows[i] = x) : idxR (rows.drop i) k m o = if isRow m o x = true then k else idxR (rows.drop (i + 1)) (k + 1) m o := by
  rw [List.drop_eq_getElem_cons h, e]
  rfl
theorem idxR_find (m o : Int) : ∀ (rows : List Row) (k : Int), 0 ≤ k → (idxR rows k m o = -1 ∧ rows.find? (isRow m o) = none) ∨ ∃ (j : Nat) (r : Row), idxR rows k m o = k + (j : Int) ∧ rows[j]? = some r ∧ rows.find? (isRow m o) = some r
  | [], k, _ => .inl ⟨rfl, rfl⟩
  | r :: rs, k, hk => by
    unfold idxR
    rw [List.find?_cons]
    by_cases h : isRow m o r = true
    · rw [if_pos h, h]
      exact .inr ⟨0, r, by omega, rfl, rfl⟩
    · rw [if_neg h, Bool.eq_false_iff.2 h]
      rcases idxR_find m o rs (k + 1) (by omega) with ⟨h1, h2⟩ | ⟨j, x, h1, h2, h3⟩
      · exact .inl ⟨h1, h2⟩
      · exact .inr ⟨j + 1, x, by rw [h1]; omega, by simpa using h2, h3⟩
theorem find_no {m o : Int} (h : idxR rowsT 0 m o < 0) : findS m o = (⟨0, 0, [], 0, false⟩, false) := by
  unfold findS
  rcases idxR_find m o rowsT 0 (by decide) with ⟨_, h2⟩ | ⟨j, x, h1, _, _⟩
  · rw [h2]
  · omega
theorem find_yes {m o : Int} (h : ¬ idxR rowsT 0 m o < 0) : (idxR rowsT 0 m o).toNat < rowsT.length ∧ ∀ x (h2 : (idxR rowsT 0 m o).toNat < rowsT.length), rowsT[(idxR rowsT 0 m o).toNat] = x → findS m o = (x, true) := by
  unfold findS
  rcases idxR_find m o rowsT 0 (by decide) with ⟨h1, h2⟩ | ⟨j, y, h1, h2, h3⟩
  · omega
  · have e : (idxR rowsT 0 m o).toNat = j := by omega
    have hl : j < rowsT.length := (List.getElem?_eq_some_iff.1 h2).1
    refine ⟨by omega, fun x hx hxx => ?_⟩
    rw [h3]
    have := (List.getElem?_eq_some_iff.1 h2).2
    simp only [e] at hxx
    rw [← hxx, this]
/-- The number of a word in a list; not the first one's. -/
def idxW : List Bs → Int → Bs → Int × Bool
  | [], _, _ => (0, false)
  | x :: r, k, w => if (decide (0 < k) && (x == w)) = true then (k, true) else idxW r (k + 1) w
theorem idxW_step {ws : List Bs} {i : Nat} {k : Int} {w x : Bs} {h : i < ws.length} (e : ws[i] = x) : idxW (ws.drop i) k w = if (decide (0 < k) && (x == w)) = true then (k, true) else idxW (ws.drop (i + 1)) (k + 1) w := by
  rw [List.drop_eq_getElem_cons h, e]
  rfl
def modelsW : List Bs := [[], [114, 101, 103], [99, 97, 115], [115, 101, 116], [109, 97, 112], [102, 105, 102, 111], [115, 116, 97, 99, 107], [108, 111, 99, 107], [99, 111, 117, 110, 116], [109, 97, 120], [111, 109, 97, 112]]
def opsW : List Bs := [[], [119, 114, 105, 116, 101], [114, 101, 97, 100], [115, 119, 97, 112], [97, 100, 100], [100, 101, 108], [104, 97, 115], [112, 117, 116], [103, 101, 116], [112, 117, 115, 104], [112, 111, 112], [116, 97, 107, 101], [102, 114, 101, 101], [115, 99, 97, 110]]
def namedW : List Bs := [[], [105, 110, 118, 111, 107, 101], [111, 107], [102, 97, 105, 108], [105, 110, 102, 111]]
def modelS (w : Bs) : Int × Bool := idxW modelsW 0 w
def opS (w : Bs) : Int × Bool := idxW opsW 0 w
def typedS (w : Bs) : Int × Bool := if [105, 110, 118, 111, 107, 101] == w then (1, true) else if [111, 107] == w then (2, true) else if [102, 97, 105, 108] == w then (3, true) else if [105, 110, 102, 111] == w then (4, true) else (0, false)
theorem idxW_rng : ∀ (ws : List Bs) (k : Int) (w : Bs), 0 ≤ k → 0 ≤ (idxW ws k w).1 ∧ (idxW ws k w).1 ≤ k + (ws.length : Int)
  | [], k, w, h => by show (0 : Int) ≤ 0 ∧ (0 : Int) ≤ _; simp; omega
  | x :: r, k, w, h => by
    unfold idxW
    split
    · show 0 ≤ k ∧ k ≤ _; omega
    · have := idxW_rng r (k + 1) w (by omega)
      simp only [List.length_cons]
      omega
def takesB (d : Int) (v : Val) : Bool :=
  if rightV v = false then false else if d = 0 ∨ d = 1 ∨ d = 2 ∨ d = 3 ∨ d = 4 then decide (v.k = 1) || decide (v.k = 2) else if d = 5 then decide (v.k = 1) else decide (d = 6) && decide (v.k = 3)
def domS (c : Int) : Int := if c = 118 then 2 else if c = 102 then 3 else if c = 111 then 4 else 5
def doms (s : Bs) : List Int := s.map fun b => domS (b.toNat : Int)
theorem doms_snoc {s : Bs} {i : Nat} (h : i < s.length) : doms (s.take i) ++ [domS (bt s (i : Int))] = doms (s.take (i + 1)) := by
  rw [bt_nat h]
  unfold doms
  rw [take_snoc h, List.map_append]
  rfl
def argsD (m o : Int) : List Int × Bool := if (findS m o).2 = true then (doms (findS m o).1.ins, true) else ([], false)
theorem find_len (m o : Int) : (findS m o).1.ins.length ≤ 2 := by
  unfold findS
  split
  · rename_i r h
    have hm := List.mem_of_find?_eq_some h
    have : ∀ r ∈ rowsT, r.ins.length ≤ 2 := by decide
    exact this r hm
  · decide
/-! What a line's words are read to. -/
def faultS (e e2 : Int) : Int := if e = 0 then e2 else e
theorem fault2_ne (e : Int) : ¬ faultS e 2 = 0 := by unfold faultS; split <;> omega
def nextS (l : List Bs) (e : Int) : Bs × List Bs × Int :=
  if (if l = [] then faultS e 2 else e) = 0 then (l.getD 0 [], l.drop 1, 0) else ([], l, if l = [] then faultS e 2 else e)
def valueS (d : Int) (l : List Bs) (e : Int) : Val × List Bs × Int :=
  if (nextS l e).2.2 = 0 then ((parseV (nextS l e).1).1, (nextS l e).2.1,
    if ((decide (faultS (nextS l e).2.2 (parseV (nextS l e).1).2 = 0) && decide (0 ≤ d)) && !takesB d (parseV (nextS l e).1).1) = true then faultS (faultS (nextS l e).2.2 (parseV (nextS l e).1).2) 2 else faultS (nextS l e).2.2 (parseV (nextS l e).1).2)
  else (⟨0, 0, []⟩, (nextS l e).2.1, (nextS l e).2.2)
def numberS (tab : Bs → Int × Bool) (l : List Bs) (e : Int) : Int × List Bs × Int :=
  ((tab (nextS l e).1).1, (nextS l e).2.1, if (!(tab (nextS l e).1).2) = true then faultS (nextS l e).2.2 2 else (nextS l e).2.2)
theorem next_len {l : List Bs} {e : Int} {M : Nat} (h : ∀ x ∈ l, x.length ≤ M) : (nextS l e).1.length ≤ M ∧ (∀ x ∈ (nextS l e).2.1, x.length ≤ M) ∧ (nextS l e).2.1.length ≤ l.length := by
  unfold nextS
  by_cases hc : (if l = [] then faultS e 2 else e) = 0
  · rw [if_pos hc]
    refine ⟨?_, fun x hx => h x (List.mem_of_mem_drop hx), by show (l.drop 1).length ≤ _; simp⟩
    cases l with
    | nil => exact Nat.zero_le _
    | cons a r => exact h a List.mem_cons_self
  · rw [if_neg hc]
    exact ⟨Nat.zero_le _, h, Nat.le_refl _⟩
theorem value_left (d : Int) (l : List Bs) (e : Int) : (valueS d l e).2.1 = (nextS l e).2.1 := by
  unfold valueS
  split <;> rfl
theorem value_wf {d : Int} {l : List Bs} {e : Int} (h : ∀ x ∈ l, x.length ≤ 4294967280) : (valueS d l e).1.Wf := by
  unfold valueS
  split
  · exact parse_wf (by have := (next_len (e := e) h).1; omega)
  · show (⟨0, 0, []⟩ : Val).Wf
    exact ⟨by decide, by decide, by decide⟩
/-! `incognito/sign.domain` -/
set_option maxRecDepth 100000 in
set_option maxHeartbeats 4000000 in
theorem c_domain (c : Int) (w0 : World) (G : Heap) (hG : Sub G w0) :
  Calls Tryz.prog 45 #[.int .u8 c] w0 (Ret w0 G (fun v _ => v = .int .i64 (domS c))) := by
 refine enter Tryz.func45 rfl Tryz.ntmps45 rfl ?_
 intro Q hQ a HE
 have HS := St.start0 hG
 refine sr fun K hK => ?_
 refine rn 1 HE HS ?_; clear HE HS; intro a w HE HS
 apply hK; clear hK K
 refine wp_seq_k (fun K3 hK2 => ?_)
 refine sr fun K hK => ?_
 refine rn 1 HE HS ?_; clear HE HS; intro a w HE HS
 apply hK; clear hK K
 refine wp_block ?_
 refine sr fun K hK => ?_
 refine rn 2 HE HS ?_; clear HE HS; intro a w HE HS
 apply hK; clear hK K
 refine cond HE rfl (fun h6r => ?_) (fun h6r => ?_)
 ·have h6 := nm h6r
  refine sr fun K hK => ?_
  refine rn 1 HE HS ?_; clear HE HS; intro a w HE HS
  apply hK; clear hK K
  refine rt hQ HE HS ?_
  have e : domS c = 2 := by
   unfold domS
   rw [if_pos (by omega)]
  show _ = _
  rw [e]
  rfl
 ·have h6 := nm h6r
  refine sr fun K hK => ?_
  refine rn 2 HE HS ?_; clear HE HS; intro a w HE HS
  apply hK; clear hK K
  refine cond HE rfl (fun h9r => ?_) (fun h9r => ?_)
  ·have h9 := nm h9r
   refine sr fun K hK => ?_
   refine rn 1 HE HS ?_; clear HE HS; intro a w HE HS
   apply hK; clear hK K
   refine rt hQ HE HS ?_
   have e : domS c = 3 := by
    unfold domS
    rw [if_neg (by omega)]; rw [if_pos (by omega)]
   show _ = _
   rw [e]
   rfl
  ·have h9 := nm h9r
   refine sr fun K hK => ?_
   refine rn 2 HE HS ?_; clear HE HS; intro a w HE HS
   apply hK; clear hK K
   refine cond HE rfl (fun h12r => ?_) (fun h12r => ?_)
   ·have h12 := nm h12r
    refine sr fun K hK => ?_
    refine rn 1 HE HS ?_; clear HE HS; intro a w HE HS
    apply hK; clear hK K
    refine rt hQ HE HS ?_
    have e : domS c = 4 := by
     unfold domS
     rw [if_neg (by omega)]; rw [if_neg (by omega)]; rw [if_pos (by omega)]
    show _ = _
    rw [e]
    rfl
   ·have h12 := nm h12r
    refine wp_skip ?_
    refine hK2 _ _ ?_; clear hK2
    refine sr fun K hK => ?_
    refine rn 1 HE HS ?_; clear HE HS; intro a w HE HS
    apply hK; clear hK K
    refine rt hQ HE HS ?_
    have e : domS c = 5 := by
     unfold domS
     rw [if_neg (by omega)]; rw [if_neg (by omega)]; rw [if_neg (by omega)]
    show _ = _
    rw [e]
    rfl

/-! `incognito/sign.find$1` -/
set_option maxRecDepth 100000 in
set_option maxHeartbeats 4000000 in
theorem c_isrow (r : Row) (m o : Int) (b1 b2 : Nat) (w0 : World) (G : Heap) (hG : Sub G w0) (hC1 : CellsAt G b1 0 [.int .i64 m]) (hC2 : CellsAt G b2 0 [.int .i64 o]):
  Calls Tryz.prog 68 #[.agg #[.int .i64 r.model, .int .i64 r.op, str r.ins, .int .i64 r.out, .bool r.may], .pointer (some ⟨b1, 0, none⟩), .pointer (some ⟨b2, 0, none⟩)] w0 (Ret w0 G (fun v _ => v = .bool (isRow m o r))) := by
 refine enter Tryz.func68 rfl Tryz.ntmps68 rfl ?_
 intro Q hQ a HE
 have HS := St.start0 hG
 refine sr fun K hK => ?_
 refine o_boxL [(0, _), (1, _), (2, _), (3, _), (4, _)] HE rfl HS rfl ⟨rfl, rfl, rfl, rfl, rfl, trivial⟩ ?_; clear HE HS; intro B3 w a HS HE
 refine rn 1 HE HS ?_; clear HE HS; intro a w HE HS
 apply hK; clear hK K
 refine sr fun K hK => ?_
 refine rn 2 HE HS ?_; clear HE HS; intro a w HE HS
 refine o_ldI HE rfl HS rfl T.s3 hC1 (j := 0) rfl rfl ?_; clear HE; intro a HE
 refine rn 2 HE HS ?_; clear HE HS; intro a w HE HS
 refine cutG 5 14 (.bool ((decide (r.model = m)) && (decide (r.op = o)))) HE HS ?_ ?_
 ·refine bsp HE (t := 9) rfl (fun hb2 => ?_) (fun hb2 => ?_)
  ·have hk3 := nm hb2
   refine rn 2 HE HS ?_; clear HE HS; intro a w HE HS
   refine op_on HE rfl rfl hb2 ?_
   refine o_ldI HE rfl HS rfl T.s3 hC2 (j := 0) rfl rfl ?_; clear HE; intro a HE
   refine rn 2 HE HS ?_; clear HE HS; intro a w HE HS
   exact ⟨HS, HE.cutT (by rw [hb2] <;> rfl)⟩
  ·skip
   refine rn 5 HE HS ?_; clear HE HS; intro a w HE HS
   exact ⟨HS, HE.cutT (by rw [hb2] <;> rfl)⟩
 clear HE HS; intro a w HE HS
 refine rn 1 HE HS ?_; clear HE HS; intro a w HE HS
 apply hK; clear hK K
 refine rt hQ HE HS ?_
 exact rfl

/-! `slices.IndexFunc[[]incognito/sign.row,incognito/sign.row]` -/
set_option maxRecDepth 100000 in
set_option maxHeartbeats 4000000 in
theorem c_index (rows : List Row) (A : Option Addr) (c : Nat) (m o : Int) (b1 b2 : Nat) (w0 : World) (G : Heap) (hG : Sub G w0) (hR : Rd kRow G A rows) (hC1 : CellsAt G b1 0 [.int .i64 m]) (hC2 : CellsAt G b2 0 [.int .i64 o]) (hl : rows.length ≤ 100):
  Calls Tryz.prog 67 #[.slice A rows.length c, .func (.func 68) #[] #[.pointer (some ⟨b1, 0, none⟩), .pointer (some ⟨b2, 0, none⟩)]] w0 (Ret w0 G (fun v _ => v = .int .i64 (idxR rows 0 m o))) := by
 refine enter Tryz.func67 rfl Tryz.ntmps67 rfl ?_
 intro Q hQ a HE
 have HS := St.start0 hG
 refine sr fun K hK => ?_
 refine rn 1 HE HS ?_; clear HE HS; intro a w HE HS
 apply hK; clear hK K
 refine wp_seq_k (fun K3 hK2 => ?_)
 refine sr fun K hK => ?_
 refine rn 3 HE HS ?_; clear HE HS; intro a w HE HS
 apply hK; clear hK K
 refine wp_block ?_
 refine loop (fun (i : Nat) a' w' => St w0 G [] G w' [] ∧ Env a' 19 [] [(0, .slice A rows.length c), (1, .func (.func 68) #[] #[.pointer (some ⟨b1, 0, none⟩), .pointer (some ⟨b2, 0, none⟩)]), (6, .slice A rows.length c), (7, .int .i64 (rows.length : Int)), (8, .int .i64 ((i : Nat) : Int))] ∧ (i ≤ rows.length ∧ idxR rows 0 m o = idxR (rows.drop i) ((i : Nat) : Int) m o)) (fun (i : Nat) => rows.length - i) 0 ⟨HS, HE.cut ⟨rfl, rfl, rfl, rfl, rfl, trivial⟩, ⟨Nat.zero_le _, rfl⟩⟩ ?_
 clear HE HS; intro i a w ⟨HS, HE, ⟨hi, hx⟩⟩
 refine sr fun K hK => ?_
 refine rn 1 HE HS ?_; clear HE HS; intro a w HE HS
 apply hK; clear hK K
 refine wp_seq_k (fun K8 hK7 => ?_)
 refine cond HE rfl (fun h9r => ?_) (fun h9r => ?_)
 ·have h9 := nm h9r
  refine wp_skip ?_
  refine hK7 _ _ ?_; clear hK7
  refine wp_seq_k (fun K11 hK10 => ?_)
  refine wp_block ?_
  refine sr fun K hK => ?_
  refine rn 2 HE HS ?_; clear HE HS; intro a w HE HS
  apply hK; clear hK K
  refine sr fun K hK => ?_
  refine rn 3 HE HS ?_; clear HE HS; intro a w HE HS
  have hi13 : ((i : Nat) : Int).toNat < rows.length := by omega
  obtain ⟨eb13, eo13, hA13, el13⟩ := Rd.at hR (List.getElem?_eq_getElem hi13); cases hA13
  obtain ⟨x13, ex13⟩ : ∃ x, rows[((i : Nat) : Int).toNat] = x := ⟨_, rfl⟩; rw [ex13] at el13
  have el13 := kRow_open el13
  refine o_ixL HE rfl rfl rfl T.l111 ⟨by omega, by omega⟩ ?_; clear HE; intro a HE
  refine o_ldIA HE rfl HS rfl el13 T.a80 ?_; clear HE; intro a HE
  refine o_callP HE rfl HS rfl rfl T.g68 (c_isrow x13 m o _ _ _ _ HS.sub hC1 hC2) ?_
  clear HE HS; rintro _ w a HS rfl HE
  apply hK; clear hK K
  refine cond HE rfl (fun h15r => ?_) (fun h15r => ?_)
  ·have h15 := nm h15r
   refine sr fun K hK => ?_
   refine rn 2 HE HS ?_; clear HE HS; intro a w HE HS
   apply hK; clear hK K
   refine rt hQ HE HS ?_
   have e : idxR rows 0 m o = ((i : Nat) : Int) := by
    rw [hx, idxR_step (i := i) (by simpa using ex13), if_pos (by simpa using h15r)]
   show _ = _
   rw [e]
   rfl
  ·have h15 := nm h15r
   refine wp_skip ?_
   refine hK10 _ _ ?_; clear hK10
   refine wp_region_lit ?_
   refine rn 2 HE HS ?_; clear HE HS; intro a w HE HS
   have hx2 : idxR rows 0 m o = idxR (rows.drop (i + 1)) ((i + 1 : Nat) : Int) m o := by
    rw [hx, idxR_step (i := i) (by simpa using ex13), if_neg (by simpa using h15r)]
    rfl
   exact ⟨i + 1, ⟨HS, HE.cut ⟨rfl, rfl, rfl, rfl, rfl, trivial⟩, ⟨by omega, hx2⟩⟩, by omega⟩
 ·have h9 := nm h9r
  refine wp_exit ?_
  refine hK2 _ _ ?_; clear hK2
  refine sr fun K hK => ?_
  refine rn 1 HE HS ?_; clear HE HS; intro a w HE HS
  apply hK; clear hK K
  refine rt hQ HE HS ?_
  have e : idxR rows 0 m o = -1 := by
   rw [hx, List.drop_of_length_le (by omega)]
   rfl
  show _ = _
  rw [e]
  rfl

/-! `incognito/sign.find` -/
set_option maxRecDepth 100000 in
set_option maxHeartbeats 4000000 in
theorem c_find (m o : Int) (w0 : World) (G : Heap) (hG : Sub G w0) :
  Calls Tryz.prog 44 #[.int .i64 m, .int .i64 o] w0 (Ret w0 G (fun v _ => v = .tuple #[.agg (rowCells (findS m o).1).toArray, .bool (findS m o).2])) := by
 refine enter Tryz.func44 rfl Tryz.ntmps44 rfl ?_
 intro Q hQ a HE
 have HS := St.start0 hG
 refine sr fun K hK => ?_
 refine o_bx1 HE rfl HS rfl rfl ?_; clear HE HS; intro B2 w a HS HE
 refine o_bx1 HE rfl HS rfl rfl ?_; clear HE HS; intro B3 w a HS HE
 refine o_allocZ HE rfl HS ?_; clear HE HS; intro B4 w a HS HE
 refine rn 1 HE HS ?_; clear HE HS; intro a w HE HS
 apply hK; clear hK K
 refine sr fun K hK => ?_
 refine o_build (cs := #[.int .i64 1, .int .i64 1, str [118], .int .i64 (-1), .bool false]) HE rfl rfl (by kernel_rfl) ?_; clear HE; intro a HE
 refine o_build (cs := #[.int .i64 1, .int .i64 2, str [], .int .i64 2, .bool true]) HE rfl rfl (by kernel_rfl) ?_; clear HE; intro a HE
 refine o_build (cs := #[.int .i64 2, .int .i64 1, str [118], .int .i64 (-1), .bool false]) HE rfl rfl (by kernel_rfl) ?_; clear HE; intro a HE
 refine o_build (cs := #[.int .i64 2, .int .i64 2, str [], .int .i64 2, .bool true]) HE rfl rfl (by kernel_rfl) ?_; clear HE; intro a HE
 refine o_build (cs := #[.int .i64 2, .int .i64 3, str [118, 118], .int .i64 6, .bool false]) HE rfl rfl (by kernel_rfl) ?_; clear HE; intro a HE
 refine o_build (cs := #[.int .i64 3, .int .i64 4, str [118], .int .i64 (-1), .bool false]) HE rfl rfl (by kernel_rfl) ?_; clear HE; intro a HE
 refine o_build (cs := #[.int .i64 3, .int .i64 5, str [118], .int .i64 (-1), .bool false]) HE rfl rfl (by kernel_rfl) ?_; clear HE; intro a HE
 refine o_build (cs := #[.int .i64 3, .int .i64 6, str [118], .int .i64 6, .bool false]) HE rfl rfl (by kernel_rfl) ?_; clear HE; intro a HE
 refine o_build (cs := #[.int .i64 4, .int .i64 7, str [102, 118], .int .i64 (-1), .bool false]) HE rfl rfl (by kernel_rfl) ?_; clear HE; intro a HE
 refine o_build (cs := #[.int .i64 4, .int .i64 8, str [102], .int .i64 2, .bool true]) HE rfl rfl (by kernel_rfl) ?_; clear HE; intro a HE
 refine o_build (cs := #[.int .i64 4, .int .i64 5, str [102], .int .i64 (-1), .bool false]) HE rfl rfl (by kernel_rfl) ?_; clear HE; intro a HE
 refine o_build (cs := #[.int .i64 5, .int .i64 9, str [118], .int .i64 (-1), .bool false]) HE rfl rfl (by kernel_rfl) ?_; clear HE; intro a HE
 refine o_build (cs := #[.int .i64 5, .int .i64 10, str [], .int .i64 2, .bool true]) HE rfl rfl (by kernel_rfl) ?_; clear HE; intro a HE
 refine o_build (cs := #[.int .i64 6, .int .i64 9, str [118], .int .i64 (-1), .bool false]) HE rfl rfl (by kernel_rfl) ?_; clear HE; intro a HE
 refine o_build (cs := #[.int .i64 6, .int .i64 10, str [], .int .i64 2, .bool true]) HE rfl rfl (by kernel_rfl) ?_; clear HE; intro a HE
 refine o_build (cs := #[.int .i64 7, .int .i64 11, str [], .int .i64 6, .bool false]) HE rfl rfl (by kernel_rfl) ?_; clear HE; intro a HE
 refine o_build (cs := #[.int .i64 7, .int .i64 12, str [], .int .i64 6, .bool false]) HE rfl rfl (by kernel_rfl) ?_; clear HE; intro a HE
 refine o_build (cs := #[.int .i64 8, .int .i64 4, str [110], .int .i64 (-1), .bool false]) HE rfl rfl (by kernel_rfl) ?_; clear HE; intro a HE
 refine o_build (cs := #[.int .i64 8, .int .i64 2, str [], .int .i64 5, .bool false]) HE rfl rfl (by kernel_rfl) ?_; clear HE; intro a HE
 refine o_build (cs := #[.int .i64 9, .int .i64 1, str [111], .int .i64 (-1), .bool false]) HE rfl rfl (by kernel_rfl) ?_; clear HE; intro a HE
 refine o_build (cs := #[.int .i64 9, .int .i64 2, str [], .int .i64 4, .bool true]) HE rfl rfl (by kernel_rfl) ?_; clear HE; intro a HE
 refine o_build (cs := #[.int .i64 10, .int .i64 7, str [111, 118], .int .i64 (-1), .bool false]) HE rfl rfl (by kernel_rfl) ?_; clear HE; intro a HE
 refine o_build (cs := #[.int .i64 10, .int .i64 5, str [111], .int .i64 (-1), .bool false]) HE rfl rfl (by kernel_rfl) ?_; clear HE; intro a HE
 refine o_build (cs := #[.int .i64 10, .int .i64 13, str [111, 111], .int .i64 99, .bool false]) HE rfl rfl (by kernel_rfl) ?_; clear HE; intro a HE
 refine o_buildSl (cs := #[.int .i64 1, .int .i64 1, str [118], .int .i64 (-1), .bool false, .int .i64 1, .int .i64 2, str [], .int .i64 2, .bool true, .int .i64 2, .int .i64 1, str [118], .int .i64 (-1), .bool false, .int .i64 2, .int .i64 2, str [], .int .i64 2, .bool true, .int .i64 2, .int .i64 3, str [118, 118], .int .i64 6, .bool false, .int .i64 3, .int .i64 4, str [118], .int .i64 (-1), .bool false, .int .i64 3, .int .i64 5, str [118], .int .i64 (-1), .bool false, .int .i64 3, .int .i64 6, str [118], .int .i64 6, .bool false, .int .i64 4, .int .i64 7, str [102, 118], .int .i64 (-1), .bool false, .int .i64 4, .int .i64 8, str [102], .int .i64 2, .bool true, .int .i64 4, .int .i64 5, str [102], .int .i64 (-1), .bool false, .int .i64 5, .int .i64 9, str [118], .int .i64 (-1), .bool false, .int .i64 5, .int .i64 10, str [], .int .i64 2, .bool true, .int .i64 6, .int .i64 9, str [118], .int .i64 (-1), .bool false, .int .i64 6, .int .i64 10, str [], .int .i64 2, .bool true, .int .i64 7, .int .i64 11, str [], .int .i64 6, .bool false, .int .i64 7, .int .i64 12, str [], .int .i64 6, .bool false, .int .i64 8, .int .i64 4, str [110], .int .i64 (-1), .bool false, .int .i64 8, .int .i64 2, str [], .int .i64 5, .bool false, .int .i64 9, .int .i64 1, str [111], .int .i64 (-1), .bool false, .int .i64 9, .int .i64 2, str [], .int .i64 4, .bool true, .int .i64 10, .int .i64 7, str [111, 118], .int .i64 (-1), .bool false, .int .i64 10, .int .i64 5, str [111], .int .i64 (-1), .bool false, .int .i64 10, .int .i64 13, str [111, 111], .int .i64 99, .bool false]) [(0, _), (1, _), (2, _), (3, _), (4, _), (5, _), (6, _), (7, _), (8, _), (9, _), (10, _), (11, _), (12, _), (13, _), (14, _), (15, _), (16, _), (17, _), (18, _), (19, _), (20, _), (21, _), (22, _), (23, _), (24, _), (25, _), (26, _), (27, _), (28, _), (29, _), (30, _), (31, _), (32, _), (33, _), (34, _), (35, _), (36, _), (37, _), (38, _), (39, _), (40, _), (41, _), (42, _), (43, _), (44, _), (45, _), (46, _), (47, _), (48, _), (49, _), (50, _), (51, _), (52, _), (53, _), (54, _), (55, _), (56, _), (57, _), (58, _), (59, _), (60, _), (61, _), (62, _), (63, _), (64, _), (65, _), (66, _), (67, _), (68, _), (69, _), (70, _), (71, _), (72, _), (73, _), (74, _), (75, _), (76, _), (77, _), (78, _), (79, _), (80, _), (81, _), (82, _), (83, _), (84, _), (85, _), (86, _), (87, _), (88, _), (89, _), (90, _), (91, _), (92, _), (93, _), (94, _), (95, _), (96, _), (97, _), (98, _), (99, _), (100, _), (101, _), (102, _), (103, _), (104, _), (105, _), (106, _), (107, _), (108, _), (109, _), (110, _), (111, _), (112, _), (113, _), (114, _), (115, _), (116, _), (117, _), (118, _), (119, _)] HE rfl HS rfl T.l111 (by kernel_rfl) ⟨rfl, rfl, rfl, rfl, rfl, rfl, rfl, rfl, rfl, rfl, rfl, rfl, rfl, rfl, rfl, rfl, rfl, rfl, rfl, rfl, rfl, rfl, rfl, rfl, rfl, rfl, rfl, rfl, rfl, rfl, rfl, rfl, rfl, rfl, rfl, rfl, rfl, rfl, rfl, rfl, rfl, rfl, rfl, rfl, rfl, rfl, rfl, rfl, rfl, rfl, rfl, rfl, rfl, rfl, rfl, rfl, rfl, rfl, rfl, rfl, rfl, rfl, rfl, rfl, rfl, rfl, rfl, rfl, rfl, rfl, rfl, rfl, rfl, rfl, rfl, rfl, rfl, rfl, rfl, rfl, rfl, rfl, rfl, rfl, rfl, rfl, rfl, rfl, rfl, rfl, rfl, rfl, rfl, rfl, rfl, rfl, rfl, rfl, rfl, rfl, rfl, rfl, rfl, rfl, rfl, rfl, rfl, rfl, rfl, rfl, rfl, rfl, rfl, rfl, rfl, rfl, rfl, rfl, rfl, rfl, trivial⟩ ?_; clear HE HS; intro B32 w a HS HE
 obtain ⟨G2, hle4, hC3, HS'⟩ := HS.stillHead (n := 120) rfl; clear HS; have HS := HS'; clear HS'
 have hW5 := Rd.ofCells (K := kRow) (xs := rowsT) hC3 ⟨rfl, rfl, rfl, rfl, rfl, rfl, rfl, rfl, rfl, rfl, rfl, rfl, rfl, rfl, rfl, rfl, rfl, rfl, rfl, rfl, rfl, rfl, rfl, rfl, rfl⟩
 refine rn 1 HE HS ?_; clear HE HS; intro a w HE HS
 apply hK; clear hK K
 refine sr fun K hK => ?_
 refine rn 1 HE HS ?_; clear HE HS; intro a w HE HS
 replace HS := HS.front (C := [(B3, Cells 3 [(0, .int .i64 o)])]) (.there .here)
 obtain ⟨G7, hle9, hC8, HS'⟩ := HS.stillHead (n := 1) rfl; clear HS; have HS := HS'; clear HS'
 replace hC3 := hC3.le hle9
 replace hW5 := hW5.le hle9
 replace HS := HS.front (C := [(B2, Cells 3 [(0, .int .i64 m)])]) (.there .here)
 obtain ⟨G10, hle12, hC11, HS'⟩ := HS.stillHead (n := 1) rfl; clear HS; have HS := HS'; clear HS'
 replace hC3 := hC3.le hle12
 replace hW5 := hW5.le hle12
 replace hC8 := hC8.le hle12
 skip
 refine rn 1 HE HS ?_; clear HE HS; intro a w HE HS
 refine o_callP HE rfl HS rfl rfl T.g67 (c_index rowsT _ _ m o _ _ _ _ HS.sub hW5 hC11 hC8 (by decide)) ?_
 clear HE HS; rintro _ w a HS rfl HE
 refine rn 1 HE HS ?_; clear HE HS; intro a w HE HS
 apply hK; clear hK K
 refine wp_seq_k (fun K15 hK14 => ?_)
 refine sr fun K hK => ?_
 refine rn 2 HE HS ?_; clear HE HS; intro a w HE HS
 apply hK; clear hK K
 refine cond HE rfl (fun h17r => ?_) (fun h17r => ?_)
 ·have h17 := nm h17r
  refine sr fun K hK => ?_
  refine o_build (cs := #[.int .i64 0, .int .i64 0, str [], .int .i64 0, .bool false]) HE rfl rfl (by kernel_rfl) ?_; clear HE; intro a HE
  refine rn 2 HE HS ?_; clear HE HS; intro a w HE HS
  apply hK; clear hK K
  refine rt hQ HE HS ?_
  have e := find_no h17
  show _ = _
  rw [e]
  rfl
 ·have h17 := nm h17r
  refine wp_skip ?_
  refine hK14 _ _ ?_; clear hK14
  refine sr fun K hK => ?_
  refine rn 2 HE HS ?_; clear HE HS; intro a w HE HS
  have hrl : rowsT.length = 24 := rfl
  have hi19 : (idxR rowsT 0 m o).toNat < rowsT.length := by exact (find_yes (by assumption)).1
  obtain ⟨eb19, eo19, hA19, el19⟩ := Rd.at hW5 (List.getElem?_eq_getElem hi19); cases hA19
  obtain ⟨x19, ex19⟩ : ∃ x, rowsT[(idxR rowsT 0 m o).toNat] = x := ⟨_, rfl⟩; rw [ex19] at el19
  have el19 := kRow_open el19
  refine o_ixL HE rfl rfl rfl T.l111 ⟨by omega, by omega⟩ ?_; clear HE; intro a HE
  refine o_ldIA HE rfl HS rfl el19 T.a80 ?_; clear HE; intro a HE
  refine rn 2 HE HS ?_; clear HE HS; intro a w HE HS
  apply hK; clear hK K
  refine rt hQ HE HS ?_
  have e := (find_yes h17).2 _ _ ex19
  show _ = _
  rw [e]
  rfl

/-! `incognito/sign.number` -/
set_option maxRecDepth 100000 in
set_option maxHeartbeats 4000000 in
theorem c_numW (sw : Bs) (ws : List Bs) (A : Option Addr) (c : Nat) (w0 : World) (G : Heap) (hG : Sub G w0) (hR : Rd Knd.s G A ws) (hl : ws.length ≤ 100):
  Calls Tryz.prog 95 #[str sw, .slice A ws.length c] w0 (Ret w0 G (fun v _ => v = .tuple #[.int .i64 (idxW ws 0 sw).1, .bool (idxW ws 0 sw).2])) := by
 refine enter Tryz.func95 rfl Tryz.ntmps95 rfl ?_
 intro Q hQ a HE
 have HS := St.start0 hG
 refine sr fun K hK => ?_
 refine rn 2 HE HS ?_; clear HE HS; intro a w HE HS
 apply hK; clear hK K
 refine wp_seq_k (fun K3 hK2 => ?_)
 refine sr fun K hK => ?_
 refine rn 3 HE HS ?_; clear HE HS; intro a w HE HS
 apply hK; clear hK K
 refine wp_block ?_
 refine loop (fun (i : Nat) a' w' => St w0 G [] G w' [] ∧ Env a' 24 [] [(0, str sw), (8, .slice A ws.length c), (9, .int .i64 (ws.length : Int)), (10, .int .i64 ((i : Nat) : Int))] ∧ (i ≤ ws.length ∧ idxW ws 0 sw = idxW (ws.drop i) ((i : Nat) : Int) sw)) (fun (i : Nat) => ws.length - i) 0 ⟨HS, HE.cut ⟨rfl, rfl, rfl, rfl, trivial⟩, ⟨Nat.zero_le _, rfl⟩⟩ ?_
 clear HE HS; intro i a w ⟨HS, HE, ⟨hi, hx⟩⟩
 refine sr fun K hK => ?_
 refine rn 1 HE HS ?_; clear HE HS; intro a w HE HS
 apply hK; clear hK K
 refine wp_seq_k (fun K8 hK7 => ?_)
 refine cond HE rfl (fun h9r => ?_) (fun h9r => ?_)
 ·have h9 := nm h9r
  refine wp_skip ?_
  refine hK7 _ _ ?_; clear hK7
  refine wp_seq_k (fun K11 hK10 => ?_)
  refine wp_block ?_
  refine sr fun K hK => ?_
  refine rn 1 HE HS ?_; clear HE HS; intro a w HE HS
  have hi12 : ((i : Nat) : Int).toNat < ws.length := by omega
  obtain ⟨eb12, eo12, hA12, el12⟩ := Rd.at hR (List.getElem?_eq_getElem hi12); cases hA12
  obtain ⟨x12, ex12⟩ : ∃ x, ws[((i : Nat) : Int).toNat] = x := ⟨_, rfl⟩; rw [ex12] at el12
  have el12 := kof_open (enc := fun l => str l) el12
  refine o_ixL HE rfl rfl rfl T.l53 ⟨by omega, by omega⟩ ?_; clear HE; intro a HE
  refine o_ldI HE rfl HS rfl T.s9 el12 (j := 0) rfl rfl ?_; clear HE; intro a HE
  refine rn 2 HE HS ?_; clear HE HS; intro a w HE HS
  apply hK; clear hK K
  refine sr fun K hK => ?_
  refine rn 3 HE HS ?_; clear HE HS; intro a w HE HS
  refine cutG 4 21 (.bool ((decide (0 < ((i : Nat) : Int))) && (x12 == sw))) HE HS ?_ ?_
  ·refine bsp HE (t := 17) rfl (fun hb14 => ?_) (fun hb14 => ?_)
   ·have hk15 := nm hb14
    refine rn 4 HE HS ?_; clear HE HS; intro a w HE HS
    exact ⟨HS, HE.cutT (by rw [hb14] <;> rfl)⟩
   ·skip
    refine rn 4 HE HS ?_; clear HE HS; intro a w HE HS
    exact ⟨HS, HE.cutT (by rw [hb14] <;> rfl)⟩
  clear HE HS; intro a w HE HS
  apply hK; clear hK K
  refine cond HE rfl (fun h17r => ?_) (fun h17r => ?_)
  ·have h17 := nm h17r
   refine sr fun K hK => ?_
   refine rn 3 HE HS ?_; clear HE HS; intro a w HE HS
   apply hK; clear hK K
   refine rt hQ HE HS ?_
   have e : idxW ws 0 sw = (((i : Nat) : Int), true) := by
    rw [hx, idxW_step (i := i) (by simpa using ex12), if_pos h17r]
   show _ = _
   rw [e]
   rfl
  ·have h17 := nm h17r
   refine wp_skip ?_
   refine hK10 _ _ ?_; clear hK10
   refine wp_region_lit ?_
   refine rn 2 HE HS ?_; clear HE HS; intro a w HE HS
   have hx2 : idxW ws 0 sw = idxW (ws.drop (i + 1)) ((i + 1 : Nat) : Int) sw := by
    rw [hx, idxW_step (i := i) (by simpa using ex12), if_neg (by rw [h17r]; decide)]
    rfl
   exact ⟨i + 1, ⟨HS, HE.cut ⟨rfl, rfl, rfl, rfl, trivial⟩, ⟨by omega, hx2⟩⟩, by omega⟩
 ·have h9 := nm h9r
  refine wp_exit ?_
  refine hK2 _ _ ?_; clear hK2
  refine sr fun K hK => ?_
  refine rn 2 HE HS ?_; clear HE HS; intro a w HE HS
  apply hK; clear hK K
  refine rt hQ HE HS ?_
  have e : idxW ws 0 sw = (0, false) := by
   rw [hx, List.drop_of_length_le (by omega)]
   rfl
  show _ = _
  rw [e]
  rfl

/-! `incognito/sign.Model` -/
set_option maxRecDepth 100000 in
set_option maxHeartbeats 4000000 in
theorem c_model (sw : Bs) (w0 : World) (G : Heap) (hG : Sub G w0) (hgm : CellsAt G 3 0 [str [], str [114, 101, 103], str [99, 97, 115], str [115, 101, 116], str [109, 97, 112], str [102, 105, 102, 111], str [115, 116, 97, 99, 107], str [108, 111, 99, 107], str [99, 111, 117, 110, 116], str [109, 97, 120], str [111, 109, 97, 112]]):
  Calls Tryz.prog 82 #[str sw] w0 (Ret w0 G (fun v _ => v = .tuple #[.int .i64 (modelS sw).1, .bool (modelS sw).2])) := by
 refine enter Tryz.func82 rfl Tryz.ntmps82 rfl ?_
 intro Q hQ a HE
 have HS := St.start0 hG
 refine sr fun K hK => ?_
 refine rn 2 HE HS ?_; clear HE HS; intro a w HE HS
 apply hK; clear hK K
 refine sr fun K hK => ?_
 refine rn 1 HE HS ?_; clear HE HS; intro a w HE HS
 refine o_sliceArr HE rfl rfl T.r89 rfl ?_; clear HE; intro a HE
 have hW2 := Rd.ofCells (K := Knd.s) (xs := modelsW) hgm ⟨rfl, rfl, rfl, rfl, rfl, rfl, rfl, rfl, rfl, rfl, rfl, rfl⟩
 refine o_callP HE rfl HS rfl rfl T.g95 (c_numW sw modelsW _ _ _ _ HS.sub hW2 (by decide)) ?_
 clear HE HS; rintro _ w a HS rfl HE
 refine rn 4 HE HS ?_; clear HE HS; intro a w HE HS
 apply hK; clear hK K
 refine rt hQ HE HS ?_
 exact rfl

/-! `incognito/sign.Op` -/
set_option maxRecDepth 100000 in
set_option maxHeartbeats 4000000 in
theorem c_op (sw : Bs) (w0 : World) (G : Heap) (hG : Sub G w0) (hgo : CellsAt G 4 0 [str [], str [119, 114, 105, 116, 101], str [114, 101, 97, 100], str [115, 119, 97, 112], str [97, 100, 100], str [100, 101, 108], str [104, 97, 115], str [112, 117, 116], str [103, 101, 116], str [112, 117, 115, 104], str [112, 111, 112], str [116, 97, 107, 101], str [102, 114, 101, 101], str [115, 99, 97, 110]]):
  Calls Tryz.prog 83 #[str sw] w0 (Ret w0 G (fun v _ => v = .tuple #[.int .i64 (opS sw).1, .bool (opS sw).2])) := by
 refine enter Tryz.func83 rfl Tryz.ntmps83 rfl ?_
 intro Q hQ a HE
 have HS := St.start0 hG
 refine sr fun K hK => ?_
 refine rn 2 HE HS ?_; clear HE HS; intro a w HE HS
 apply hK; clear hK K
 refine sr fun K hK => ?_
 refine rn 1 HE HS ?_; clear HE HS; intro a w HE HS
 refine o_sliceArr HE rfl rfl T.r90 rfl ?_; clear HE; intro a HE
 have hW2 := Rd.ofCells (K := Knd.s) (xs := opsW) hgo ⟨rfl, rfl, rfl, rfl, rfl, rfl, rfl, rfl, rfl, rfl, rfl, rfl, rfl, rfl, rfl⟩
 refine o_callP HE rfl HS rfl rfl T.g95 (c_numW sw opsW _ _ _ _ HS.sub hW2 (by decide)) ?_
 clear HE HS; rintro _ w a HS rfl HE
 refine rn 4 HE HS ?_; clear HE HS; intro a w HE HS
 apply hK; clear hK K
 refine rt hQ HE HS ?_
 exact rfl

/-! `incognito/event.typed` -/
set_option maxRecDepth 100000 in
set_option maxHeartbeats 4000000 in
theorem c_typed (sw : Bs) (w0 : World) (G : Heap) (hG : Sub G w0) (hgn : CellsAt G 0 0 [str [], str [105, 110, 118, 111, 107, 101], str [111, 107], str [102, 97, 105, 108], str [105, 110, 102, 111]]):
  Calls Tryz.prog 64 #[str sw] w0 (Ret w0 G (fun v _ => v = .tuple #[.int .i64 (typedS sw).1, .bool (typedS sw).2])) := by
 refine enter Tryz.func64 rfl Tryz.ntmps64 rfl ?_
 intro Q hQ a HE
 have HS := St.start0 hG
 refine sr fun K hK => ?_
 refine rn 2 HE HS ?_; clear HE HS; intro a w HE HS
 apply hK; clear hK K
 refine wp_seq_k (fun K3 hK2 => ?_)
 refine sr fun K hK => ?_
 refine o_ldIA HE rfl HS rfl hgn T.a52 ?_; clear HE; intro a HE
 refine rn 1 HE HS ?_; clear HE HS; intro a w HE HS
 apply hK; clear hK K
 refine wp_block ?_
 refine wp_loop_rounds 6 ?_
 rw [rounds_succ]
 refine sr fun K hK => ?_
 refine rn 1 HE HS ?_; clear HE HS; intro a w HE HS
 apply hK; clear hK K
 refine wp_seq_k (fun K7 hK6 => ?_)
 refine cond HE rfl (fun h8r => ?_) (fun h8r => ?_)
 ·have h8 := nm h8r
  refine wp_skip ?_
  refine hK6 _ _ ?_; clear hK6
  refine wp_seq_k (fun K10 hK9 => ?_)
  refine wp_block ?_
  refine sr fun K hK => ?_
  refine rn 1 HE HS ?_; clear HE HS; intro a w HE HS
  refine o_ixV HE rfl rfl rfl T.r52 Tryz.underlying52 (by decide) rfl (.inl ⟨T.s9, rfl⟩) ?_; clear HE; intro a HE
  refine rn 2 HE HS ?_; clear HE HS; intro a w HE HS
  apply hK; clear hK K
  refine sr fun K hK => ?_
  refine rn 3 HE HS ?_; clear HE HS; intro a w HE HS
  refine cutG 4 17 (.bool ((decide (0 < (0 : Int))) && ([] == sw))) HE HS ?_ ?_
  ·refine bsp HE (t := 13) rfl (fun hb12 => ?_) (fun hb12 => ?_)
   ·exact absurd hb12 (by decide)
   ·skip
    refine rn 4 HE HS ?_; clear HE HS; intro a w HE HS
    exact ⟨HS, HE.cutT (by rw [hb12] <;> rfl)⟩
  clear HE HS; intro a w HE HS
  apply hK; clear hK K
  refine cond HE rfl (fun h14r => ?_) (fun h14r => ?_)
  ·have h14 := nm h14r
   refine sr fun K hK => ?_
   refine rn 3 HE HS ?_; clear HE HS; intro a w HE HS
   apply hK; clear hK K
   refine rt hQ HE HS ?_
   exact absurd h14r (by simp)
  ·have h14 := nm h14r
   refine wp_skip ?_
   refine hK9 _ _ ?_; clear hK9
   refine wp_region_lit ?_
   refine rn 2 HE HS ?_; clear HE HS; intro a w HE HS
   show Code.rounds _ _ _ _ _ _
   replace HE := HE.cut (L' := [(0, str sw), (6, .agg #[str [], str [105, 110, 118, 111, 107, 101], str [111, 107], str [102, 97, 105, 108], str [105, 110, 102, 111]]), (7, .int .i64 1)]) ⟨rfl, rfl, rfl, trivial⟩
   rw [rounds_succ]
   refine sr fun K hK => ?_
   refine rn 1 HE HS ?_; clear HE HS; intro a w HE HS
   apply hK; clear hK K
   refine wp_seq_k (fun K18 hK17 => ?_)
   refine cond HE rfl (fun h19r => ?_) (fun h19r => ?_)
   ·have h19 := nm h19r
    refine wp_skip ?_
    refine hK17 _ _ ?_; clear hK17
    refine wp_seq_k (fun K21 hK20 => ?_)
    refine wp_block ?_
    refine sr fun K hK => ?_
    refine rn 1 HE HS ?_; clear HE HS; intro a w HE HS
    refine o_ixV HE rfl rfl rfl T.r52 Tryz.underlying52 (by decide) rfl (.inl ⟨T.s9, rfl⟩) ?_; clear HE; intro a HE
    refine rn 2 HE HS ?_; clear HE HS; intro a w HE HS
    apply hK; clear hK K
    refine sr fun K hK => ?_
    refine rn 3 HE HS ?_; clear HE HS; intro a w HE HS
    refine cutG 4 17 (.bool ((decide (0 < (1 : Int))) && ([105, 110, 118, 111, 107, 101] == sw))) HE HS ?_ ?_
    ·refine bsp HE (t := 13) rfl (fun hb23 => ?_) (fun hb23 => ?_)
     ·have hk24 := nm hb23
      refine rn 4 HE HS ?_; clear HE HS; intro a w HE HS
      exact ⟨HS, HE.cutT (by rw [hb23] <;> rfl)⟩
     ·exact absurd hb23 (by decide)
    clear HE HS; intro a w HE HS
    apply hK; clear hK K
    refine cond HE rfl (fun h26r => ?_) (fun h26r => ?_)
    ·have h26 := nm h26r
     refine sr fun K hK => ?_
     refine rn 3 HE HS ?_; clear HE HS; intro a w HE HS
     apply hK; clear hK K
     refine rt hQ HE HS ?_
     have e : typedS sw = (1, true) := by
      unfold typedS
      rw [if_pos (by simpa using h26)]
     show _ = _
     rw [e]
     rfl
    ·have h26 := nm h26r
     refine wp_skip ?_
     refine hK20 _ _ ?_; clear hK20
     refine wp_region_lit ?_
     refine rn 2 HE HS ?_; clear HE HS; intro a w HE HS
     show Code.rounds _ _ _ _ _ _
     replace HE := HE.cut (L' := [(0, str sw), (6, .agg #[str [], str [105, 110, 118, 111, 107, 101], str [111, 107], str [102, 97, 105, 108], str [105, 110, 102, 111]]), (7, .int .i64 2)]) ⟨rfl, rfl, rfl, trivial⟩
     rw [rounds_succ]
     refine sr fun K hK => ?_
     refine rn 1 HE HS ?_; clear HE HS; intro a w HE HS
     apply hK; clear hK K
     refine wp_seq_k (fun K30 hK29 => ?_)
     refine cond HE rfl (fun h31r => ?_) (fun h31r => ?_)
     ·have h31 := nm h31r
      refine wp_skip ?_
      refine hK29 _ _ ?_; clear hK29
      refine wp_seq_k (fun K33 hK32 => ?_)
      refine wp_block ?_
      refine sr fun K hK => ?_
      refine rn 1 HE HS ?_; clear HE HS; intro a w HE HS
      refine o_ixV HE rfl rfl rfl T.r52 Tryz.underlying52 (by decide) rfl (.inl ⟨T.s9, rfl⟩) ?_; clear HE; intro a HE
      refine rn 2 HE HS ?_; clear HE HS; intro a w HE HS
      apply hK; clear hK K
      refine sr fun K hK => ?_
      refine rn 3 HE HS ?_; clear HE HS; intro a w HE HS
      refine cutG 4 17 (.bool ((decide (0 < (2 : Int))) && ([111, 107] == sw))) HE HS ?_ ?_
      ·refine bsp HE (t := 13) rfl (fun hb35 => ?_) (fun hb35 => ?_)
       ·have hk36 := nm hb35
        refine rn 4 HE HS ?_; clear HE HS; intro a w HE HS
        exact ⟨HS, HE.cutT (by rw [hb35] <;> rfl)⟩
       ·exact absurd hb35 (by decide)
      clear HE HS; intro a w HE HS
      apply hK; clear hK K
      refine cond HE rfl (fun h38r => ?_) (fun h38r => ?_)
      ·have h38 := nm h38r
       refine sr fun K hK => ?_
       refine rn 3 HE HS ?_; clear HE HS; intro a w HE HS
       apply hK; clear hK K
       refine rt hQ HE HS ?_
       have e : typedS sw = (2, true) := by
        unfold typedS
        rw [if_neg (by simpa using h26)]
        rw [if_pos (by simpa using h38)]
       show _ = _
       rw [e]
       rfl
      ·have h38 := nm h38r
       refine wp_skip ?_
       refine hK32 _ _ ?_; clear hK32
       refine wp_region_lit ?_
       refine rn 2 HE HS ?_; clear HE HS; intro a w HE HS
       show Code.rounds _ _ _ _ _ _
       replace HE := HE.cut (L' := [(0, str sw), (6, .agg #[str [], str [105, 110, 118, 111, 107, 101], str [111, 107], str [102, 97, 105, 108], str [105, 110, 102, 111]]), (7, .int .i64 3)]) ⟨rfl, rfl, rfl, trivial⟩
       rw [rounds_succ]
       refine sr fun K hK => ?_
       refine rn 1 HE HS ?_; clear HE HS; intro a w HE HS
       apply hK; clear hK K
       refine wp_seq_k (fun K42 hK41 => ?_)
       refine cond HE rfl (fun h43r => ?_) (fun h43r => ?_)
       ·have h43 := nm h43r
        refine wp_skip ?_
        refine hK41 _ _ ?_; clear hK41
        refine wp_seq_k (fun K45 hK44 => ?_)
        refine wp_block ?_
        refine sr fun K hK => ?_
        refine rn 1 HE HS ?_; clear HE HS; intro a w HE HS
        refine o_ixV HE rfl rfl rfl T.r52 Tryz.underlying52 (by decide) rfl (.inl ⟨T.s9, rfl⟩) ?_; clear HE; intro a HE
        refine rn 2 HE HS ?_; clear HE HS; intro a w HE HS
        apply hK; clear hK K
        refine sr fun K hK => ?_
        refine rn 3 HE HS ?_; clear HE HS; intro a w HE HS
        refine cutG 4 17 (.bool ((decide (0 < (3 : Int))) && ([102, 97, 105, 108] == sw))) HE HS ?_ ?_
        ·refine bsp HE (t := 13) rfl (fun hb47 => ?_) (fun hb47 => ?_)
         ·have hk48 := nm hb47
          refine rn 4 HE HS ?_; clear HE HS; intro a w HE HS
          exact ⟨HS, HE.cutT (by rw [hb47] <;> rfl)⟩
         ·exact absurd hb47 (by decide)
        clear HE HS; intro a w HE HS
        apply hK; clear hK K
        refine cond HE rfl (fun h50r => ?_) (fun h50r => ?_)
        ·have h50 := nm h50r
         refine sr fun K hK => ?_
         refine rn 3 HE HS ?_; clear HE HS; intro a w HE HS
         apply hK; clear hK K
         refine rt hQ HE HS ?_
         have e : typedS sw = (3, true) := by
          unfold typedS
          rw [if_neg (by simpa using h26)]
          rw [if_neg (by simpa using h38)]
          rw [if_pos (by simpa using h50)]
         show _ = _
         rw [e]
         rfl
        ·have h50 := nm h50r
         refine wp_skip ?_
         refine hK44 _ _ ?_; clear hK44
         refine wp_region_lit ?_
         refine rn 2 HE HS ?_; clear HE HS; intro a w HE HS
         show Code.rounds _ _ _ _ _ _
         replace HE := HE.cut (L' := [(0, str sw), (6, .agg #[str [], str [105, 110, 118, 111, 107, 101], str [111, 107], str [102, 97, 105, 108], str [105, 110, 102, 111]]), (7, .int .i64 4)]) ⟨rfl, rfl, rfl, trivial⟩
         rw [rounds_succ]
         refine sr fun K hK => ?_
         refine rn 1 HE HS ?_; clear HE HS; intro a w HE HS
         apply hK; clear hK K
         refine wp_seq_k (fun K54 hK53 => ?_)
         refine cond HE rfl (fun h55r => ?_) (fun h55r => ?_)
         ·have h55 := nm h55r
          refine wp_skip ?_
          refine hK53 _ _ ?_; clear hK53
          refine wp_seq_k (fun K57 hK56 => ?_)
          refine wp_block ?_
          refine sr fun K hK => ?_
          refine rn 1 HE HS ?_; clear HE HS; intro a w HE HS
          refine o_ixV HE rfl rfl rfl T.r52 Tryz.underlying52 (by decide) rfl (.inl ⟨T.s9, rfl⟩) ?_; clear HE; intro a HE
          refine rn 2 HE HS ?_; clear HE HS; intro a w HE HS
          apply hK; clear hK K
          refine sr fun K hK => ?_
          refine rn 3 HE HS ?_; clear HE HS; intro a w HE HS
          refine cutG 4 17 (.bool ((decide (0 < (4 : Int))) && ([105, 110, 102, 111] == sw))) HE HS ?_ ?_
          ·refine bsp HE (t := 13) rfl (fun hb59 => ?_) (fun hb59 => ?_)
           ·have hk60 := nm hb59
            refine rn 4 HE HS ?_; clear HE HS; intro a w HE HS
            exact ⟨HS, HE.cutT (by rw [hb59] <;> rfl)⟩
           ·exact absurd hb59 (by decide)
          clear HE HS; intro a w HE HS
          apply hK; clear hK K
          refine cond HE rfl (fun h62r => ?_) (fun h62r => ?_)
          ·have h62 := nm h62r
           refine sr fun K hK => ?_
           refine rn 3 HE HS ?_; clear HE HS; intro a w HE HS
           apply hK; clear hK K
           refine rt hQ HE HS ?_
           have e : typedS sw = (4, true) := by
            unfold typedS
            rw [if_neg (by simpa using h26)]
            rw [if_neg (by simpa using h38)]
            rw [if_neg (by simpa using h50)]
            rw [if_pos (by simpa using h62)]
           show _ = _
           rw [e]
           rfl
          ·have h62 := nm h62r
           refine wp_skip ?_
           refine hK56 _ _ ?_; clear hK56
           refine wp_region_lit ?_
           refine rn 2 HE HS ?_; clear HE HS; intro a w HE HS
           show Code.rounds _ _ _ _ _ _
           replace HE := HE.cut (L' := [(0, str sw), (6, .agg #[str [], str [105, 110, 118, 111, 107, 101], str [111, 107], str [102, 97, 105, 108], str [105, 110, 102, 111]]), (7, .int .i64 5)]) ⟨rfl, rfl, rfl, trivial⟩
           rw [rounds_succ]
           refine sr fun K hK => ?_
           refine rn 1 HE HS ?_; clear HE HS; intro a w HE HS
           apply hK; clear hK K
           refine wp_seq_k (fun K66 hK65 => ?_)
           refine cond HE rfl (fun h67r => ?_) (fun h67r => ?_)
           ·exact absurd h67r (by decide)
           ·have h67 := nm h67r
            refine wp_exit ?_
            refine hK2 _ _ ?_; clear hK2
            refine sr fun K hK => ?_
            refine rn 2 HE HS ?_; clear HE HS; intro a w HE HS
            apply hK; clear hK K
            refine rt hQ HE HS ?_
            have e : typedS sw = (0, false) := by
             unfold typedS
             rw [if_neg (by simpa using h26)]
             rw [if_neg (by simpa using h38)]
             rw [if_neg (by simpa using h50)]
             rw [if_neg (by simpa using h62)]
            show _ = _
            rw [e]
            rfl
         ·exact absurd h55r (by decide)
       ·exact absurd h43r (by decide)
     ·exact absurd h31r (by decide)
   ·exact absurd h19r (by decide)
 ·exact absurd h8r (by decide)

/-! `incognito/sign.Takes` -/
set_option maxRecDepth 100000 in
set_option maxHeartbeats 4000000 in
theorem c_takes (d : Int) (x : Val) (w0 : World) (G : Heap) (hG : Sub G w0) (hg0 : CellsAt G 1 0 [.int .i64 3, .int .i64 1, str []]) (hg1 : CellsAt G 2 0 [.int .i64 3, .int .i64 0, str []]) (hv : x.Wf):
  Calls Tryz.prog 18 #[.int .i64 d, .agg #[.int .i64 x.k, .int .i64 x.n, str x.s]] w0 (Ret w0 G (fun v _ => v = .bool (takesB d x))) := by
 refine enter Tryz.func18 rfl Tryz.ntmps18 rfl ?_
 intro Q hQ a HE
 have HS := St.start0 hG
 refine sr fun K hK => ?_
 refine o_bx3 HE rfl HS rfl ?_; clear HE HS; intro B3 w a HS HE
 refine rn 1 HE HS ?_; clear HE HS; intro a w HE HS
 apply hK; clear hK K
 refine wp_seq_k (fun K3 hK2 => ?_)
 refine sr fun K hK => ?_
 refine rn 1 HE HS ?_; clear HE HS; intro a w HE HS
 refine o_callP HE rfl HS rfl rfl T.g22 (c_right7 x _ _ HS.sub hg0 hg1 (by first | assumption | exact hv | (constructor <;> first | assumption | (simp only [I64]; omega) | (simp; omega)))) ?_
 clear HE HS; rintro _ w a HS rfl HE
 refine rn 1 HE HS ?_; clear HE HS; intro a w HE HS
 apply hK; clear hK K
 refine cond HE rfl (fun h5r => ?_) (fun h5r => ?_)
 ·have h5 := nm h5r
  refine sr fun K hK => ?_
  refine rn 1 HE HS ?_; clear HE HS; intro a w HE HS
  apply hK; clear hK K
  refine rt hQ HE HS ?_
  have e : takesB d x = false := by
   unfold takesB
   first | (simp_all; done) | (simp_all; omega) | grind
  show _ = _
  rw [e]
  rfl
 ·have h5 := nm h5r
  refine wp_skip ?_
  refine hK2 _ _ ?_; clear hK2
  refine wp_seq_k (fun K8 hK7 => ?_)
  refine sr fun K hK => ?_
  refine rn 1 HE HS ?_; clear HE HS; intro a w HE HS
  apply hK; clear hK K
  refine wp_block ?_
  refine wp_seq_k (fun K11 hK10 => ?_)
  refine sr fun K hK => ?_
  refine rn 2 HE HS ?_; clear HE HS; intro a w HE HS
  apply hK; clear hK K
  refine cond HE rfl (fun h13r => ?_) (fun h13r => ?_)
  ·have h13 := nm h13r
   refine wp_skip ?_
   refine hK10 _ _ ?_; clear hK10
   refine cond HE rfl (fun h14r => ?_) (fun h14r => ?_)
   ·have h14 := nm h14r
    refine sr fun K hK => ?_
    refine rn 4 HE HS ?_; clear HE HS; intro a w HE HS
    refine cutG 4 22 (.bool ((decide (x.k = 1)) || (decide (x.k = 2)))) HE HS ?_ ?_
    ·refine bsp HE (t := 18) rfl (fun hb15 => ?_) (fun hb15 => ?_)
     ·skip
      refine rn 4 HE HS ?_; clear HE HS; intro a w HE HS
      exact ⟨HS, HE.cutT (by rw [hb15] <;> rfl)⟩
     ·have hk16 := nm hb15
      refine rn 4 HE HS ?_; clear HE HS; intro a w HE HS
      exact ⟨HS, HE.cutT (by rw [hb15] <;> rfl)⟩
    clear HE HS; intro a w HE HS
    refine rn 1 HE HS ?_; clear HE HS; intro a w HE HS
    apply hK; clear hK K
    refine rt hQ HE HS ?_
    have e : takesB d x = ((decide (x.k = 1)) || (decide (x.k = 2))) := by
     unfold takesB
     first | (simp_all; done) | (simp_all; omega) | grind
    show _ = _
    rw [e]
    rfl
   ·exact absurd (h13r.symm.trans h14r) (by decide)
  ·have h13 := nm h13r
   refine sr fun K hK => ?_
   refine rn 2 HE HS ?_; clear HE HS; intro a w HE HS
   apply hK; clear hK K
   refine cond HE rfl (fun h19r => ?_) (fun h19r => ?_)
   ·have h19 := nm h19r
    refine wp_skip ?_
    refine hK10 _ _ ?_; clear hK10
    refine cond HE rfl (fun h20r => ?_) (fun h20r => ?_)
    ·have h20 := nm h20r
     refine sr fun K hK => ?_
     refine rn 4 HE HS ?_; clear HE HS; intro a w HE HS
     refine cutG 4 22 (.bool ((decide (x.k = 1)) || (decide (x.k = 2)))) HE HS ?_ ?_
     ·refine bsp HE (t := 18) rfl (fun hb21 => ?_) (fun hb21 => ?_)
      ·skip
       refine rn 4 HE HS ?_; clear HE HS; intro a w HE HS
       exact ⟨HS, HE.cutT (by rw [hb21] <;> rfl)⟩
      ·have hk22 := nm hb21
       refine rn 4 HE HS ?_; clear HE HS; intro a w HE HS
       exact ⟨HS, HE.cutT (by rw [hb21] <;> rfl)⟩
     clear HE HS; intro a w HE HS
     refine rn 1 HE HS ?_; clear HE HS; intro a w HE HS
     apply hK; clear hK K
     refine rt hQ HE HS ?_
     have e : takesB d x = ((decide (x.k = 1)) || (decide (x.k = 2))) := by
      unfold takesB
      first | (simp_all; done) | (simp_all; omega) | grind
     show _ = _
     rw [e]
     rfl
    ·exact absurd (h19r.symm.trans h20r) (by decide)
   ·have h19 := nm h19r
    refine sr fun K hK => ?_
    refine rn 2 HE HS ?_; clear HE HS; intro a w HE HS
    apply hK; clear hK K
    refine cond HE rfl (fun h25r => ?_) (fun h25r => ?_)
    ·have h25 := nm h25r
     refine wp_skip ?_
     refine hK10 _ _ ?_; clear hK10
     refine cond HE rfl (fun h26r => ?_) (fun h26r => ?_)
     ·have h26 := nm h26r
      refine sr fun K hK => ?_
      refine rn 4 HE HS ?_; clear HE HS; intro a w HE HS
      refine cutG 4 22 (.bool ((decide (x.k = 1)) || (decide (x.k = 2)))) HE HS ?_ ?_
      ·refine bsp HE (t := 18) rfl (fun hb27 => ?_) (fun hb27 => ?_)
       ·skip
        refine rn 4 HE HS ?_; clear HE HS; intro a w HE HS
        exact ⟨HS, HE.cutT (by rw [hb27] <;> rfl)⟩
       ·have hk28 := nm hb27
        refine rn 4 HE HS ?_; clear HE HS; intro a w HE HS
        exact ⟨HS, HE.cutT (by rw [hb27] <;> rfl)⟩
      clear HE HS; intro a w HE HS
      refine rn 1 HE HS ?_; clear HE HS; intro a w HE HS
      apply hK; clear hK K
      refine rt hQ HE HS ?_
      have e : takesB d x = ((decide (x.k = 1)) || (decide (x.k = 2))) := by
       unfold takesB
       first | (simp_all; done) | (simp_all; omega) | grind
      show _ = _
      rw [e]
      rfl
     ·exact absurd (h25r.symm.trans h26r) (by decide)
    ·have h25 := nm h25r
     refine sr fun K hK => ?_
     refine rn 2 HE HS ?_; clear HE HS; intro a w HE HS
     apply hK; clear hK K
     refine cond HE rfl (fun h31r => ?_) (fun h31r => ?_)
     ·have h31 := nm h31r
      refine wp_skip ?_
      refine hK10 _ _ ?_; clear hK10
      refine cond HE rfl (fun h32r => ?_) (fun h32r => ?_)
      ·have h32 := nm h32r
       refine sr fun K hK => ?_
       refine rn 4 HE HS ?_; clear HE HS; intro a w HE HS
       refine cutG 4 22 (.bool ((decide (x.k = 1)) || (decide (x.k = 2)))) HE HS ?_ ?_
       ·refine bsp HE (t := 18) rfl (fun hb33 => ?_) (fun hb33 => ?_)
        ·skip
         refine rn 4 HE HS ?_; clear HE HS; intro a w HE HS
         exact ⟨HS, HE.cutT (by rw [hb33] <;> rfl)⟩
        ·have hk34 := nm hb33
         refine rn 4 HE HS ?_; clear HE HS; intro a w HE HS
         exact ⟨HS, HE.cutT (by rw [hb33] <;> rfl)⟩
       clear HE HS; intro a w HE HS
       refine rn 1 HE HS ?_; clear HE HS; intro a w HE HS
       apply hK; clear hK K
       refine rt hQ HE HS ?_
       have e : takesB d x = ((decide (x.k = 1)) || (decide (x.k = 2))) := by
        unfold takesB
        first | (simp_all; done) | (simp_all; omega) | grind
       show _ = _
       rw [e]
       rfl
      ·exact absurd (h31r.symm.trans h32r) (by decide)
     ·have h31 := nm h31r
      refine wp_region_lit ?_
      refine rn 2 HE HS ?_; clear HE HS; intro a w HE HS
      refine hK10 _ _ ?_; clear hK10
      refine cond HE rfl (fun h36r => ?_) (fun h36r => ?_)
      ·have h36 := nm h36r
       refine sr fun K hK => ?_
       refine rn 4 HE HS ?_; clear HE HS; intro a w HE HS
       refine cutG 4 22 (.bool ((decide (x.k = 1)) || (decide (x.k = 2)))) HE HS ?_ ?_
       ·refine bsp HE (t := 18) rfl (fun hb37 => ?_) (fun hb37 => ?_)
        ·skip
         refine rn 4 HE HS ?_; clear HE HS; intro a w HE HS
         exact ⟨HS, HE.cutT (by rw [hb37] <;> rfl)⟩
        ·have hk38 := nm hb37
         refine rn 4 HE HS ?_; clear HE HS; intro a w HE HS
         exact ⟨HS, HE.cutT (by rw [hb37] <;> rfl)⟩
       clear HE HS; intro a w HE HS
       refine rn 1 HE HS ?_; clear HE HS; intro a w HE HS
       apply hK; clear hK K
       refine rt hQ HE HS ?_
       have e : takesB d x = ((decide (x.k = 1)) || (decide (x.k = 2))) := by
        unfold takesB
        first | (simp_all; done) | (simp_all; omega) | grind
       show _ = _
       rw [e]
       rfl
      ·have h36 := nm h36r
       refine sr fun K hK => ?_
       refine rn 2 HE HS ?_; clear HE HS; intro a w HE HS
       apply hK; clear hK K
       refine cond HE rfl (fun h41r => ?_) (fun h41r => ?_)
       ·have h41 := nm h41r
        refine sr fun K hK => ?_
        refine rn 4 HE HS ?_; clear HE HS; intro a w HE HS
        apply hK; clear hK K
        refine rt hQ HE HS ?_
        have e : takesB d x = (decide (x.k = 1)) := by
         unfold takesB
         first | (simp_all; done) | (simp_all; omega) | grind
        show _ = _
        rw [e]
        rfl
       ·have h41 := nm h41r
        refine wp_skip ?_
        refine hK7 _ _ ?_; clear hK7
        refine sr fun K hK => ?_
        refine rn 3 HE HS ?_; clear HE HS; intro a w HE HS
        refine cutG 4 34 (.bool ((decide (d = 6)) && (decide (x.k = 3)))) HE HS ?_ ?_
        ·refine bsp HE (t := 30) rfl (fun hb43 => ?_) (fun hb43 => ?_)
         ·have hk44 := nm hb43
          refine rn 4 HE HS ?_; clear HE HS; intro a w HE HS
          exact ⟨HS, HE.cutT (by rw [hb43] <;> rfl)⟩
         ·skip
          refine rn 4 HE HS ?_; clear HE HS; intro a w HE HS
          exact ⟨HS, HE.cutT (by rw [hb43] <;> rfl)⟩
        clear HE HS; intro a w HE HS
        refine rn 1 HE HS ?_; clear HE HS; intro a w HE HS
        apply hK; clear hK K
        refine rt hQ HE HS ?_
        have e : takesB d x = ((decide (d = 6)) && (decide (x.k = 3))) := by
         unfold takesB
         first | (simp_all; done) | (simp_all; omega) | grind
        show _ = _
        rw [e]
        rfl

/-! `incognito/sign.Args` -/
set_option maxRecDepth 100000 in
set_option maxHeartbeats 4000000 in
theorem c_args (m o : Int) (w0 : World) (G : Heap) (hG : Sub G w0) :
  Calls Tryz.prog 20 #[.int .i64 m, .int .i64 o] w0 (Ret w0 G (fun v G' => ∃ A c, v = .tuple #[.slice A (argsD m o).1.length c, .bool (argsD m o).2] ∧ (argsD m o).1.length ≤ c ∧ Rd (Knd.int .i64) G' A (argsD m o).1)) := by
 refine enter Tryz.func20 rfl Tryz.ntmps20 rfl ?_
 intro Q hQ a HE
 have HS := St.start0 hG
 refine sr fun K hK => ?_
 refine rn 2 HE HS ?_; clear HE HS; intro a w HE HS
 apply hK; clear hK K
 refine sr fun K hK => ?_
 refine rn 2 HE HS ?_; clear HE HS; intro a w HE HS
 refine o_callP HE rfl HS rfl rfl T.g44 (c_find m o _ _ HS.sub) ?_
 clear HE HS; rintro _ w a HS rfl HE
 refine rn 3 HE HS ?_; clear HE HS; intro a w HE HS
 refine o_allocZ HE rfl HS ?_; clear HE HS; intro B6 w a HS HE
 refine rn 2 HE HS ?_; clear HE HS; intro a w HE HS
 apply hK; clear hK K
 refine wp_seq_k (fun K4 hK3 => ?_)
 refine sr fun K hK => ?_
 refine rn 2 HE HS ?_; clear HE HS; intro a w HE HS
 apply hK; clear hK K
 refine cond HE rfl (fun h6r => ?_) (fun h6r => ?_)
 ·have h6 := nm h6r
  refine sr fun K hK => ?_
  refine rn 2 HE HS ?_; clear HE HS; intro a w HE HS
  apply hK; clear hK K
  refine rt hQ HE HS ?_
  have e : argsD m o = ([], false) := by
   unfold argsD
   rw [if_neg (by simpa using h6r)]
  rw [e]
  exact ⟨_, _, rfl, Nat.le_refl _, .nil⟩
 ·have h6 := nm h6r
  refine wp_skip ?_
  refine hK3 _ _ ?_; clear hK3
  refine sr fun K hK => ?_
  refine rn 1 HE HS ?_; clear HE HS; intro a w HE HS
  apply hK; clear hK K
  refine wp_seq_k (fun K10 hK9 => ?_)
  refine sr fun K hK => ?_
  refine rn 4 HE HS ?_; clear HE HS; intro a w HE HS
  apply hK; clear hK K
  refine wp_block ?_
  replace HS := HS.nilChunk
  have oH13 : X.Own (Knd.int .i64) 3 G none 0 ([] : List Int) [] := X.Own.nil
  refine loop (fun (i : Nat) a' w' => ∃ (oA8_1 : Option Addr) (oc8_1 : Nat) (oC8_1 : Chunk), St w0 G [] G w' [oC8_1, [(B6, Cells 80 [(0, .int .i64 ((findS m o).1.model)), (1, .int .i64 ((findS m o).1.op)), (2, str ((findS m o).1.ins)), (3, .int .i64 ((findS m o).1.out)), (4, .bool ((findS m o).1.may))])]] ∧ Env a' 34 [] [(0, .int .i64 m), (1, .int .i64 o), (6, .pointer (some ⟨B6, 0, none⟩)), (8, .slice oA8_1 ((doms ((findS m o).1.ins.take i)).length) oc8_1), (20, .int .i64 (((findS m o).1.ins).length : Int)), (21, .int .i64 ((i : Nat) : Int))] ∧ X.Own (Knd.int .i64) 3 G oA8_1 oc8_1 (doms ((findS m o).1.ins.take i)) oC8_1 ∧ (i ≤ (findS m o).1.ins.length)) (fun (i : Nat) => (findS m o).1.ins.length - i) 0 ⟨_, _, _, HS, HE.cut ⟨rfl, rfl, rfl, rfl, rfl, rfl, trivial⟩, X.Own.nil (K := Knd.int .i64), Nat.zero_le _⟩ ?_
  clear HE HS; intro i a w ⟨oA8_1, oc8_1, oC8_1, HS, HE, oH8_1, hi⟩
  refine sr fun K hK => ?_
  refine rn 1 HE HS ?_; clear HE HS; intro a w HE HS
  apply hK; clear hK K
  refine wp_seq_k (fun K17 hK16 => ?_)
  refine cond HE rfl (fun h18r => ?_) (fun h18r => ?_)
  ·have h18 := nm h18r
   refine wp_skip ?_
   refine hK16 _ _ ?_; clear hK16
   refine wp_seq_k (fun K20 hK19 => ?_)
   refine wp_block ?_
   refine sr fun K hK => ?_
   refine rn 2 HE HS ?_; clear HE HS; intro a w HE HS
   apply hK; clear hK K
   refine wp_region_lit ?_
   refine rn 4 HE HS ?_; clear HE HS; intro a w HE HS
   have hfl := find_len m o
   refine o_index HE rfl rfl rfl Tryz.underlying9 (by omega) ?_; clear HE; intro a HE
   refine o_callP HE rfl HS rfl rfl T.g45 (c_domain (bt ((findS m o).1.ins) ((i : Nat) : Int)) _ _ HS.sub) ?_
   clear HE HS; rintro _ w a HS rfl HE
   refine o_buildSl (cs := #[.int .i64 (domS (bt ((findS m o).1.ins) ((i : Nat) : Int)))]) [(0, _)] HE rfl HS rfl T.l44 (by kernel_rfl) ⟨rfl, trivial⟩ ?_; clear HE HS; intro B30 w a HS HE
   refine o_appendL (K := (Knd.int .i64)) (ys := [domS (bt ((findS m o).1.ins) ((i : Nat) : Int))]) (n := 1) HE rfl HS (.there .here) oH8_1 rfl rfl T.p44 (.here .here) rfl ⟨rfl, rfl⟩ rfl rfl (by (have := find_len m o; simp [doms]; omega)) (by (have := find_len m o; simp [doms]; omega)) ?_
   clear HE HS; intro oA22 oc22 oC22 w a HS oH22 HE
   refine rn 1 HE HS ?_; clear HE HS; intro a w HE HS
   refine hK19 _ _ ?_; clear hK19
   refine wp_region_lit ?_
   refine rn 2 HE HS ?_; clear HE HS; intro a w HE HS
   replace HS := HS.drop (M' := [_, _]) (sub_keep (sub_drop (sub_keep sub_nil)))
   have hxs : ((doms ((findS m o).1.ins.take i)) ++ [domS (bt ((findS m o).1.ins) ((i : Nat) : Int))]) = doms ((findS m o).1.ins.take (i + 1)) := doms_snoc (by omega)
   rw [hxs] at HE oH22; clear hxs
   exact ⟨i + 1, ⟨_, _, _, HS, HE.cut ⟨rfl, rfl, rfl, rfl, rfl, rfl, trivial⟩, oH22, by omega⟩, by omega⟩
  ·have h18 := nm h18r
   refine wp_exit ?_
   refine hK9 _ _ ?_; clear hK9
   refine sr fun K hK => ?_
   refine rn 3 HE HS ?_; clear HE HS; intro a w HE HS
   apply hK; clear hK K
   have hcphR25 := oH8_1.cap
   obtain ⟨G24, hle26, HS', hR25⟩ := X.Own.still HS .here oH8_1; clear HS; have HS := HS'; clear HS'
   refine rt hQ HE HS ?_
   have hi9 : i = (findS m o).1.ins.length := by omega
   have e : argsD m o = (doms ((findS m o).1.ins.take i), true) := by
    unfold argsD
    rw [if_pos (by simpa using h6r), hi9, List.take_length]
   rw [e]
   exact ⟨_, _, rfl, hcphR25, hR25⟩
end Go.Proofs.YtiinipcmghhacaaGreatDoor.T10
