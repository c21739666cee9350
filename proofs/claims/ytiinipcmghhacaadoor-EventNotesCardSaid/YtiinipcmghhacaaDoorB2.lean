/- Signatures walked. -/
import Derived.Test.YtiinipcmghhacaaDoorX24
import Derived.Test.YtiinipcmghhacaaDoorB1
set_option linter.unusedVariables false
set_option linter.unusedSimpArgs false
namespace Go.Proofs.YtiinipcmghhacaaDoor.T10
open Go Go.Proofs.YtiinipcmghhacaaDoor.X
theorem T.a148 : aggSz Tryd.prog 148 = some 5 := by kernel_rfl
theorem T.a86 : aggSz Tryd.prog 86 = some 5 := by kernel_rfl
theorem T.f148_0 : fieldOff Tryd.prog 148 0 = some 0 := by kernel_rfl
theorem T.f148_1 : fieldOff Tryd.prog 148 1 = some 1 := by kernel_rfl
theorem T.f148_2 : fieldOff Tryd.prog 148 2 = some 2 := by kernel_rfl
theorem T.g100 : goFn Tryd.prog 100 = true := by kernel_rfl
theorem T.g122 : goFn Tryd.prog 122 = true := by kernel_rfl
theorem T.g123 : goFn Tryd.prog 123 = true := by kernel_rfl
theorem T.g134 : goFn Tryd.prog 134 = true := by kernel_rfl
theorem T.g99 : goFn Tryd.prog 99 = true := by kernel_rfl
theorem T.l114 : slOf Tryd.prog 114 = some (3, 1) := by kernel_rfl
theorem T.l167 : slOf Tryd.prog 167 = some (148, 5) := by kernel_rfl
theorem T.p114 : apOf Tryd.prog 114 = some (3, 1, 8) := by kernel_rfl
theorem T.r144 : arrOf Tryd.prog 144 = some (11, 1) := by kernel_rfl
theorem T.r145 : arrOf Tryd.prog 145 = some (14, 1) := by kernel_rfl
theorem T.r86 : arrOf Tryd.prog 86 = some (5, 1) := by kernel_rfl
theorem T.z148 : zeroOf Tryd.prog 148 = some (.agg #[.int .i64 0, .int .i64 0, str [], .int .i64 0, .bool false]) := by kernel_rfl

structure Row where
  model : Int
  op : Int
  ins : Bs
  out : Int
  may : Bool deriving DecidableEq
abbrev rowCells (r : Row) : List Value := [.int .i64 r.model, .int .i64 r.op, str r.ins, .int .i64 r.out, .bool r.may]
def kRow : Knd Row where
  sz := 5
  R := fun _ x cs => cs = rowCells x
  len := by rintro G x cs rfl; rfl
  le := fun _ h => h
theorem kRow_open {G : Heap} {b o : Nat} {x : Row} (h : ElAt kRow G b o x) : CellsAt G b o (rowCells x) := by
  obtain ⟨cs, rfl, hc⟩ := h
  exact hc
theorem kRow_one : KOne kRow := by rintro G x cs rfl; rfl
def rowsT : List Row := [⟨1, 1, [118], (-1), false⟩, ⟨1, 2, [], 2, true⟩, ⟨2, 1, [118], (-1), false⟩, ⟨2, 2, [], 2, true⟩, ⟨2, 3, [118, 118], 6, false⟩, ⟨3, 4, [118], (-1), false⟩, ⟨3, 5, [118], (-1), false⟩, ⟨3, 6, [118], 6, false⟩, ⟨4, 7, [102, 118], (-1), false⟩, ⟨4, 8, [102], 2, true⟩, ⟨4, 5, [102], (-1), false⟩, ⟨5, 9, [118], (-1), false⟩, ⟨5, 10, [], 2, true⟩, ⟨6, 9, [118], (-1), false⟩, ⟨6, 10, [], 2, true⟩, ⟨7, 11, [], 6, false⟩, ⟨7, 12, [], 6, false⟩, ⟨8, 4, [110], (-1), false⟩, ⟨8, 2, [], 5, false⟩, ⟨9, 1, [111], (-1), false⟩, ⟨9, 2, [], 4, true⟩, ⟨10, 7, [111, 118], (-1), false⟩, ⟨10, 5, [111], (-1), false⟩, ⟨10, 13, [111, 111], 99, false⟩]
def isRow (m o : Int) (r : Row) : Bool := decide (r.model = m) && decide (r.op = o)
def findS (m o : Int) : Row × Bool := match rowsT.find? (isRow m o) with
  | some r => (r, true)
  | none => (⟨0, 0, [], 0, false⟩, false)
def idxR : List Row → Int → Int → Int → Int
  | [], _, _, _ => -1
  | r :: rs, k, m, o => if isRow m o r = true then k else idxR rs (k + 1) m o
theorem idxR_step {rows : List Row} {i : Nat} {k m o : Int} {x : Row} {h : i < rows.length} (e : rows[i] = x) : idxR (rows.drop i) k m o = if isRow m o x = true then k else idxR (rows.drop (i + 1)) (k + 1) m o := by
  rw [List.drop_eq_getElem_cons h, e]
  rfl
theorem idxR_find (m o : Int) : ∀ (rows : List Row) (k : Int), 0 ≤ k → (idxR rows k m o = -1 ∧ rows.find? (isRow m o) = none) ∨ ∃ (j : Nat) (r : Row), idxR rows k m o = k + (j : Int) ∧ rows[j]? = some r ∧ rows.find? (isRow m o) = some r
  | [], k, _ => .inl ⟨rfl, rfl⟩
  | r :: rs, k, hk => by
    unfold idxR
    rw [List.find?_cons]
    by_cases h : isRow m o r = true
    · rw [if_pos h, h]
      exact .inr ⟨0, r, by omega, rfl, rfl⟩
    · rw [if_neg h, Bool.eq_false_iff.2 h]
      rcases idxR_find m o rs (k + 1) (by omega) with ⟨h1, h2⟩ | ⟨j, x, h1, h2, h3⟩
      · exact .inl ⟨h1, h2⟩
      · exact .inr ⟨j + 1, x, by rw [h1]; omega, by simpa using h2, h3⟩
theorem find_no {m o : Int} (h : idxR rowsT 0 m o < 0) : findS m o = (⟨0, 0, [], 0, false⟩, false) := by
  unfold findS
  rcases idxR_find m o rowsT 0 (by decide) with ⟨_, h2⟩ | ⟨j, x, h1, _, _⟩
  · rw [h2]
  · omega
theorem find_yes {m o : Int} (h : ¬ idxR rowsT 0 m o < 0) : (idxR rowsT 0 m o).toNat < rowsT.length ∧ ∀ x (h2 : (idxR rowsT 0 m o).toNat < rowsT.length), rowsT[(idxR rowsT 0 m o).toNat] = x → findS m o = (x, true) := by
  unfold findS
  rcases idxR_find m o rowsT 0 (by decide) with ⟨h1, h2⟩ | ⟨j, y, h1, h2, h3⟩
  · omega
  · have e : (idxR rowsT 0 m o).toNat = j := by omega
    have hl : j < rowsT.length := (List.getElem?_eq_some_iff.1 h2).1
    refine ⟨by omega, fun x hx hxx => ?_⟩
    rw [h3]
    have := (List.getElem?_eq_some_iff.1 h2).2
    simp only [e] at hxx
    rw [← hxx, this]
/-- The number of a word in a list; not the first one's. -/
def idxW : List Bs → Int → Bs → Int × Bool
  | [], _, _ => (0, false)
  | x :: r, k, w => if (decide (0 < k) && (x == w)) = true then (k, true) else idxW r (k + 1) w
theorem idxW_step {ws : List Bs} {i : Nat} {k : Int} {w x : Bs} {h : i < ws.length} (e : ws[i] = x) : idxW (ws.drop i) k w = if (decide (0 < k) && (x == w)) = true then (k, true) else idxW (ws.drop (i + 1)) (k + 1) w := by
  rw [List.drop_eq_getElem_cons h, e]
  rfl
def modelsW : List Bs := [[], [114, 101, 103], [99, 97, 115], [115, 101, 116], [109, 97, 112], [102, 105, 102, 111], [115, 116, 97, 99, 107], [108, 111, 99, 107], [99, 111, 117, 110, 116], [109, 97, 120], [111, 109, 97, 112]]
def opsW : List Bs := [[], [119, 114, 105, 116, 101], [114, 101, 97, 100], [115, 119, 97, 112], [97, 100, 100], [100, 101, 108], [104, 97, 115], [112, 117, 116], [103, 101, 116], [112, 117, 115, 104], [112, 111, 112], [116, 97, 107, 101], [102, 114, 101, 101], [115, 99, 97, 110]]
def namedW : List Bs := [[], [105, 110, 118, 111, 107, 101], [111, 107], [102, 97, 105, 108], [105, 110, 102, 111]]
def modelS (w : Bs) : Int × Bool := idxW modelsW 0 w
def opS (w : Bs) : Int × Bool := idxW opsW 0 w
def typedS (w : Bs) : Int × Bool := if [105, 110, 118, 111, 107, 101] == w then (1, true) else if [111, 107] == w then (2, true) else if [102, 97, 105, 108] == w then (3, true) else if [105, 110, 102, 111] == w then (4, true) else (0, false)
theorem idxW_rng : ∀ (ws : List Bs) (k : Int) (w : Bs), 0 ≤ k → 0 ≤ (idxW ws k w).1 ∧ (idxW ws k w).1 ≤ k + (ws.length : Int)
  | [], k, w, h => by show (0 : Int) ≤ 0 ∧ (0 : Int) ≤ _; simp; omega
  | x :: r, k, w, h => by
    unfold idxW
    split
    · show 0 ≤ k ∧ k ≤ _; omega
    · have := idxW_rng r (k + 1) w (by omega)
      simp only [List.length_cons]
      omega
def takesB (d : Int) (v : Val) : Bool :=
  if rightV v = false then false else if d = 0 ∨ d = 1 ∨ d = 2 ∨ d = 3 ∨ d = 4 then decide (v.k = 1) || decide (v.k = 2) else if d = 5 then decide (v.k = 1) else decide (d = 6) && decide (v.k = 3)
def domS (c : Int) : Int := if c = 118 then 2 else if c = 102 then 3 else if c = 111 then 4 else 5
def doms (s : Bs) : List Int := s.map fun b => domS (b.toNat : Int)
theorem doms_snoc {s : Bs} {i : Nat} (h : i < s.length) : doms (s.take i) ++ [domS (bt s (i : Int))] = doms (s.take (i + 1)) := by
  rw [bt_nat h]
  unfold doms
  rw [take_snoc h, List.map_append]
  rfl
def argsD (m o : Int) : List Int × Bool := if (findS m o).2 = true then (doms (findS m o).1.ins, true) else ([], false)
theorem find_len (m o : Int) : (findS m o).1.ins.length ≤ 2 := by
  unfold findS
  split
  · rename_i r h
    have hm := List.mem_of_find?_eq_some h
    have : ∀ r ∈ rowsT, r.ins.length ≤ 2 := by decide
    exact this r hm
  · decide
/-! What a line's words are read to. -/
def faultS (e e2 : Int) : Int := if e = 0 then e2 else e
theorem fault2_ne (e : Int) : ¬ faultS e 2 = 0 := by unfold faultS; split <;> omega
def nextS (l : List Bs) (e : Int) : Bs × List Bs × Int :=
  if (if l = [] then faultS e 2 else e) = 0 then (l.getD 0 [], l.drop 1, 0) else ([], l, if l = [] then faultS e 2 else e)
def valueS (d : Int) (l : List Bs) (e : Int) : Val × List Bs × Int :=
  if (nextS l e).2.2 = 0 then ((parseV (nextS l e).1).1, (nextS l e).2.1,
    if ((decide (faultS (nextS l e).2.2 (parseV (nextS l e).1).2 = 0) && decide (0 ≤ d)) && !takesB d (parseV (nextS l e).1).1) = true then faultS (faultS (nextS l e).2.2 (parseV (nextS l e).1).2) 2 else faultS (nextS l e).2.2 (parseV (nextS l e).1).2)
  else (⟨0, 0, []⟩, (nextS l e).2.1, (nextS l e).2.2)
def numberS (tab : Bs → Int × Bool) (l : List Bs) (e : Int) : Int × List Bs × Int :=
  ((tab (nextS l e).1).1, (nextS l e).2.1, if (!(tab (nextS l e).1).2) = true then faultS (nextS l e).2.2 2 else (nextS l e).2.2)
theorem next_len {l : List Bs} {e : Int} {M : Nat} (h : ∀ x ∈ l, x.length ≤ M) : (nextS l e).1.length ≤ M ∧ (∀ x ∈ (nextS l e).2.1, x.length ≤ M) ∧ (nextS l e).2.1.length ≤ l.length := by
  unfold nextS
  by_cases hc : (if l = [] then faultS e 2 else e) = 0
  · rw [if_pos hc]
    refine ⟨?_, fun x hx => h x (List.mem_of_mem_drop hx), by show (l.drop 1).length ≤ _; simp⟩
    cases l with
    | nil => exact Nat.zero_le _
    | cons a r => exact h a List.mem_cons_self
  · rw [if_neg hc]
    exact ⟨Nat.zero_le _, h, Nat.le_refl _⟩
theorem value_left (d : Int) (l : List Bs) (e : Int) : (valueS d l e).2.1 = (nextS l e).2.1 := by
  unfold valueS
  split <;> rfl
theorem value_wf {d : Int} {l : List Bs} {e : Int} (h : ∀ x ∈ l, x.length ≤ 4294967280) : (valueS d l e).1.Wf := by
  unfold valueS
  split
  · exact parse_wf (by have := (next_len (e := e) h).1; omega)
  · show (⟨0, 0, []⟩ : Val).Wf
    exact ⟨by decide, by decide, by decide⟩
/-! `incognito/sign.domain` -/
set_option maxRecDepth 100000 in
set_option maxHeartbeats 4000000 in
theorem c_domain (c : Int) (w0 : World) (G : Heap) (hG : Sub G w0) :
  Calls Tryd.prog 100 #[.int .u8 c] w0 (Ret w0 G (fun v _ => v = .int .i64 (domS c))) := by
 refine enter Tryd.func100 rfl Tryd.ntmps100 rfl ?_
 intro Q hQ a HE
 have HS := St.start0 hG
 refine wp_seq_k (fun K hK => ?_); refine wp_region_lit ?_
 refine o_assign HE rfl rfl ?_; clear HE; intro a HE
 refine hK _ _ ?_; clear hK K
 refine wp_seq_k (fun K3 hK2 => ?_)
 refine wp_seq_k (fun K hK => ?_); refine wp_region_lit ?_
 refine o_move HE rfl rfl ?_; clear HE; intro a HE
 refine hK _ _ ?_; clear hK K
 refine wp_block ?_
 refine wp_seq_k (fun K hK => ?_); refine wp_region_lit ?_
 refine o_eqI HE rfl rfl rfl ?_; clear HE; intro a HE
 refine o_assign HE rfl rfl ?_; clear HE; intro a HE
 refine hK _ _ ?_; clear hK K
 refine cond HE rfl (fun h6 => ?_) (fun h6 => ?_)
 ·have h6r := h6; try simp only [zz1, zz2, zz3, zz4, zz5, zz6, zz7, zz8, zz9, zza, zzb] at h6
  refine wp_seq_k (fun K hK => ?_); refine wp_region_lit ?_
  refine o_assign HE rfl rfl ?_; clear HE; intro a HE
  refine hK _ _ ?_; clear hK K
  refine wp_ret ?_
  show Q .ret _ _
  refine ret hQ HE rfl (HE.res rfl .nil) ⟨_, _, HS.stop (List.nil_sublist _), rfl, ?_⟩
  have e : domS c = 2 := by
   unfold domS
   rw [if_pos (by omega)]
  show _ = _
  rw [e]
  rfl
 ·have h6r := h6; try simp only [zz1, zz2, zz3, zz4, zz5, zz6, zz7, zz8, zz9, zza, zzb] at h6
  refine wp_seq_k (fun K hK => ?_); refine wp_region_lit ?_
  refine o_eqI HE rfl rfl rfl ?_; clear HE; intro a HE
  refine o_assign HE rfl rfl ?_; clear HE; intro a HE
  refine hK _ _ ?_; clear hK K
  refine cond HE rfl (fun h9 => ?_) (fun h9 => ?_)
  ·have h9r := h9; try simp only [zz1, zz2, zz3, zz4, zz5, zz6, zz7, zz8, zz9, zza, zzb] at h9
   refine wp_seq_k (fun K hK => ?_); refine wp_region_lit ?_
   refine o_assign HE rfl rfl ?_; clear HE; intro a HE
   refine hK _ _ ?_; clear hK K
   refine wp_ret ?_
   show Q .ret _ _
   refine ret hQ HE rfl (HE.res rfl .nil) ⟨_, _, HS.stop (List.nil_sublist _), rfl, ?_⟩
   have e : domS c = 3 := by
    unfold domS
    rw [if_neg (by omega)]; rw [if_pos (by omega)]
   show _ = _
   rw [e]
   rfl
  ·have h9r := h9; try simp only [zz1, zz2, zz3, zz4, zz5, zz6, zz7, zz8, zz9, zza, zzb] at h9
   refine wp_seq_k (fun K hK => ?_); refine wp_region_lit ?_
   refine o_eqI HE rfl rfl rfl ?_; clear HE; intro a HE
   refine o_assign HE rfl rfl ?_; clear HE; intro a HE
   refine hK _ _ ?_; clear hK K
   refine cond HE rfl (fun h12 => ?_) (fun h12 => ?_)
   ·have h12r := h12; try simp only [zz1, zz2, zz3, zz4, zz5, zz6, zz7, zz8, zz9, zza, zzb] at h12
    refine wp_seq_k (fun K hK => ?_); refine wp_region_lit ?_
    refine o_assign HE rfl rfl ?_; clear HE; intro a HE
    refine hK _ _ ?_; clear hK K
    refine wp_ret ?_
    show Q .ret _ _
    refine ret hQ HE rfl (HE.res rfl .nil) ⟨_, _, HS.stop (List.nil_sublist _), rfl, ?_⟩
    have e : domS c = 4 := by
     unfold domS
     rw [if_neg (by omega)]; rw [if_neg (by omega)]; rw [if_pos (by omega)]
    show _ = _
    rw [e]
    rfl
   ·have h12r := h12; try simp only [zz1, zz2, zz3, zz4, zz5, zz6, zz7, zz8, zz9, zza, zzb] at h12
    refine wp_skip ?_
    refine hK2 _ _ ?_; clear hK2
    refine wp_seq_k (fun K hK => ?_); refine wp_region_lit ?_
    refine o_assign HE rfl rfl ?_; clear HE; intro a HE
    refine hK _ _ ?_; clear hK K
    refine wp_ret ?_
    show Q .ret _ _
    refine ret hQ HE rfl (HE.res rfl .nil) ⟨_, _, HS.stop (List.nil_sublist _), rfl, ?_⟩
    have e : domS c = 5 := by
     unfold domS
     rw [if_neg (by omega)]; rw [if_neg (by omega)]; rw [if_neg (by omega)]
    show _ = _
    rw [e]
    rfl

/-! `incognito/sign.find$1` -/
set_option maxRecDepth 100000 in
set_option maxHeartbeats 4000000 in
theorem c_isrow (r : Row) (m o : Int) (b1 b2 : Nat) (w0 : World) (G : Heap) (hG : Sub G w0) (hC1 : CellsAt G b1 0 [.int .i64 m]) (hC2 : CellsAt G b2 0 [.int .i64 o]):
  Calls Tryd.prog 123 #[.agg #[.int .i64 r.model, .int .i64 r.op, str r.ins, .int .i64 r.out, .bool r.may], .pointer (some ⟨b1, 0, none⟩), .pointer (some ⟨b2, 0, none⟩)] w0 (Ret w0 G (fun v _ => v = .bool (isRow m o r))) := by
 refine enter Tryd.func123 rfl Tryd.ntmps123 rfl ?_
 intro Q hQ a HE
 have HS := St.start0 hG
 refine wp_seq_k (fun K hK => ?_); refine wp_region_lit ?_
 refine o_boxL [(0, _), (1, _), (2, _), (3, _), (4, _)] HE rfl HS rfl ⟨rfl, rfl, rfl, rfl, rfl, trivial⟩ ?_; clear HE HS; intro B3 w a HS HE
 refine o_assign HE rfl rfl ?_; clear HE; intro a HE
 refine hK _ _ ?_; clear hK K
 refine wp_seq_k (fun K hK => ?_); refine wp_region_lit ?_
 refine o_fld HE rfl rfl T.f148_0 ?_; clear HE; intro a HE
 refine o_ld HE rfl HS rfl T.s3 (.here .here) rfl ?_; clear HE; intro a HE
 refine o_ldI HE rfl HS rfl T.s3 hC1 (j := 0) rfl rfl ?_; clear HE; intro a HE
 refine o_eqI HE rfl rfl rfl ?_; clear HE; intro a HE
 refine o_move HE rfl rfl ?_; clear HE; intro a HE
 refine cutL 5 (fun a' w' => w = w' ∧ Env a' 15 [] [(14, .bool ((decide (r.model = m)) && (decide (r.op = o)))), (0, .agg #[.int .i64 r.model, .int .i64 r.op, str r.ins, .int .i64 r.out, .bool r.may]), (4, .bool false)]) ?_ ?_
 ·refine (Bool.eq_false_or_eq_true (decide (r.model = m))).elim (fun hb2 => ?_) (fun hb2 => ?_)
  ·skip
   have hk3 := hb2; try simp only [zz1, zz2, zz3, zz4, zz5, zz7, zz8, zz9, zza, zzb] at hk3
   refine op_on HE rfl rfl hb2 ?_
   refine o_fld HE rfl rfl T.f148_1 ?_; clear HE; intro a HE
   refine op_on HE rfl rfl hb2 ?_
   refine o_ld HE rfl HS rfl T.s3 (.here .here) rfl ?_; clear HE; intro a HE
   refine op_on HE rfl rfl hb2 ?_
   refine o_ldI HE rfl HS rfl T.s3 hC2 (j := 0) rfl rfl ?_; clear HE; intro a HE
   refine op_on HE rfl rfl hb2 ?_
   refine o_eqI HE rfl rfl rfl ?_; clear HE; intro a HE
   refine o_pick_t HE rfl rfl hb2 rfl ?_; clear HE; intro a HE
   exact ⟨rfl, HE.cut ⟨by rw [hb2]; rfl, rfl, rfl, trivial⟩⟩
  ·skip
   have hk4 := hb2; try simp only [zz1, zz2, zz3, zz4, zz5, zz7, zz8, zz9, zza, zzb] at hk4
   refine g_off HE rfl rfl rfl hb2 ?_; clear HE; intro a HE
   refine g_off HE rfl rfl rfl hb2 ?_; clear HE; intro a HE
   refine g_off HE rfl rfl rfl hb2 ?_; clear HE; intro a HE
   refine g_off HE rfl rfl rfl hb2 ?_; clear HE; intro a HE
   refine o_pick_f HE rfl rfl hb2 rfl ?_; clear HE; intro a HE
   exact ⟨rfl, HE.cut ⟨by rw [hb2]; rfl, rfl, rfl, trivial⟩⟩
 clear HE; rintro a _ ⟨rfl, HE⟩
 refine o_assign HE rfl rfl ?_; clear HE; intro a HE
 refine hK _ _ ?_; clear hK K
 refine wp_ret ?_
 show Q .ret _ _
 refine ret hQ HE rfl (HE.res rfl .nil) ⟨_, _, HS.stop (List.nil_sublist _), rfl, ?_⟩
 exact rfl

/-! `slices.IndexFunc[[]incognito/sign.row,incognito/sign.row]` -/
set_option maxRecDepth 100000 in
set_option maxHeartbeats 4000000 in
theorem c_index (rows : List Row) (A : Option Addr) (c : Nat) (m o : Int) (b1 b2 : Nat) (w0 : World) (G : Heap) (hG : Sub G w0) (hR : Rd kRow G A rows) (hC1 : CellsAt G b1 0 [.int .i64 m]) (hC2 : CellsAt G b2 0 [.int .i64 o]) (hl : rows.length ≤ 100):
  Calls Tryd.prog 122 #[.slice A rows.length c, .func (.func 123) #[] #[.pointer (some ⟨b1, 0, none⟩), .pointer (some ⟨b2, 0, none⟩)]] w0 (Ret w0 G (fun v _ => v = .int .i64 (idxR rows 0 m o))) := by
 refine enter Tryd.func122 rfl Tryd.ntmps122 rfl ?_
 intro Q hQ a HE
 have HS := St.start0 hG
 refine wp_seq_k (fun K hK => ?_); refine wp_region_lit ?_
 refine o_assign HE rfl rfl ?_; clear HE; intro a HE
 refine hK _ _ ?_; clear hK K
 refine wp_seq_k (fun K3 hK2 => ?_)
 refine wp_seq_k (fun K hK => ?_); refine wp_region_lit ?_
 refine o_move HE rfl rfl ?_; clear HE; intro a HE
 refine o_lenL HE rfl rfl Tryd.underlying167 ?_; clear HE; intro a HE
 refine o_move HE rfl rfl ?_; clear HE; intro a HE
 refine hK _ _ ?_; clear hK K
 refine wp_block ?_
 refine loop (fun (i : Nat) a' w' => St w0 G [] G w' [] ∧ Env a' 19 [] [(0, .slice A rows.length c), (1, .func (.func 123) #[] #[.pointer (some ⟨b1, 0, none⟩), .pointer (some ⟨b2, 0, none⟩)]), (6, .slice A rows.length c), (7, .int .i64 (rows.length : Int)), (8, .int .i64 ((i : Nat) : Int))] ∧ (i ≤ rows.length ∧ idxR rows 0 m o = idxR (rows.drop i) ((i : Nat) : Int) m o)) (fun (i : Nat) => rows.length - i) 0 ⟨HS, HE.cut ⟨rfl, rfl, rfl, rfl, rfl, trivial⟩, ⟨Nat.zero_le _, rfl⟩⟩ ?_
 clear HE HS; intro i a w ⟨HS, HE, ⟨hi, hx⟩⟩
 refine wp_seq_k (fun K hK => ?_); refine wp_region_lit ?_
 refine o_lss HE rfl rfl rfl ?_; clear HE; intro a HE
 refine hK _ _ ?_; clear hK K
 refine wp_seq_k (fun K8 hK7 => ?_)
 refine cond HE rfl (fun h9 => ?_) (fun h9 => ?_)
 ·have h9r := h9; try simp only [zz1, zz2, zz3, zz4, zz5, zz6, zz7, zz8, zz9, zza, zzb] at h9
  refine wp_skip ?_
  refine hK7 _ _ ?_; clear hK7
  refine wp_seq_k (fun K11 hK10 => ?_)
  refine wp_block ?_
  refine wp_seq_k (fun K hK => ?_); refine wp_region_lit ?_
  refine o_move HE rfl rfl ?_; clear HE; intro a HE
  refine o_assign HE rfl rfl ?_; clear HE; intro a HE
  refine hK _ _ ?_; clear hK K
  refine wp_seq_k (fun K hK => ?_); refine wp_region_lit ?_
  refine o_move HE rfl rfl ?_; clear HE; intro a HE
  refine o_move HE rfl rfl ?_; clear HE; intro a HE
  refine o_move HE rfl rfl ?_; clear HE; intro a HE
  have hi13 : ((i : Nat) : Int).toNat < rows.length := by omega
  obtain ⟨eb13, eo13, hA13, el13⟩ := Rd.at hR (List.getElem?_eq_getElem hi13); cases hA13
  obtain ⟨x13, ex13⟩ : ∃ x, rows[((i : Nat) : Int).toNat] = x := ⟨_, rfl⟩; rw [ex13] at el13
  have el13 := kRow_open el13
  refine o_ixL HE rfl rfl rfl T.l167 ⟨by omega, by omega⟩ ?_; clear HE; intro a HE
  refine o_ldIA HE rfl HS rfl el13 T.a148 ?_; clear HE; intro a HE
  refine o_callP HE rfl HS rfl rfl T.g123 (c_isrow x13 m o _ _ _ _ HS.sub hC1 hC2) ?_
  clear HE HS; rintro _ w a HS rfl HE
  refine hK _ _ ?_; clear hK K
  refine cond HE rfl (fun h15 => ?_) (fun h15 => ?_)
  ·have h15r := h15; try simp only [zz1, zz2, zz3, zz4, zz5, zz6, zz7, zz8, zz9, zza, zzb] at h15
   refine wp_seq_k (fun K hK => ?_); refine wp_region_lit ?_
   refine o_move HE rfl rfl ?_; clear HE; intro a HE
   refine o_assign HE rfl rfl ?_; clear HE; intro a HE
   refine hK _ _ ?_; clear hK K
   refine wp_ret ?_
   show Q .ret _ _
   refine ret hQ HE rfl (HE.res rfl .nil) ⟨_, _, HS.stop (List.nil_sublist _), rfl, ?_⟩
   have e : idxR rows 0 m o = ((i : Nat) : Int) := by
    rw [hx, idxR_step (i := i) (by simpa using ex13), if_pos (by simpa using h15r)]
   show _ = _
   rw [e]
   rfl
  ·have h15r := h15; try simp only [zz1, zz2, zz3, zz4, zz5, zz6, zz7, zz8, zz9, zza, zzb] at h15
   refine wp_skip ?_
   refine hK10 _ _ ?_; clear hK10
   refine wp_region_lit ?_
   refine o_add HE rfl rfl rfl (by omega) ?_; clear HE; intro a HE
   refine o_move HE rfl rfl ?_; clear HE; intro a HE
   have hx2 : idxR rows 0 m o = idxR (rows.drop (i + 1)) ((i + 1 : Nat) : Int) m o := by
    rw [hx, idxR_step (i := i) (by simpa using ex13), if_neg (by simpa using h15r)]
    rfl
   exact ⟨i + 1, ⟨HS, HE.cut ⟨rfl, rfl, rfl, rfl, rfl, trivial⟩, ⟨by omega, hx2⟩⟩, by omega⟩
 ·have h9r := h9; try simp only [zz1, zz2, zz3, zz4, zz5, zz6, zz7, zz8, zz9, zza, zzb] at h9
  refine wp_exit ?_
  refine hK2 _ _ ?_; clear hK2
  refine wp_seq_k (fun K hK => ?_); refine wp_region_lit ?_
  refine o_assign HE rfl rfl ?_; clear HE; intro a HE
  refine hK _ _ ?_; clear hK K
  refine wp_ret ?_
  show Q .ret _ _
  refine ret hQ HE rfl (HE.res rfl .nil) ⟨_, _, HS.stop (List.nil_sublist _), rfl, ?_⟩
  have e : idxR rows 0 m o = -1 := by
   rw [hx, List.drop_of_length_le (by omega)]
   rfl
  show _ = _
  rw [e]
  rfl

/-! `incognito/sign.find` -/
set_option maxRecDepth 100000 in
set_option maxHeartbeats 4000000 in
theorem c_find (m o : Int) (w0 : World) (G : Heap) (hG : Sub G w0) :
  Calls Tryd.prog 99 #[.int .i64 m, .int .i64 o] w0 (Ret w0 G (fun v _ => v = .tuple #[.agg (rowCells (findS m o).1).toArray, .bool (findS m o).2])) := by
 refine enter Tryd.func99 rfl Tryd.ntmps99 rfl ?_
 intro Q hQ a HE
 have HS := St.start0 hG
 refine wp_seq_k (fun K hK => ?_); refine wp_region_lit ?_
 refine o_boxL [(0, _)] HE rfl HS rfl ⟨rfl, trivial⟩ ?_; clear HE HS; intro B2 w a HS HE
 refine o_boxL [(0, _)] HE rfl HS rfl ⟨rfl, trivial⟩ ?_; clear HE HS; intro B3 w a HS HE
 refine o_allocL [(0, _), (1, _), (2, _), (3, _), (4, _)] HE rfl HS T.z148 ⟨rfl, rfl, rfl, rfl, rfl, trivial⟩ ?_; clear HE HS; intro B4 w a HS HE
 refine o_assign HE rfl rfl ?_; clear HE; intro a HE
 refine hK _ _ ?_; clear hK K
 refine wp_seq_k (fun K hK => ?_); refine wp_region_lit ?_
 refine o_build (cs := #[.int .i64 1, .int .i64 1, str [118], .int .i64 (-1), .bool false]) HE rfl rfl (by kernel_rfl) ?_; clear HE; intro a HE
 refine o_build (cs := #[.int .i64 1, .int .i64 2, str [], .int .i64 2, .bool true]) HE rfl rfl (by kernel_rfl) ?_; clear HE; intro a HE
 refine o_build (cs := #[.int .i64 2, .int .i64 1, str [118], .int .i64 (-1), .bool false]) HE rfl rfl (by kernel_rfl) ?_; clear HE; intro a HE
 refine o_build (cs := #[.int .i64 2, .int .i64 2, str [], .int .i64 2, .bool true]) HE rfl rfl (by kernel_rfl) ?_; clear HE; intro a HE
 refine o_build (cs := #[.int .i64 2, .int .i64 3, str [118, 118], .int .i64 6, .bool false]) HE rfl rfl (by kernel_rfl) ?_; clear HE; intro a HE
 refine o_build (cs := #[.int .i64 3, .int .i64 4, str [118], .int .i64 (-1), .bool false]) HE rfl rfl (by kernel_rfl) ?_; clear HE; intro a HE
 refine o_build (cs := #[.int .i64 3, .int .i64 5, str [118], .int .i64 (-1), .bool false]) HE rfl rfl (by kernel_rfl) ?_; clear HE; intro a HE
 refine o_build (cs := #[.int .i64 3, .int .i64 6, str [118], .int .i64 6, .bool false]) HE rfl rfl (by kernel_rfl) ?_; clear HE; intro a HE
 refine o_build (cs := #[.int .i64 4, .int .i64 7, str [102, 118], .int .i64 (-1), .bool false]) HE rfl rfl (by kernel_rfl) ?_; clear HE; intro a HE
 refine o_build (cs := #[.int .i64 4, .int .i64 8, str [102], .int .i64 2, .bool true]) HE rfl rfl (by kernel_rfl) ?_; clear HE; intro a HE
 refine o_build (cs := #[.int .i64 4, .int .i64 5, str [102], .int .i64 (-1), .bool false]) HE rfl rfl (by kernel_rfl) ?_; clear HE; intro a HE
 refine o_build (cs := #[.int .i64 5, .int .i64 9, str [118], .int .i64 (-1), .bool false]) HE rfl rfl (by kernel_rfl) ?_; clear HE; intro a HE
 refine o_build (cs := #[.int .i64 5, .int .i64 10, str [], .int .i64 2, .bool true]) HE rfl rfl (by kernel_rfl) ?_; clear HE; intro a HE
 refine o_build (cs := #[.int .i64 6, .int .i64 9, str [118], .int .i64 (-1), .bool false]) HE rfl rfl (by kernel_rfl) ?_; clear HE; intro a HE
 refine o_build (cs := #[.int .i64 6, .int .i64 10, str [], .int .i64 2, .bool true]) HE rfl rfl (by kernel_rfl) ?_; clear HE; intro a HE
 refine o_build (cs := #[.int .i64 7, .int .i64 11, str [], .int .i64 6, .bool false]) HE rfl rfl (by kernel_rfl) ?_; clear HE; intro a HE
 refine o_build (cs := #[.int .i64 7, .int .i64 12, str [], .int .i64 6, .bool false]) HE rfl rfl (by kernel_rfl) ?_; clear HE; intro a HE
 refine o_build (cs := #[.int .i64 8, .int .i64 4, str [110], .int .i64 (-1), .bool false]) HE rfl rfl (by kernel_rfl) ?_; clear HE; intro a HE
 refine o_build (cs := #[.int .i64 8, .int .i64 2, str [], .int .i64 5, .bool false]) HE rfl rfl (by kernel_rfl) ?_; clear HE; intro a HE
 refine o_build (cs := #[.int .i64 9, .int .i64 1, str [111], .int .i64 (-1), .bool false]) HE rfl rfl (by kernel_rfl) ?_; clear HE; intro a HE
 refine o_build (cs := #[.int .i64 9, .int .i64 2, str [], .int .i64 4, .bool true]) HE rfl rfl (by kernel_rfl) ?_; clear HE; intro a HE
 refine o_build (cs := #[.int .i64 10, .int .i64 7, str [111, 118], .int .i64 (-1), .bool false]) HE rfl rfl (by kernel_rfl) ?_; clear HE; intro a HE
 refine o_build (cs := #[.int .i64 10, .int .i64 5, str [111], .int .i64 (-1), .bool false]) HE rfl rfl (by kernel_rfl) ?_; clear HE; intro a HE
 refine o_build (cs := #[.int .i64 10, .int .i64 13, str [111, 111], .int .i64 99, .bool false]) HE rfl rfl (by kernel_rfl) ?_; clear HE; intro a HE
 refine o_buildSl (cs := #[.int .i64 1, .int .i64 1, str [118], .int .i64 (-1), .bool false, .int .i64 1, .int .i64 2, str [], .int .i64 2, .bool true, .int .i64 2, .int .i64 1, str [118], .int .i64 (-1), .bool false, .int .i64 2, .int .i64 2, str [], .int .i64 2, .bool true, .int .i64 2, .int .i64 3, str [118, 118], .int .i64 6, .bool false, .int .i64 3, .int .i64 4, str [118], .int .i64 (-1), .bool false, .int .i64 3, .int .i64 5, str [118], .int .i64 (-1), .bool false, .int .i64 3, .int .i64 6, str [118], .int .i64 6, .bool false, .int .i64 4, .int .i64 7, str [102, 118], .int .i64 (-1), .bool false, .int .i64 4, .int .i64 8, str [102], .int .i64 2, .bool true, .int .i64 4, .int .i64 5, str [102], .int .i64 (-1), .bool false, .int .i64 5, .int .i64 9, str [118], .int .i64 (-1), .bool false, .int .i64 5, .int .i64 10, str [], .int .i64 2, .bool true, .int .i64 6, .int .i64 9, str [118], .int .i64 (-1), .bool false, .int .i64 6, .int .i64 10, str [], .int .i64 2, .bool true, .int .i64 7, .int .i64 11, str [], .int .i64 6, .bool false, .int .i64 7, .int .i64 12, str [], .int .i64 6, .bool false, .int .i64 8, .int .i64 4, str [110], .int .i64 (-1), .bool false, .int .i64 8, .int .i64 2, str [], .int .i64 5, .bool false, .int .i64 9, .int .i64 1, str [111], .int .i64 (-1), .bool false, .int .i64 9, .int .i64 2, str [], .int .i64 4, .bool true, .int .i64 10, .int .i64 7, str [111, 118], .int .i64 (-1), .bool false, .int .i64 10, .int .i64 5, str [111], .int .i64 (-1), .bool false, .int .i64 10, .int .i64 13, str [111, 111], .int .i64 99, .bool false]) [(0, _), (1, _), (2, _), (3, _), (4, _), (5, _), (6, _), (7, _), (8, _), (9, _), (10, _), (11, _), (12, _), (13, _), (14, _), (15, _), (16, _), (17, _), (18, _), (19, _), (20, _), (21, _), (22, _), (23, _), (24, _), (25, _), (26, _), (27, _), (28, _), (29, _), (30, _), (31, _), (32, _), (33, _), (34, _), (35, _), (36, _), (37, _), (38, _), (39, _), (40, _), (41, _), (42, _), (43, _), (44, _), (45, _), (46, _), (47, _), (48, _), (49, _), (50, _), (51, _), (52, _), (53, _), (54, _), (55, _), (56, _), (57, _), (58, _), (59, _), (60, _), (61, _), (62, _), (63, _), (64, _), (65, _), (66, _), (67, _), (68, _), (69, _), (70, _), (71, _), (72, _), (73, _), (74, _), (75, _), (76, _), (77, _), (78, _), (79, _), (80, _), (81, _), (82, _), (83, _), (84, _), (85, _), (86, _), (87, _), (88, _), (89, _), (90, _), (91, _), (92, _), (93, _), (94, _), (95, _), (96, _), (97, _), (98, _), (99, _), (100, _), (101, _), (102, _), (103, _), (104, _), (105, _), (106, _), (107, _), (108, _), (109, _), (110, _), (111, _), (112, _), (113, _), (114, _), (115, _), (116, _), (117, _), (118, _), (119, _)] HE rfl HS rfl T.l167 (by kernel_rfl) ⟨rfl, rfl, rfl, rfl, rfl, rfl, rfl, rfl, rfl, rfl, rfl, rfl, rfl, rfl, rfl, rfl, rfl, rfl, rfl, rfl, rfl, rfl, rfl, rfl, rfl, rfl, rfl, rfl, rfl, rfl, rfl, rfl, rfl, rfl, rfl, rfl, rfl, rfl, rfl, rfl, rfl, rfl, rfl, rfl, rfl, rfl, rfl, rfl, rfl, rfl, rfl, rfl, rfl, rfl, rfl, rfl, rfl, rfl, rfl, rfl, rfl, rfl, rfl, rfl, rfl, rfl, rfl, rfl, rfl, rfl, rfl, rfl, rfl, rfl, rfl, rfl, rfl, rfl, rfl, rfl, rfl, rfl, rfl, rfl, rfl, rfl, rfl, rfl, rfl, rfl, rfl, rfl, rfl, rfl, rfl, rfl, rfl, rfl, rfl, rfl, rfl, rfl, rfl, rfl, rfl, rfl, rfl, rfl, rfl, rfl, rfl, rfl, rfl, rfl, rfl, rfl, rfl, rfl, rfl, rfl, trivial⟩ ?_; clear HE HS; intro B32 w a HS HE
 obtain ⟨G2, hle4, hC3, HS'⟩ := HS.stillHead (n := 120) rfl; clear HS; have HS := HS'; clear HS'
 have hW5 := Rd.ofCells (K := kRow) (xs := rowsT) hC3 ⟨rfl, rfl, rfl, rfl, rfl, rfl, rfl, rfl, rfl, rfl, rfl, rfl, rfl, rfl, rfl, rfl, rfl, rfl, rfl, rfl, rfl, rfl, rfl, rfl, rfl⟩
 refine o_assign HE rfl rfl ?_; clear HE; intro a HE
 refine hK _ _ ?_; clear hK K
 refine wp_seq_k (fun K hK => ?_); refine wp_region_lit ?_
 refine o_move HE rfl rfl ?_; clear HE; intro a HE
 replace HS := HS.front (C := [(B3, Cells 3 [(0, .int .i64 o)])]) (.there .here)
 obtain ⟨G7, hle9, hC8, HS'⟩ := HS.stillHead (n := 1) rfl; clear HS; have HS := HS'; clear HS'
 replace hC3 := hC3.le hle9
 replace hW5 := hW5.le hle9
 replace HS := HS.front (C := [(B2, Cells 3 [(0, .int .i64 m)])]) (.there .here)
 obtain ⟨G10, hle12, hC11, HS'⟩ := HS.stillHead (n := 1) rfl; clear HS; have HS := HS'; clear HS'
 replace hC3 := hC3.le hle12
 replace hW5 := hW5.le hle12
 replace hC8 := hC8.le hle12
 skip
 refine o_func HE rfl rfl rfl ?_; clear HE; intro a HE
 refine o_callP HE rfl HS rfl rfl T.g122 (c_index rowsT _ _ m o _ _ _ _ HS.sub hW5 hC11 hC8 (by decide)) ?_
 clear HE HS; rintro _ w a HS rfl HE
 refine o_assign HE rfl rfl ?_; clear HE; intro a HE
 refine hK _ _ ?_; clear hK K
 refine wp_seq_k (fun K15 hK14 => ?_)
 refine wp_seq_k (fun K hK => ?_); refine wp_region_lit ?_
 refine o_move HE rfl rfl ?_; clear HE; intro a HE
 refine o_lss HE rfl rfl rfl ?_; clear HE; intro a HE
 refine hK _ _ ?_; clear hK K
 refine cond HE rfl (fun h17 => ?_) (fun h17 => ?_)
 ·have h17r := h17; try simp only [zz1, zz2, zz3, zz4, zz5, zz6, zz7, zz8, zz9, zza, zzb] at h17
  refine wp_seq_k (fun K hK => ?_); refine wp_region_lit ?_
  refine o_build (cs := #[.int .i64 0, .int .i64 0, str [], .int .i64 0, .bool false]) HE rfl rfl (by kernel_rfl) ?_; clear HE; intro a HE
  refine o_stA HE HS rfl rfl rfl T.a148 (.here .here) rfl ?_; clear HS; intro w HS
  refine o_assign HE rfl rfl ?_; clear HE; intro a HE
  refine hK _ _ ?_; clear hK K
  refine wp_ret ?_
  show Q .ret _ _
  refine ret hQ HE rfl (HE.resA HS rfl T.a148 (.here .here) rfl (HE.res rfl .nil)) ⟨_, _, HS.stop (List.nil_sublist _), rfl, ?_⟩
  have e := find_no h17
  show _ = _
  rw [e]
  rfl
 ·have h17r := h17; try simp only [zz1, zz2, zz3, zz4, zz5, zz6, zz7, zz8, zz9, zza, zzb] at h17
  refine wp_skip ?_
  refine hK14 _ _ ?_; clear hK14
  refine wp_seq_k (fun K hK => ?_); refine wp_region_lit ?_
  refine o_move HE rfl rfl ?_; clear HE; intro a HE
  refine o_move HE rfl rfl ?_; clear HE; intro a HE
  have hrl : rowsT.length = 24 := rfl
  have hi19 : (idxR rowsT 0 m o).toNat < rowsT.length := by exact (find_yes (by assumption)).1
  obtain ⟨eb19, eo19, hA19, el19⟩ := Rd.at hW5 (List.getElem?_eq_getElem hi19); cases hA19
  obtain ⟨x19, ex19⟩ : ∃ x, rowsT[(idxR rowsT 0 m o).toNat] = x := ⟨_, rfl⟩; rw [ex19] at el19
  have el19 := kRow_open el19
  refine o_ixL HE rfl rfl rfl T.l167 ⟨by omega, by omega⟩ ?_; clear HE; intro a HE
  refine o_ldIA HE rfl HS rfl el19 T.a148 ?_; clear HE; intro a HE
  refine o_stA HE HS rfl rfl rfl T.a148 (.here .here) rfl ?_; clear HS; intro w HS
  refine o_assign HE rfl rfl ?_; clear HE; intro a HE
  refine hK _ _ ?_; clear hK K
  refine wp_ret ?_
  show Q .ret _ _
  refine ret hQ HE rfl (HE.resA HS rfl T.a148 (.here .here) rfl (HE.res rfl .nil)) ⟨_, _, HS.stop (List.nil_sublist _), rfl, ?_⟩
  have e := (find_yes h17).2 _ _ ex19
  show _ = _
  rw [e]
  rfl

/-! `incognito/sign.number` -/
set_option maxRecDepth 100000 in
set_option maxHeartbeats 4000000 in
theorem c_numW (sw : Bs) (ws : List Bs) (A : Option Addr) (c : Nat) (w0 : World) (G : Heap) (hG : Sub G w0) (hR : Rd Knd.s G A ws) (hl : ws.length ≤ 100):
  Calls Tryd.prog 134 #[str sw, .slice A ws.length c] w0 (Ret w0 G (fun v _ => v = .tuple #[.int .i64 (idxW ws 0 sw).1, .bool (idxW ws 0 sw).2])) := by
 refine enter Tryd.func134 rfl Tryd.ntmps134 rfl ?_
 intro Q hQ a HE
 have HS := St.start0 hG
 refine wp_seq_k (fun K hK => ?_); refine wp_region_lit ?_
 refine o_assign HE rfl rfl ?_; clear HE; intro a HE
 refine o_assign HE rfl rfl ?_; clear HE; intro a HE
 refine hK _ _ ?_; clear hK K
 refine wp_seq_k (fun K3 hK2 => ?_)
 refine wp_seq_k (fun K hK => ?_); refine wp_region_lit ?_
 refine o_move HE rfl rfl ?_; clear HE; intro a HE
 refine o_lenL HE rfl rfl Tryd.underlying29 ?_; clear HE; intro a HE
 refine o_move HE rfl rfl ?_; clear HE; intro a HE
 refine hK _ _ ?_; clear hK K
 refine wp_block ?_
 refine loop (fun (i : Nat) a' w' => St w0 G [] G w' [] ∧ Env a' 24 [] [(0, str sw), (8, .slice A ws.length c), (9, .int .i64 (ws.length : Int)), (10, .int .i64 ((i : Nat) : Int))] ∧ (i ≤ ws.length ∧ idxW ws 0 sw = idxW (ws.drop i) ((i : Nat) : Int) sw)) (fun (i : Nat) => ws.length - i) 0 ⟨HS, HE.cut ⟨rfl, rfl, rfl, rfl, trivial⟩, ⟨Nat.zero_le _, rfl⟩⟩ ?_
 clear HE HS; intro i a w ⟨HS, HE, ⟨hi, hx⟩⟩
 refine wp_seq_k (fun K hK => ?_); refine wp_region_lit ?_
 refine o_lss HE rfl rfl rfl ?_; clear HE; intro a HE
 refine hK _ _ ?_; clear hK K
 refine wp_seq_k (fun K8 hK7 => ?_)
 refine cond HE rfl (fun h9 => ?_) (fun h9 => ?_)
 ·have h9r := h9; try simp only [zz1, zz2, zz3, zz4, zz5, zz6, zz7, zz8, zz9, zza, zzb] at h9
  refine wp_skip ?_
  refine hK7 _ _ ?_; clear hK7
  refine wp_seq_k (fun K11 hK10 => ?_)
  refine wp_block ?_
  refine wp_seq_k (fun K hK => ?_); refine wp_region_lit ?_
  refine o_move HE rfl rfl ?_; clear HE; intro a HE
  have hi12 : ((i : Nat) : Int).toNat < ws.length := by omega
  obtain ⟨eb12, eo12, hA12, el12⟩ := Rd.at hR (List.getElem?_eq_getElem hi12); cases hA12
  obtain ⟨x12, ex12⟩ : ∃ x, ws[((i : Nat) : Int).toNat] = x := ⟨_, rfl⟩; rw [ex12] at el12
  have el12 := kof_open (enc := fun l => str l) el12
  refine o_ixL HE rfl rfl rfl T.l29 ⟨by omega, by omega⟩ ?_; clear HE; intro a HE
  refine o_ldI HE rfl HS rfl T.s9 el12 (j := 0) rfl rfl ?_; clear HE; intro a HE
  refine o_assign HE rfl rfl ?_; clear HE; intro a HE
  refine o_assign HE rfl rfl ?_; clear HE; intro a HE
  refine hK _ _ ?_; clear hK K
  refine wp_seq_k (fun K hK => ?_); refine wp_region_lit ?_
  refine o_move HE rfl rfl ?_; clear HE; intro a HE
  refine o_gtr HE rfl rfl rfl ?_; clear HE; intro a HE
  refine o_move HE rfl rfl ?_; clear HE; intro a HE
  refine cutL 4 (fun a' w' => w = w' ∧ Env a' 24 [] [(21, .bool ((decide (0 < ((i : Nat) : Int))) && (x12 == sw))), (0, str sw), (6, .int .i64 ((i : Nat) : Int)), (8, .slice (some ⟨eb12, eo12, none⟩) ws.length c), (9, .int .i64 (ws.length : Int)), (10, .int .i64 ((i : Nat) : Int)), (11, .bool (decide (((i : Nat) : Int) < (ws.length : Int)))), (12, .int .i64 ((i : Nat) : Int)), (13, .pointer (some ⟨eb12, eo12 + ((i : Nat) : Int).toNat * 1, none⟩)), (14, str x12)]) ?_ ?_
  ·refine (Bool.eq_false_or_eq_true (decide (0 < ((i : Nat) : Int)))).elim (fun hb14 => ?_) (fun hb14 => ?_)
   ·skip
    have hk15 := hb14; try simp only [zz1, zz2, zz3, zz4, zz5, zz7, zz8, zz9, zza, zzb] at hk15
    refine op_on HE rfl rfl hb14 ?_
    refine o_move HE rfl rfl ?_; clear HE; intro a HE
    refine op_on HE rfl rfl hb14 ?_
    refine o_move HE rfl rfl ?_; clear HE; intro a HE
    refine op_on HE rfl rfl hb14 ?_
    refine o_eqS HE rfl rfl rfl ?_; clear HE; intro a HE
    refine o_pick_t HE rfl rfl hb14 rfl ?_; clear HE; intro a HE
    exact ⟨rfl, HE.cut ⟨by rw [hb14]; rfl, rfl, rfl, rfl, rfl, rfl, rfl, rfl, rfl, rfl, trivial⟩⟩
   ·skip
    have hk16 := hb14; try simp only [zz1, zz2, zz3, zz4, zz5, zz7, zz8, zz9, zza, zzb] at hk16
    refine g_off HE rfl rfl rfl hb14 ?_; clear HE; intro a HE
    refine g_off HE rfl rfl rfl hb14 ?_; clear HE; intro a HE
    refine g_off HE rfl rfl rfl hb14 ?_; clear HE; intro a HE
    refine o_pick_f HE rfl rfl hb14 rfl ?_; clear HE; intro a HE
    exact ⟨rfl, HE.cut ⟨by rw [hb14]; rfl, rfl, rfl, rfl, rfl, rfl, rfl, rfl, rfl, rfl, trivial⟩⟩
  clear HE; rintro a _ ⟨rfl, HE⟩
  refine hK _ _ ?_; clear hK K
  refine cond HE rfl (fun h18 => ?_) (fun h18 => ?_)
  ·have h18r := h18; try simp only [zz1, zz2, zz3, zz4, zz5, zz6, zz7, zz8, zz9, zza, zzb] at h18
   refine wp_seq_k (fun K hK => ?_); refine wp_region_lit ?_
   refine o_move HE rfl rfl ?_; clear HE; intro a HE
   refine o_assign HE rfl rfl ?_; clear HE; intro a HE
   refine o_assign HE rfl rfl ?_; clear HE; intro a HE
   refine hK _ _ ?_; clear hK K
   refine wp_ret ?_
   show Q .ret _ _
   refine ret hQ HE rfl (HE.res rfl (HE.res rfl .nil)) ⟨_, _, HS.stop (List.nil_sublist _), rfl, ?_⟩
   have e : idxW ws 0 sw = (((i : Nat) : Int), true) := by
    rw [hx, idxW_step (i := i) (by simpa using ex12), if_pos h18r]
   show _ = _
   rw [e]
   rfl
  ·have h18r := h18; try simp only [zz1, zz2, zz3, zz4, zz5, zz6, zz7, zz8, zz9, zza, zzb] at h18
   refine wp_skip ?_
   refine hK10 _ _ ?_; clear hK10
   refine wp_region_lit ?_
   refine o_add HE rfl rfl rfl (by omega) ?_; clear HE; intro a HE
   refine o_move HE rfl rfl ?_; clear HE; intro a HE
   have hx2 : idxW ws 0 sw = idxW (ws.drop (i + 1)) ((i + 1 : Nat) : Int) sw := by
    rw [hx, idxW_step (i := i) (by simpa using ex12), if_neg (by rw [h18r]; decide)]
    rfl
   exact ⟨i + 1, ⟨HS, HE.cut ⟨rfl, rfl, rfl, rfl, trivial⟩, ⟨by omega, hx2⟩⟩, by omega⟩
 ·have h9r := h9; try simp only [zz1, zz2, zz3, zz4, zz5, zz6, zz7, zz8, zz9, zza, zzb] at h9
  refine wp_exit ?_
  refine hK2 _ _ ?_; clear hK2
  refine wp_seq_k (fun K hK => ?_); refine wp_region_lit ?_
  refine o_assign HE rfl rfl ?_; clear HE; intro a HE
  refine o_assign HE rfl rfl ?_; clear HE; intro a HE
  refine hK _ _ ?_; clear hK K
  refine wp_ret ?_
  show Q .ret _ _
  refine ret hQ HE rfl (HE.res rfl (HE.res rfl .nil)) ⟨_, _, HS.stop (List.nil_sublist _), rfl, ?_⟩
  have e : idxW ws 0 sw = (0, false) := by
   rw [hx, List.drop_of_length_le (by omega)]
   rfl
  show _ = _
  rw [e]
  rfl

/-! `incognito/sign.Model` -/
set_option maxRecDepth 100000 in
set_option maxHeartbeats 4000000 in
theorem c_model (sw : Bs) (w0 : World) (G : Heap) (hG : Sub G w0) (hgm : CellsAt G 4 0 [str [], str [114, 101, 103], str [99, 97, 115], str [115, 101, 116], str [109, 97, 112], str [102, 105, 102, 111], str [115, 116, 97, 99, 107], str [108, 111, 99, 107], str [99, 111, 117, 110, 116], str [109, 97, 120], str [111, 109, 97, 112]]):
  Calls Tryd.prog 115 #[str sw] w0 (Ret w0 G (fun v _ => v = .tuple #[.int .i64 (modelS sw).1, .bool (modelS sw).2])) := by
 refine enter Tryd.func115 rfl Tryd.ntmps115 rfl ?_
 intro Q hQ a HE
 have HS := St.start0 hG
 refine wp_seq_k (fun K hK => ?_); refine wp_region_lit ?_
 refine o_assign HE rfl rfl ?_; clear HE; intro a HE
 refine o_assign HE rfl rfl ?_; clear HE; intro a HE
 refine hK _ _ ?_; clear hK K
 refine wp_seq_k (fun K hK => ?_); refine wp_region_lit ?_
 refine o_move HE rfl rfl ?_; clear HE; intro a HE
 refine o_sliceArr HE rfl rfl T.r144 rfl ?_; clear HE; intro a HE
 have hW2 := Rd.ofCells (K := Knd.s) (xs := modelsW) hgm ⟨rfl, rfl, rfl, rfl, rfl, rfl, rfl, rfl, rfl, rfl, rfl, rfl⟩
 refine o_callP HE rfl HS rfl rfl T.g134 (c_numW sw modelsW _ _ _ _ HS.sub hW2 (by decide)) ?_
 clear HE HS; rintro _ w a HS rfl HE
 refine o_extract HE rfl rfl rfl ?_; clear HE; intro a HE
 refine o_extract HE rfl rfl rfl ?_; clear HE; intro a HE
 refine o_assign HE rfl rfl ?_; clear HE; intro a HE
 refine o_assign HE rfl rfl ?_; clear HE; intro a HE
 refine hK _ _ ?_; clear hK K
 refine wp_ret ?_
 show Q .ret _ _
 refine ret hQ HE rfl (HE.res rfl (HE.res rfl .nil)) ⟨_, _, HS.stop (List.nil_sublist _), rfl, ?_⟩
 exact rfl

/-! `incognito/sign.Op` -/
set_option maxRecDepth 100000 in
set_option maxHeartbeats 4000000 in
theorem c_op (sw : Bs) (w0 : World) (G : Heap) (hG : Sub G w0) (hgo : CellsAt G 5 0 [str [], str [119, 114, 105, 116, 101], str [114, 101, 97, 100], str [115, 119, 97, 112], str [97, 100, 100], str [100, 101, 108], str [104, 97, 115], str [112, 117, 116], str [103, 101, 116], str [112, 117, 115, 104], str [112, 111, 112], str [116, 97, 107, 101], str [102, 114, 101, 101], str [115, 99, 97, 110]]):
  Calls Tryd.prog 116 #[str sw] w0 (Ret w0 G (fun v _ => v = .tuple #[.int .i64 (opS sw).1, .bool (opS sw).2])) := by
 refine enter Tryd.func116 rfl Tryd.ntmps116 rfl ?_
 intro Q hQ a HE
 have HS := St.start0 hG
 refine wp_seq_k (fun K hK => ?_); refine wp_region_lit ?_
 refine o_assign HE rfl rfl ?_; clear HE; intro a HE
 refine o_assign HE rfl rfl ?_; clear HE; intro a HE
 refine hK _ _ ?_; clear hK K
 refine wp_seq_k (fun K hK => ?_); refine wp_region_lit ?_
 refine o_move HE rfl rfl ?_; clear HE; intro a HE
 refine o_sliceArr HE rfl rfl T.r145 rfl ?_; clear HE; intro a HE
 have hW2 := Rd.ofCells (K := Knd.s) (xs := opsW) hgo ⟨rfl, rfl, rfl, rfl, rfl, rfl, rfl, rfl, rfl, rfl, rfl, rfl, rfl, rfl, rfl⟩
 refine o_callP HE rfl HS rfl rfl T.g134 (c_numW sw opsW _ _ _ _ HS.sub hW2 (by decide)) ?_
 clear HE HS; rintro _ w a HS rfl HE
 refine o_extract HE rfl rfl rfl ?_; clear HE; intro a HE
 refine o_extract HE rfl rfl rfl ?_; clear HE; intro a HE
 refine o_assign HE rfl rfl ?_; clear HE; intro a HE
 refine o_assign HE rfl rfl ?_; clear HE; intro a HE
 refine hK _ _ ?_; clear hK K
 refine wp_ret ?_
 show Q .ret _ _
 refine ret hQ HE rfl (HE.res rfl (HE.res rfl .nil)) ⟨_, _, HS.stop (List.nil_sublist _), rfl, ?_⟩
 exact rfl

/-! `incognito/event.typed` -/
set_option maxRecDepth 100000 in
set_option maxHeartbeats 4000000 in
theorem c_typed (sw : Bs) (w0 : World) (G : Heap) (hG : Sub G w0) (hgn : CellsAt G 2 0 [str [], str [105, 110, 118, 111, 107, 101], str [111, 107], str [102, 97, 105, 108], str [105, 110, 102, 111]]):
  Calls Tryd.prog 89 #[str sw] w0 (Ret w0 G (fun v _ => v = .tuple #[.int .i64 (typedS sw).1, .bool (typedS sw).2])) := by
 refine enter Tryd.func89 rfl Tryd.ntmps89 rfl ?_
 intro Q hQ a HE
 have HS := St.start0 hG
 refine wp_seq_k (fun K hK => ?_); refine wp_region_lit ?_
 refine o_assign HE rfl rfl ?_; clear HE; intro a HE
 refine o_assign HE rfl rfl ?_; clear HE; intro a HE
 refine hK _ _ ?_; clear hK K
 refine wp_seq_k (fun K3 hK2 => ?_)
 refine wp_seq_k (fun K hK => ?_); refine wp_region_lit ?_
 refine o_ldIA HE rfl HS rfl hgn T.a86 ?_; clear HE; intro a HE
 refine o_move HE rfl rfl ?_; clear HE; intro a HE
 refine hK _ _ ?_; clear hK K
 refine wp_block ?_
 refine wp_loop_rounds 6 ?_
 rw [rounds_succ]
 refine wp_seq_k (fun K hK => ?_); refine wp_region_lit ?_
 refine o_lss HE rfl rfl rfl ?_; clear HE; intro a HE
 refine hK _ _ ?_; clear hK K
 refine wp_seq_k (fun K7 hK6 => ?_)
 refine cond HE rfl (fun h8 => ?_) (fun h8 => ?_)
 ·have h8r := h8; try simp only [zz1, zz2, zz3, zz4, zz5, zz6, zz7, zz8, zz9, zza, zzb] at h8
  refine wp_skip ?_
  refine hK6 _ _ ?_; clear hK6
  refine wp_seq_k (fun K10 hK9 => ?_)
  refine wp_block ?_
  refine wp_seq_k (fun K hK => ?_); refine wp_region_lit ?_
  refine o_move HE rfl rfl ?_; clear HE; intro a HE
  refine o_ixV HE rfl rfl rfl T.r86 Tryd.underlying86 (by decide) rfl (.inl ⟨T.s9, rfl⟩) ?_; clear HE; intro a HE
  refine o_assign HE rfl rfl ?_; clear HE; intro a HE
  refine o_assign HE rfl rfl ?_; clear HE; intro a HE
  refine hK _ _ ?_; clear hK K
  refine wp_seq_k (fun K hK => ?_); refine wp_region_lit ?_
  refine o_move HE rfl rfl ?_; clear HE; intro a HE
  refine o_gtr HE rfl rfl rfl ?_; clear HE; intro a HE
  refine o_move HE rfl rfl ?_; clear HE; intro a HE
  refine cutL 4 (fun a' w' => w0 = w' ∧ Env a' 20 [] [(17, .bool ((decide (0 < 0)) && ([] == sw))), (0, str sw), (2, .int .i64 0), (3, .bool false), (4, .int .i64 0), (6, .agg #[str [], str [105, 110, 118, 111, 107, 101], str [111, 107], str [102, 97, 105, 108], str [105, 110, 102, 111]]), (7, .int .i64 0), (8, .bool (decide (0 < 5))), (9, .int .i64 0), (10, str [])]) ?_ ?_
  ·refine (Bool.eq_false_or_eq_true (decide (0 < 0))).elim (fun hb12 => ?_) (fun hb12 => ?_)
   ·skip
    have hk13 := hb12; try simp only [zz1, zz2, zz3, zz4, zz5, zz7, zz8, zz9, zza, zzb] at hk13
    refine op_on HE rfl rfl hb12 ?_
    refine o_move HE rfl rfl ?_; clear HE; intro a HE
    refine op_on HE rfl rfl hb12 ?_
    refine o_move HE rfl rfl ?_; clear HE; intro a HE
    refine op_on HE rfl rfl hb12 ?_
    refine o_eqS HE rfl rfl rfl ?_; clear HE; intro a HE
    refine o_pick_t HE rfl rfl hb12 rfl ?_; clear HE; intro a HE
    exact ⟨rfl, HE.cut ⟨by rw [hb12]; rfl, rfl, rfl, rfl, rfl, rfl, rfl, rfl, rfl, rfl, trivial⟩⟩
   ·skip
    have hk14 := hb12; try simp only [zz1, zz2, zz3, zz4, zz5, zz7, zz8, zz9, zza, zzb] at hk14
    refine g_off HE rfl rfl rfl hb12 ?_; clear HE; intro a HE
    refine g_off HE rfl rfl rfl hb12 ?_; clear HE; intro a HE
    refine g_off HE rfl rfl rfl hb12 ?_; clear HE; intro a HE
    refine o_pick_f HE rfl rfl hb12 rfl ?_; clear HE; intro a HE
    exact ⟨rfl, HE.cut ⟨by rw [hb12]; rfl, rfl, rfl, rfl, rfl, rfl, rfl, rfl, rfl, rfl, trivial⟩⟩
  clear HE; rintro a _ ⟨rfl, HE⟩
  refine hK _ _ ?_; clear hK K
  refine cond HE rfl (fun h16 => ?_) (fun h16 => ?_)
  ·have h16r := h16; try simp only [zz1, zz2, zz3, zz4, zz5, zz6, zz7, zz8, zz9, zza, zzb] at h16
   refine wp_seq_k (fun K hK => ?_); refine wp_region_lit ?_
   refine o_move HE rfl rfl ?_; clear HE; intro a HE
   refine o_assign HE rfl rfl ?_; clear HE; intro a HE
   refine o_assign HE rfl rfl ?_; clear HE; intro a HE
   refine hK _ _ ?_; clear hK K
   refine wp_ret ?_
   show Q .ret _ _
   refine ret hQ HE rfl (HE.res rfl (HE.res rfl .nil)) ⟨_, _, HS.stop (List.nil_sublist _), rfl, ?_⟩
   exact absurd h16r (by simp)
  ·have h16r := h16; try simp only [zz1, zz2, zz3, zz4, zz5, zz6, zz7, zz8, zz9, zza, zzb] at h16
   refine wp_skip ?_
   refine hK9 _ _ ?_; clear hK9
   refine wp_region_lit ?_
   refine o_add HE rfl rfl rfl (by omega) ?_; clear HE; intro a HE
   refine o_move HE rfl rfl ?_; clear HE; intro a HE
   show Code.rounds _ _ _ _ _ _
   replace HE := HE.cut (L' := [(0, str sw), (6, .agg #[str [], str [105, 110, 118, 111, 107, 101], str [111, 107], str [102, 97, 105, 108], str [105, 110, 102, 111]]), (7, .int .i64 1)]) ⟨rfl, rfl, rfl, trivial⟩
   rw [rounds_succ]
   refine wp_seq_k (fun K hK => ?_); refine wp_region_lit ?_
   refine o_lss HE rfl rfl rfl ?_; clear HE; intro a HE
   refine hK _ _ ?_; clear hK K
   refine wp_seq_k (fun K20 hK19 => ?_)
   refine cond HE rfl (fun h21 => ?_) (fun h21 => ?_)
   ·have h21r := h21; try simp only [zz1, zz2, zz3, zz4, zz5, zz6, zz7, zz8, zz9, zza, zzb] at h21
    refine wp_skip ?_
    refine hK19 _ _ ?_; clear hK19
    refine wp_seq_k (fun K23 hK22 => ?_)
    refine wp_block ?_
    refine wp_seq_k (fun K hK => ?_); refine wp_region_lit ?_
    refine o_move HE rfl rfl ?_; clear HE; intro a HE
    refine o_ixV HE rfl rfl rfl T.r86 Tryd.underlying86 (by decide) rfl (.inl ⟨T.s9, rfl⟩) ?_; clear HE; intro a HE
    refine o_assign HE rfl rfl ?_; clear HE; intro a HE
    refine o_assign HE rfl rfl ?_; clear HE; intro a HE
    refine hK _ _ ?_; clear hK K
    refine wp_seq_k (fun K hK => ?_); refine wp_region_lit ?_
    refine o_move HE rfl rfl ?_; clear HE; intro a HE
    refine o_gtr HE rfl rfl rfl ?_; clear HE; intro a HE
    refine o_move HE rfl rfl ?_; clear HE; intro a HE
    refine cutL 4 (fun a' w' => w0 = w' ∧ Env a' 20 [] [(17, .bool ((decide (0 < 1)) && ([105, 110, 118, 111, 107, 101] == sw))), (0, str sw), (4, .int .i64 1), (6, .agg #[str [], str [105, 110, 118, 111, 107, 101], str [111, 107], str [102, 97, 105, 108], str [105, 110, 102, 111]]), (7, .int .i64 1), (8, .bool (decide (1 < 5))), (9, .int .i64 1), (10, str [105, 110, 118, 111, 107, 101])]) ?_ ?_
    ·refine (Bool.eq_false_or_eq_true (decide (0 < 1))).elim (fun hb25 => ?_) (fun hb25 => ?_)
     ·skip
      have hk26 := hb25; try simp only [zz1, zz2, zz3, zz4, zz5, zz7, zz8, zz9, zza, zzb] at hk26
      refine op_on HE rfl rfl hb25 ?_
      refine o_move HE rfl rfl ?_; clear HE; intro a HE
      refine op_on HE rfl rfl hb25 ?_
      refine o_move HE rfl rfl ?_; clear HE; intro a HE
      refine op_on HE rfl rfl hb25 ?_
      refine o_eqS HE rfl rfl rfl ?_; clear HE; intro a HE
      refine o_pick_t HE rfl rfl hb25 rfl ?_; clear HE; intro a HE
      exact ⟨rfl, HE.cut ⟨by rw [hb25]; rfl, rfl, rfl, rfl, rfl, rfl, rfl, rfl, trivial⟩⟩
     ·skip
      have hk27 := hb25; try simp only [zz1, zz2, zz3, zz4, zz5, zz7, zz8, zz9, zza, zzb] at hk27
      refine g_off HE rfl rfl rfl hb25 ?_; clear HE; intro a HE
      refine g_off HE rfl rfl rfl hb25 ?_; clear HE; intro a HE
      refine g_off HE rfl rfl rfl hb25 ?_; clear HE; intro a HE
      refine o_pick_f HE rfl rfl hb25 rfl ?_; clear HE; intro a HE
      exact ⟨rfl, HE.cut ⟨by rw [hb25]; rfl, rfl, rfl, rfl, rfl, rfl, rfl, rfl, trivial⟩⟩
    clear HE; rintro a _ ⟨rfl, HE⟩
    refine hK _ _ ?_; clear hK K
    refine cond HE rfl (fun h29 => ?_) (fun h29 => ?_)
    ·have h29r := h29; try simp only [zz1, zz2, zz3, zz4, zz5, zz6, zz7, zz8, zz9, zza, zzb] at h29
     refine wp_seq_k (fun K hK => ?_); refine wp_region_lit ?_
     refine o_move HE rfl rfl ?_; clear HE; intro a HE
     refine o_assign HE rfl rfl ?_; clear HE; intro a HE
     refine o_assign HE rfl rfl ?_; clear HE; intro a HE
     refine hK _ _ ?_; clear hK K
     refine wp_ret ?_
     show Q .ret _ _
     refine ret hQ HE rfl (HE.res rfl (HE.res rfl .nil)) ⟨_, _, HS.stop (List.nil_sublist _), rfl, ?_⟩
     have e : typedS sw = (1, true) := by
      unfold typedS
      rw [if_pos (by simpa using h29)]
     show _ = _
     rw [e]
     rfl
    ·have h29r := h29; try simp only [zz1, zz2, zz3, zz4, zz5, zz6, zz7, zz8, zz9, zza, zzb] at h29
     refine wp_skip ?_
     refine hK22 _ _ ?_; clear hK22
     refine wp_region_lit ?_
     refine o_add HE rfl rfl rfl (by omega) ?_; clear HE; intro a HE
     refine o_move HE rfl rfl ?_; clear HE; intro a HE
     show Code.rounds _ _ _ _ _ _
     replace HE := HE.cut (L' := [(0, str sw), (6, .agg #[str [], str [105, 110, 118, 111, 107, 101], str [111, 107], str [102, 97, 105, 108], str [105, 110, 102, 111]]), (7, .int .i64 2)]) ⟨rfl, rfl, rfl, trivial⟩
     rw [rounds_succ]
     refine wp_seq_k (fun K hK => ?_); refine wp_region_lit ?_
     refine o_lss HE rfl rfl rfl ?_; clear HE; intro a HE
     refine hK _ _ ?_; clear hK K
     refine wp_seq_k (fun K33 hK32 => ?_)
     refine cond HE rfl (fun h34 => ?_) (fun h34 => ?_)
     ·have h34r := h34; try simp only [zz1, zz2, zz3, zz4, zz5, zz6, zz7, zz8, zz9, zza, zzb] at h34
      refine wp_skip ?_
      refine hK32 _ _ ?_; clear hK32
      refine wp_seq_k (fun K36 hK35 => ?_)
      refine wp_block ?_
      refine wp_seq_k (fun K hK => ?_); refine wp_region_lit ?_
      refine o_move HE rfl rfl ?_; clear HE; intro a HE
      refine o_ixV HE rfl rfl rfl T.r86 Tryd.underlying86 (by decide) rfl (.inl ⟨T.s9, rfl⟩) ?_; clear HE; intro a HE
      refine o_assign HE rfl rfl ?_; clear HE; intro a HE
      refine o_assign HE rfl rfl ?_; clear HE; intro a HE
      refine hK _ _ ?_; clear hK K
      refine wp_seq_k (fun K hK => ?_); refine wp_region_lit ?_
      refine o_move HE rfl rfl ?_; clear HE; intro a HE
      refine o_gtr HE rfl rfl rfl ?_; clear HE; intro a HE
      refine o_move HE rfl rfl ?_; clear HE; intro a HE
      refine cutL 4 (fun a' w' => w0 = w' ∧ Env a' 20 [] [(17, .bool ((decide (0 < 2)) && ([111, 107] == sw))), (0, str sw), (4, .int .i64 2), (6, .agg #[str [], str [105, 110, 118, 111, 107, 101], str [111, 107], str [102, 97, 105, 108], str [105, 110, 102, 111]]), (7, .int .i64 2), (8, .bool (decide (2 < 5))), (9, .int .i64 2), (10, str [111, 107])]) ?_ ?_
      ·refine (Bool.eq_false_or_eq_true (decide (0 < 2))).elim (fun hb38 => ?_) (fun hb38 => ?_)
       ·skip
        have hk39 := hb38; try simp only [zz1, zz2, zz3, zz4, zz5, zz7, zz8, zz9, zza, zzb] at hk39
        refine op_on HE rfl rfl hb38 ?_
        refine o_move HE rfl rfl ?_; clear HE; intro a HE
        refine op_on HE rfl rfl hb38 ?_
        refine o_move HE rfl rfl ?_; clear HE; intro a HE
        refine op_on HE rfl rfl hb38 ?_
        refine o_eqS HE rfl rfl rfl ?_; clear HE; intro a HE
        refine o_pick_t HE rfl rfl hb38 rfl ?_; clear HE; intro a HE
        exact ⟨rfl, HE.cut ⟨by rw [hb38]; rfl, rfl, rfl, rfl, rfl, rfl, rfl, rfl, trivial⟩⟩
       ·skip
        have hk40 := hb38; try simp only [zz1, zz2, zz3, zz4, zz5, zz7, zz8, zz9, zza, zzb] at hk40
        refine g_off HE rfl rfl rfl hb38 ?_; clear HE; intro a HE
        refine g_off HE rfl rfl rfl hb38 ?_; clear HE; intro a HE
        refine g_off HE rfl rfl rfl hb38 ?_; clear HE; intro a HE
        refine o_pick_f HE rfl rfl hb38 rfl ?_; clear HE; intro a HE
        exact ⟨rfl, HE.cut ⟨by rw [hb38]; rfl, rfl, rfl, rfl, rfl, rfl, rfl, rfl, trivial⟩⟩
      clear HE; rintro a _ ⟨rfl, HE⟩
      refine hK _ _ ?_; clear hK K
      refine cond HE rfl (fun h42 => ?_) (fun h42 => ?_)
      ·have h42r := h42; try simp only [zz1, zz2, zz3, zz4, zz5, zz6, zz7, zz8, zz9, zza, zzb] at h42
       refine wp_seq_k (fun K hK => ?_); refine wp_region_lit ?_
       refine o_move HE rfl rfl ?_; clear HE; intro a HE
       refine o_assign HE rfl rfl ?_; clear HE; intro a HE
       refine o_assign HE rfl rfl ?_; clear HE; intro a HE
       refine hK _ _ ?_; clear hK K
       refine wp_ret ?_
       show Q .ret _ _
       refine ret hQ HE rfl (HE.res rfl (HE.res rfl .nil)) ⟨_, _, HS.stop (List.nil_sublist _), rfl, ?_⟩
       have e : typedS sw = (2, true) := by
        unfold typedS
        rw [if_neg (by simpa using h29)]
        rw [if_pos (by simpa using h42)]
       show _ = _
       rw [e]
       rfl
      ·have h42r := h42; try simp only [zz1, zz2, zz3, zz4, zz5, zz6, zz7, zz8, zz9, zza, zzb] at h42
       refine wp_skip ?_
       refine hK35 _ _ ?_; clear hK35
       refine wp_region_lit ?_
       refine o_add HE rfl rfl rfl (by omega) ?_; clear HE; intro a HE
       refine o_move HE rfl rfl ?_; clear HE; intro a HE
       show Code.rounds _ _ _ _ _ _
       replace HE := HE.cut (L' := [(0, str sw), (6, .agg #[str [], str [105, 110, 118, 111, 107, 101], str [111, 107], str [102, 97, 105, 108], str [105, 110, 102, 111]]), (7, .int .i64 3)]) ⟨rfl, rfl, rfl, trivial⟩
       rw [rounds_succ]
       refine wp_seq_k (fun K hK => ?_); refine wp_region_lit ?_
       refine o_lss HE rfl rfl rfl ?_; clear HE; intro a HE
       refine hK _ _ ?_; clear hK K
       refine wp_seq_k (fun K46 hK45 => ?_)
       refine cond HE rfl (fun h47 => ?_) (fun h47 => ?_)
       ·have h47r := h47; try simp only [zz1, zz2, zz3, zz4, zz5, zz6, zz7, zz8, zz9, zza, zzb] at h47
        refine wp_skip ?_
        refine hK45 _ _ ?_; clear hK45
        refine wp_seq_k (fun K49 hK48 => ?_)
        refine wp_block ?_
        refine wp_seq_k (fun K hK => ?_); refine wp_region_lit ?_
        refine o_move HE rfl rfl ?_; clear HE; intro a HE
        refine o_ixV HE rfl rfl rfl T.r86 Tryd.underlying86 (by decide) rfl (.inl ⟨T.s9, rfl⟩) ?_; clear HE; intro a HE
        refine o_assign HE rfl rfl ?_; clear HE; intro a HE
        refine o_assign HE rfl rfl ?_; clear HE; intro a HE
        refine hK _ _ ?_; clear hK K
        refine wp_seq_k (fun K hK => ?_); refine wp_region_lit ?_
        refine o_move HE rfl rfl ?_; clear HE; intro a HE
        refine o_gtr HE rfl rfl rfl ?_; clear HE; intro a HE
        refine o_move HE rfl rfl ?_; clear HE; intro a HE
        refine cutL 4 (fun a' w' => w0 = w' ∧ Env a' 20 [] [(17, .bool ((decide (0 < 3)) && ([102, 97, 105, 108] == sw))), (0, str sw), (4, .int .i64 3), (6, .agg #[str [], str [105, 110, 118, 111, 107, 101], str [111, 107], str [102, 97, 105, 108], str [105, 110, 102, 111]]), (7, .int .i64 3), (8, .bool (decide (3 < 5))), (9, .int .i64 3), (10, str [102, 97, 105, 108])]) ?_ ?_
        ·refine (Bool.eq_false_or_eq_true (decide (0 < 3))).elim (fun hb51 => ?_) (fun hb51 => ?_)
         ·skip
          have hk52 := hb51; try simp only [zz1, zz2, zz3, zz4, zz5, zz7, zz8, zz9, zza, zzb] at hk52
          refine op_on HE rfl rfl hb51 ?_
          refine o_move HE rfl rfl ?_; clear HE; intro a HE
          refine op_on HE rfl rfl hb51 ?_
          refine o_move HE rfl rfl ?_; clear HE; intro a HE
          refine op_on HE rfl rfl hb51 ?_
          refine o_eqS HE rfl rfl rfl ?_; clear HE; intro a HE
          refine o_pick_t HE rfl rfl hb51 rfl ?_; clear HE; intro a HE
          exact ⟨rfl, HE.cut ⟨by rw [hb51]; rfl, rfl, rfl, rfl, rfl, rfl, rfl, rfl, trivial⟩⟩
         ·skip
          have hk53 := hb51; try simp only [zz1, zz2, zz3, zz4, zz5, zz7, zz8, zz9, zza, zzb] at hk53
          refine g_off HE rfl rfl rfl hb51 ?_; clear HE; intro a HE
          refine g_off HE rfl rfl rfl hb51 ?_; clear HE; intro a HE
          refine g_off HE rfl rfl rfl hb51 ?_; clear HE; intro a HE
          refine o_pick_f HE rfl rfl hb51 rfl ?_; clear HE; intro a HE
          exact ⟨rfl, HE.cut ⟨by rw [hb51]; rfl, rfl, rfl, rfl, rfl, rfl, rfl, rfl, trivial⟩⟩
        clear HE; rintro a _ ⟨rfl, HE⟩
        refine hK _ _ ?_; clear hK K
        refine cond HE rfl (fun h55 => ?_) (fun h55 => ?_)
        ·have h55r := h55; try simp only [zz1, zz2, zz3, zz4, zz5, zz6, zz7, zz8, zz9, zza, zzb] at h55
         refine wp_seq_k (fun K hK => ?_); refine wp_region_lit ?_
         refine o_move HE rfl rfl ?_; clear HE; intro a HE
         refine o_assign HE rfl rfl ?_; clear HE; intro a HE
         refine o_assign HE rfl rfl ?_; clear HE; intro a HE
         refine hK _ _ ?_; clear hK K
         refine wp_ret ?_
         show Q .ret _ _
         refine ret hQ HE rfl (HE.res rfl (HE.res rfl .nil)) ⟨_, _, HS.stop (List.nil_sublist _), rfl, ?_⟩
         have e : typedS sw = (3, true) := by
          unfold typedS
          rw [if_neg (by simpa using h29)]
          rw [if_neg (by simpa using h42)]
          rw [if_pos (by simpa using h55)]
         show _ = _
         rw [e]
         rfl
        ·have h55r := h55; try simp only [zz1, zz2, zz3, zz4, zz5, zz6, zz7, zz8, zz9, zza, zzb] at h55
         refine wp_skip ?_
         refine hK48 _ _ ?_; clear hK48
         refine wp_region_lit ?_
         refine o_add HE rfl rfl rfl (by omega) ?_; clear HE; intro a HE
         refine o_move HE rfl rfl ?_; clear HE; intro a HE
         show Code.rounds _ _ _ _ _ _
         replace HE := HE.cut (L' := [(0, str sw), (6, .agg #[str [], str [105, 110, 118, 111, 107, 101], str [111, 107], str [102, 97, 105, 108], str [105, 110, 102, 111]]), (7, .int .i64 4)]) ⟨rfl, rfl, rfl, trivial⟩
         rw [rounds_succ]
         refine wp_seq_k (fun K hK => ?_); refine wp_region_lit ?_
         refine o_lss HE rfl rfl rfl ?_; clear HE; intro a HE
         refine hK _ _ ?_; clear hK K
         refine wp_seq_k (fun K59 hK58 => ?_)
         refine cond HE rfl (fun h60 => ?_) (fun h60 => ?_)
         ·have h60r := h60; try simp only [zz1, zz2, zz3, zz4, zz5, zz6, zz7, zz8, zz9, zza, zzb] at h60
          refine wp_skip ?_
          refine hK58 _ _ ?_; clear hK58
          refine wp_seq_k (fun K62 hK61 => ?_)
          refine wp_block ?_
          refine wp_seq_k (fun K hK => ?_); refine wp_region_lit ?_
          refine o_move HE rfl rfl ?_; clear HE; intro a HE
          refine o_ixV HE rfl rfl rfl T.r86 Tryd.underlying86 (by decide) rfl (.inl ⟨T.s9, rfl⟩) ?_; clear HE; intro a HE
          refine o_assign HE rfl rfl ?_; clear HE; intro a HE
          refine o_assign HE rfl rfl ?_; clear HE; intro a HE
          refine hK _ _ ?_; clear hK K
          refine wp_seq_k (fun K hK => ?_); refine wp_region_lit ?_
          refine o_move HE rfl rfl ?_; clear HE; intro a HE
          refine o_gtr HE rfl rfl rfl ?_; clear HE; intro a HE
          refine o_move HE rfl rfl ?_; clear HE; intro a HE
          refine cutL 4 (fun a' w' => w0 = w' ∧ Env a' 20 [] [(17, .bool ((decide (0 < 4)) && ([105, 110, 102, 111] == sw))), (0, str sw), (4, .int .i64 4), (6, .agg #[str [], str [105, 110, 118, 111, 107, 101], str [111, 107], str [102, 97, 105, 108], str [105, 110, 102, 111]]), (7, .int .i64 4), (8, .bool (decide (4 < 5))), (9, .int .i64 4), (10, str [105, 110, 102, 111])]) ?_ ?_
          ·refine (Bool.eq_false_or_eq_true (decide (0 < 4))).elim (fun hb64 => ?_) (fun hb64 => ?_)
           ·skip
            have hk65 := hb64; try simp only [zz1, zz2, zz3, zz4, zz5, zz7, zz8, zz9, zza, zzb] at hk65
            refine op_on HE rfl rfl hb64 ?_
            refine o_move HE rfl rfl ?_; clear HE; intro a HE
            refine op_on HE rfl rfl hb64 ?_
            refine o_move HE rfl rfl ?_; clear HE; intro a HE
            refine op_on HE rfl rfl hb64 ?_
            refine o_eqS HE rfl rfl rfl ?_; clear HE; intro a HE
            refine o_pick_t HE rfl rfl hb64 rfl ?_; clear HE; intro a HE
            exact ⟨rfl, HE.cut ⟨by rw [hb64]; rfl, rfl, rfl, rfl, rfl, rfl, rfl, rfl, trivial⟩⟩
           ·skip
            have hk66 := hb64; try simp only [zz1, zz2, zz3, zz4, zz5, zz7, zz8, zz9, zza, zzb] at hk66
            refine g_off HE rfl rfl rfl hb64 ?_; clear HE; intro a HE
            refine g_off HE rfl rfl rfl hb64 ?_; clear HE; intro a HE
            refine g_off HE rfl rfl rfl hb64 ?_; clear HE; intro a HE
            refine o_pick_f HE rfl rfl hb64 rfl ?_; clear HE; intro a HE
            exact ⟨rfl, HE.cut ⟨by rw [hb64]; rfl, rfl, rfl, rfl, rfl, rfl, rfl, rfl, trivial⟩⟩
          clear HE; rintro a _ ⟨rfl, HE⟩
          refine hK _ _ ?_; clear hK K
          refine cond HE rfl (fun h68 => ?_) (fun h68 => ?_)
          ·have h68r := h68; try simp only [zz1, zz2, zz3, zz4, zz5, zz6, zz7, zz8, zz9, zza, zzb] at h68
           refine wp_seq_k (fun K hK => ?_); refine wp_region_lit ?_
           refine o_move HE rfl rfl ?_; clear HE; intro a HE
           refine o_assign HE rfl rfl ?_; clear HE; intro a HE
           refine o_assign HE rfl rfl ?_; clear HE; intro a HE
           refine hK _ _ ?_; clear hK K
           refine wp_ret ?_
           show Q .ret _ _
           refine ret hQ HE rfl (HE.res rfl (HE.res rfl .nil)) ⟨_, _, HS.stop (List.nil_sublist _), rfl, ?_⟩
           have e : typedS sw = (4, true) := by
            unfold typedS
            rw [if_neg (by simpa using h29)]
            rw [if_neg (by simpa using h42)]
            rw [if_neg (by simpa using h55)]
            rw [if_pos (by simpa using h68)]
           show _ = _
           rw [e]
           rfl
          ·have h68r := h68; try simp only [zz1, zz2, zz3, zz4, zz5, zz6, zz7, zz8, zz9, zza, zzb] at h68
           refine wp_skip ?_
           refine hK61 _ _ ?_; clear hK61
           refine wp_region_lit ?_
           refine o_add HE rfl rfl rfl (by omega) ?_; clear HE; intro a HE
           refine o_move HE rfl rfl ?_; clear HE; intro a HE
           show Code.rounds _ _ _ _ _ _
           replace HE := HE.cut (L' := [(0, str sw), (6, .agg #[str [], str [105, 110, 118, 111, 107, 101], str [111, 107], str [102, 97, 105, 108], str [105, 110, 102, 111]]), (7, .int .i64 5)]) ⟨rfl, rfl, rfl, trivial⟩
           rw [rounds_succ]
           refine wp_seq_k (fun K hK => ?_); refine wp_region_lit ?_
           refine o_lss HE rfl rfl rfl ?_; clear HE; intro a HE
           refine hK _ _ ?_; clear hK K
           refine wp_seq_k (fun K72 hK71 => ?_)
           refine cond HE rfl (fun h73 => ?_) (fun h73 => ?_)
           ·exact absurd h73 (by decide)
           ·have h73r := h73; try simp only [zz1, zz2, zz3, zz4, zz5, zz6, zz7, zz8, zz9, zza, zzb] at h73
            refine wp_exit ?_
            refine hK2 _ _ ?_; clear hK2
            refine wp_seq_k (fun K hK => ?_); refine wp_region_lit ?_
            refine o_assign HE rfl rfl ?_; clear HE; intro a HE
            refine o_assign HE rfl rfl ?_; clear HE; intro a HE
            refine hK _ _ ?_; clear hK K
            refine wp_ret ?_
            show Q .ret _ _
            refine ret hQ HE rfl (HE.res rfl (HE.res rfl .nil)) ⟨_, _, HS.stop (List.nil_sublist _), rfl, ?_⟩
            have e : typedS sw = (0, false) := by
             unfold typedS
             rw [if_neg (by simpa using h29)]
             rw [if_neg (by simpa using h42)]
             rw [if_neg (by simpa using h55)]
             rw [if_neg (by simpa using h68)]
            show _ = _
            rw [e]
            rfl
         ·exact absurd h60 (by decide)
       ·exact absurd h47 (by decide)
     ·exact absurd h34 (by decide)
   ·exact absurd h21 (by decide)
 ·exact absurd h8 (by decide)

/-! `incognito/sign.Takes` -/
set_option maxRecDepth 100000 in
set_option maxHeartbeats 4000000 in
theorem c_takes (d : Int) (x : Val) (w0 : World) (G : Heap) (hG : Sub G w0) (hg0 : CellsAt G 3 0 [.int .i64 3, .int .i64 1, str []]) (hg1 : CellsAt G 6 0 [.int .i64 3, .int .i64 0, str []]) (hv : x.Wf):
  Calls Tryd.prog 62 #[.int .i64 d, .agg #[.int .i64 x.k, .int .i64 x.n, str x.s]] w0 (Ret w0 G (fun v _ => v = .bool (takesB d x))) := by
 refine enter Tryd.func62 rfl Tryd.ntmps62 rfl ?_
 intro Q hQ a HE
 have HS := St.start0 hG
 refine wp_seq_k (fun K hK => ?_); refine wp_region_lit ?_
 refine o_boxL [(0, _), (1, _), (2, _)] HE rfl HS rfl ⟨rfl, rfl, rfl, trivial⟩ ?_; clear HE HS; intro B3 w a HS HE
 refine o_assign HE rfl rfl ?_; clear HE; intro a HE
 refine hK _ _ ?_; clear hK K
 refine wp_seq_k (fun K3 hK2 => ?_)
 refine wp_seq_k (fun K hK => ?_); refine wp_region_lit ?_
 refine o_ldA HE rfl HS rfl T.a41 (.here .here) rfl ?_; clear HE; intro a HE
 refine o_callP HE rfl HS rfl rfl T.g66 (c_right7 x _ _ HS.sub hg0 hg1 (by first | assumption | exact hv | (constructor <;> first | assumption | (simp only [I64]; omega) | (simp; omega)))) ?_
 clear HE HS; rintro _ w a HS rfl HE
 refine o_not HE rfl rfl ?_; clear HE; intro a HE
 refine hK _ _ ?_; clear hK K
 refine cond HE rfl (fun h5 => ?_) (fun h5 => ?_)
 ·have h5r := h5; try simp only [zz1, zz2, zz3, zz4, zz5, zz6, zz7, zz8, zz9, zza, zzb] at h5
  refine wp_seq_k (fun K hK => ?_); refine wp_region_lit ?_
  refine o_assign HE rfl rfl ?_; clear HE; intro a HE
  refine hK _ _ ?_; clear hK K
  refine wp_ret ?_
  show Q .ret _ _
  refine ret hQ HE rfl (HE.res rfl .nil) ⟨_, _, HS.stop (List.nil_sublist _), rfl, ?_⟩
  have e : takesB d x = false := by
   unfold takesB
   first | (simp_all; done) | (simp_all; omega) | grind
  show _ = _
  rw [e]
  rfl
 ·have h5r := h5; try simp only [zz1, zz2, zz3, zz4, zz5, zz6, zz7, zz8, zz9, zza, zzb] at h5
  refine wp_skip ?_
  refine hK2 _ _ ?_; clear hK2
  refine wp_seq_k (fun K8 hK7 => ?_)
  refine wp_seq_k (fun K hK => ?_); refine wp_region_lit ?_
  refine o_move HE rfl rfl ?_; clear HE; intro a HE
  refine hK _ _ ?_; clear hK K
  refine wp_block ?_
  refine wp_seq_k (fun K11 hK10 => ?_)
  refine wp_seq_k (fun K hK => ?_); refine wp_region_lit ?_
  refine o_eqI HE rfl rfl rfl ?_; clear HE; intro a HE
  refine o_assign HE rfl rfl ?_; clear HE; intro a HE
  refine hK _ _ ?_; clear hK K
  refine cond HE rfl (fun h13 => ?_) (fun h13 => ?_)
  ·have h13r := h13; try simp only [zz1, zz2, zz3, zz4, zz5, zz6, zz7, zz8, zz9, zza, zzb] at h13
   refine wp_skip ?_
   refine hK10 _ _ ?_; clear hK10
   refine cond HE rfl (fun h14 => ?_) (fun h14 => ?_)
   ·have h14r := h14; try simp only [zz1, zz2, zz3, zz4, zz5, zz6, zz7, zz8, zz9, zza, zzb] at h14
    refine wp_seq_k (fun K hK => ?_); refine wp_region_lit ?_
    refine o_fld HE rfl rfl T.f41_0 ?_; clear HE; intro a HE
    refine o_ld HE rfl HS rfl T.s3 (.here .here) rfl ?_; clear HE; intro a HE
    refine o_eqI HE rfl rfl rfl ?_; clear HE; intro a HE
    refine o_move HE rfl rfl ?_; clear HE; intro a HE
    refine cutL 4 (fun a' w' => w = w' ∧ Env a' 35 [] [(22, .bool ((decide (x.k = 1)) || (decide (x.k = 2)))), (0, .int .i64 d), (1, .agg #[.int .i64 x.k, .int .i64 x.n, str x.s]), (3, .pointer (some ⟨B3, 0, none⟩)), (4, .bool false), (5, .agg #[.int .i64 x.k, .int .i64 x.n, str x.s]), (6, .bool (rightV x)), (7, .bool (!(rightV x))), (8, .int .i64 d), (9, .bool (decide (d = 0))), (10, .bool (decide (d = 0)))]) ?_ ?_
    ·refine (Bool.eq_false_or_eq_true (decide (x.k = 1))).elim (fun hb15 => ?_) (fun hb15 => ?_)
     ·skip
      have hk16 := hb15; try simp only [zz1, zz2, zz3, zz4, zz5, zz7, zz8, zz9, zza, zzb] at hk16
      refine g_off HE rfl rfl rfl hb15 ?_; clear HE; intro a HE
      refine g_off HE rfl rfl rfl hb15 ?_; clear HE; intro a HE
      refine g_off HE rfl rfl rfl hb15 ?_; clear HE; intro a HE
      refine o_pick_t HE rfl rfl hb15 rfl ?_; clear HE; intro a HE
      exact ⟨rfl, HE.cut ⟨by rw [hb15]; rfl, rfl, rfl, rfl, rfl, rfl, rfl, rfl, rfl, rfl, rfl, trivial⟩⟩
     ·skip
      have hk17 := hb15; try simp only [zz1, zz2, zz3, zz4, zz5, zz7, zz8, zz9, zza, zzb] at hk17
      refine op_on HE rfl rfl hb15 ?_
      refine o_fld HE rfl rfl T.f41_0 ?_; clear HE; intro a HE
      refine op_on HE rfl rfl hb15 ?_
      refine o_ld HE rfl HS rfl T.s3 (.here .here) rfl ?_; clear HE; intro a HE
      refine op_on HE rfl rfl hb15 ?_
      refine o_eqI HE rfl rfl rfl ?_; clear HE; intro a HE
      refine o_pick_f HE rfl rfl hb15 rfl ?_; clear HE; intro a HE
      exact ⟨rfl, HE.cut ⟨by rw [hb15]; rfl, rfl, rfl, rfl, rfl, rfl, rfl, rfl, rfl, rfl, rfl, trivial⟩⟩
    clear HE; rintro a _ ⟨rfl, HE⟩
    refine o_assign HE rfl rfl ?_; clear HE; intro a HE
    refine hK _ _ ?_; clear hK K
    refine wp_ret ?_
    show Q .ret _ _
    refine ret hQ HE rfl (HE.res rfl .nil) ⟨_, _, HS.stop (List.nil_sublist _), rfl, ?_⟩
    have e : takesB d x = ((decide (x.k = 1)) || (decide (x.k = 2))) := by
     unfold takesB
     first | (simp_all; done) | (simp_all; omega) | grind
    show _ = _
    rw [e]
    rfl
   ·have h14r := h14; try simp only [zz1, zz2, zz3, zz4, zz5, zz6, zz7, zz8, zz9, zza, zzb] at h14
    refine wp_seq_k (fun K hK => ?_); refine wp_region_lit ?_
    refine o_eqI HE rfl rfl rfl ?_; clear HE; intro a HE
    refine o_assign HE rfl rfl ?_; clear HE; intro a HE
    refine hK _ _ ?_; clear hK K
    refine cond HE rfl (fun h20 => ?_) (fun h20 => ?_)
    ·have h20r := h20; try simp only [zz1, zz2, zz3, zz4, zz5, zz6, zz7, zz8, zz9, zza, zzb] at h20
     refine wp_seq_k (fun K hK => ?_); refine wp_region_lit ?_
     refine o_fld HE rfl rfl T.f41_0 ?_; clear HE; intro a HE
     refine o_ld HE rfl HS rfl T.s3 (.here .here) rfl ?_; clear HE; intro a HE
     refine o_eqI HE rfl rfl rfl ?_; clear HE; intro a HE
     refine o_assign HE rfl rfl ?_; clear HE; intro a HE
     refine hK _ _ ?_; clear hK K
     refine wp_ret ?_
     show Q .ret _ _
     refine ret hQ HE rfl (HE.res rfl .nil) ⟨_, _, HS.stop (List.nil_sublist _), rfl, ?_⟩
     have e : takesB d x = (decide (x.k = 1)) := by
      unfold takesB
      first | (simp_all; done) | (simp_all; omega) | grind
     show _ = _
     rw [e]
     rfl
    ·have h20r := h20; try simp only [zz1, zz2, zz3, zz4, zz5, zz6, zz7, zz8, zz9, zza, zzb] at h20
     refine wp_skip ?_
     refine hK7 _ _ ?_; clear hK7
     refine wp_seq_k (fun K hK => ?_); refine wp_region_lit ?_
     refine o_move HE rfl rfl ?_; clear HE; intro a HE
     refine o_eqI HE rfl rfl rfl ?_; clear HE; intro a HE
     refine o_move HE rfl rfl ?_; clear HE; intro a HE
     refine cutL 4 (fun a' w' => w = w' ∧ Env a' 35 [] [(34, .bool ((decide (d = 6)) && (decide (x.k = 3)))), (0, .int .i64 d), (1, .agg #[.int .i64 x.k, .int .i64 x.n, str x.s]), (3, .pointer (some ⟨B3, 0, none⟩)), (4, .bool false), (5, .agg #[.int .i64 x.k, .int .i64 x.n, str x.s]), (6, .bool (rightV x)), (7, .bool (!(rightV x))), (8, .int .i64 d), (9, .bool (decide (d = 0))), (10, .bool (decide (d = 0))), (23, .bool (decide (d = 5))), (24, .bool (decide (d = 5)))]) ?_ ?_
     ·refine (Bool.eq_false_or_eq_true (decide (d = 6))).elim (fun hb22 => ?_) (fun hb22 => ?_)
      ·skip
       have hk23 := hb22; try simp only [zz1, zz2, zz3, zz4, zz5, zz7, zz8, zz9, zza, zzb] at hk23
       refine op_on HE rfl rfl hb22 ?_
       refine o_fld HE rfl rfl T.f41_0 ?_; clear HE; intro a HE
       refine op_on HE rfl rfl hb22 ?_
       refine o_ld HE rfl HS rfl T.s3 (.here .here) rfl ?_; clear HE; intro a HE
       refine op_on HE rfl rfl hb22 ?_
       refine o_eqI HE rfl rfl rfl ?_; clear HE; intro a HE
       refine o_pick_t HE rfl rfl hb22 rfl ?_; clear HE; intro a HE
       exact ⟨rfl, HE.cut ⟨by rw [hb22]; rfl, rfl, rfl, rfl, rfl, rfl, rfl, rfl, rfl, rfl, rfl, rfl, rfl, trivial⟩⟩
      ·skip
       have hk24 := hb22; try simp only [zz1, zz2, zz3, zz4, zz5, zz7, zz8, zz9, zza, zzb] at hk24
       refine g_off HE rfl rfl rfl hb22 ?_; clear HE; intro a HE
       refine g_off HE rfl rfl rfl hb22 ?_; clear HE; intro a HE
       refine g_off HE rfl rfl rfl hb22 ?_; clear HE; intro a HE
       refine o_pick_f HE rfl rfl hb22 rfl ?_; clear HE; intro a HE
       exact ⟨rfl, HE.cut ⟨by rw [hb22]; rfl, rfl, rfl, rfl, rfl, rfl, rfl, rfl, rfl, rfl, rfl, rfl, rfl, trivial⟩⟩
     clear HE; rintro a _ ⟨rfl, HE⟩
     refine o_assign HE rfl rfl ?_; clear HE; intro a HE
     refine hK _ _ ?_; clear hK K
     refine wp_ret ?_
     show Q .ret _ _
     refine ret hQ HE rfl (HE.res rfl .nil) ⟨_, _, HS.stop (List.nil_sublist _), rfl, ?_⟩
     have e : takesB d x = ((decide (d = 6)) && (decide (x.k = 3))) := by
      unfold takesB
      first | (simp_all; done) | (simp_all; omega) | grind
     show _ = _
     rw [e]
     rfl
  ·have h13r := h13; try simp only [zz1, zz2, zz3, zz4, zz5, zz6, zz7, zz8, zz9, zza, zzb] at h13
   refine wp_seq_k (fun K hK => ?_); refine wp_region_lit ?_
   refine o_eqI HE rfl rfl rfl ?_; clear HE; intro a HE
   refine o_assign HE rfl rfl ?_; clear HE; intro a HE
   refine hK _ _ ?_; clear hK K
   refine cond HE rfl (fun h27 => ?_) (fun h27 => ?_)
   ·have h27r := h27; try simp only [zz1, zz2, zz3, zz4, zz5, zz6, zz7, zz8, zz9, zza, zzb] at h27
    refine wp_skip ?_
    refine hK10 _ _ ?_; clear hK10
    refine cond HE rfl (fun h28 => ?_) (fun h28 => ?_)
    ·have h28r := h28; try simp only [zz1, zz2, zz3, zz4, zz5, zz6, zz7, zz8, zz9, zza, zzb] at h28
     refine wp_seq_k (fun K hK => ?_); refine wp_region_lit ?_
     refine o_fld HE rfl rfl T.f41_0 ?_; clear HE; intro a HE
     refine o_ld HE rfl HS rfl T.s3 (.here .here) rfl ?_; clear HE; intro a HE
     refine o_eqI HE rfl rfl rfl ?_; clear HE; intro a HE
     refine o_move HE rfl rfl ?_; clear HE; intro a HE
     refine cutL 4 (fun a' w' => w = w' ∧ Env a' 35 [] [(22, .bool ((decide (x.k = 1)) || (decide (x.k = 2)))), (0, .int .i64 d), (1, .agg #[.int .i64 x.k, .int .i64 x.n, str x.s]), (3, .pointer (some ⟨B3, 0, none⟩)), (4, .bool false), (5, .agg #[.int .i64 x.k, .int .i64 x.n, str x.s]), (6, .bool (rightV x)), (7, .bool (!(rightV x))), (8, .int .i64 d), (9, .bool (decide (d = 1))), (10, .bool (decide (d = 0))), (11, .bool (decide (d = 1)))]) ?_ ?_
     ·refine (Bool.eq_false_or_eq_true (decide (x.k = 1))).elim (fun hb29 => ?_) (fun hb29 => ?_)
      ·skip
       have hk30 := hb29; try simp only [zz1, zz2, zz3, zz4, zz5, zz7, zz8, zz9, zza, zzb] at hk30
       refine g_off HE rfl rfl rfl hb29 ?_; clear HE; intro a HE
       refine g_off HE rfl rfl rfl hb29 ?_; clear HE; intro a HE
       refine g_off HE rfl rfl rfl hb29 ?_; clear HE; intro a HE
       refine o_pick_t HE rfl rfl hb29 rfl ?_; clear HE; intro a HE
       exact ⟨rfl, HE.cut ⟨by rw [hb29]; rfl, rfl, rfl, rfl, rfl, rfl, rfl, rfl, rfl, rfl, rfl, rfl, trivial⟩⟩
      ·skip
       have hk31 := hb29; try simp only [zz1, zz2, zz3, zz4, zz5, zz7, zz8, zz9, zza, zzb] at hk31
       refine op_on HE rfl rfl hb29 ?_
       refine o_fld HE rfl rfl T.f41_0 ?_; clear HE; intro a HE
       refine op_on HE rfl rfl hb29 ?_
       refine o_ld HE rfl HS rfl T.s3 (.here .here) rfl ?_; clear HE; intro a HE
       refine op_on HE rfl rfl hb29 ?_
       refine o_eqI HE rfl rfl rfl ?_; clear HE; intro a HE
       refine o_pick_f HE rfl rfl hb29 rfl ?_; clear HE; intro a HE
       exact ⟨rfl, HE.cut ⟨by rw [hb29]; rfl, rfl, rfl, rfl, rfl, rfl, rfl, rfl, rfl, rfl, rfl, rfl, trivial⟩⟩
     clear HE; rintro a _ ⟨rfl, HE⟩
     refine o_assign HE rfl rfl ?_; clear HE; intro a HE
     refine hK _ _ ?_; clear hK K
     refine wp_ret ?_
     show Q .ret _ _
     refine ret hQ HE rfl (HE.res rfl .nil) ⟨_, _, HS.stop (List.nil_sublist _), rfl, ?_⟩
     have e : takesB d x = ((decide (x.k = 1)) || (decide (x.k = 2))) := by
      unfold takesB
      first | (simp_all; done) | (simp_all; omega) | grind
     show _ = _
     rw [e]
     rfl
    ·have h28r := h28; try simp only [zz1, zz2, zz3, zz4, zz5, zz6, zz7, zz8, zz9, zza, zzb] at h28
     refine wp_seq_k (fun K hK => ?_); refine wp_region_lit ?_
     refine o_eqI HE rfl rfl rfl ?_; clear HE; intro a HE
     refine o_assign HE rfl rfl ?_; clear HE; intro a HE
     refine hK _ _ ?_; clear hK K
     refine cond HE rfl (fun h34 => ?_) (fun h34 => ?_)
     ·have h34r := h34; try simp only [zz1, zz2, zz3, zz4, zz5, zz6, zz7, zz8, zz9, zza, zzb] at h34
      refine wp_seq_k (fun K hK => ?_); refine wp_region_lit ?_
      refine o_fld HE rfl rfl T.f41_0 ?_; clear HE; intro a HE
      refine o_ld HE rfl HS rfl T.s3 (.here .here) rfl ?_; clear HE; intro a HE
      refine o_eqI HE rfl rfl rfl ?_; clear HE; intro a HE
      refine o_assign HE rfl rfl ?_; clear HE; intro a HE
      refine hK _ _ ?_; clear hK K
      refine wp_ret ?_
      show Q .ret _ _
      refine ret hQ HE rfl (HE.res rfl .nil) ⟨_, _, HS.stop (List.nil_sublist _), rfl, ?_⟩
      have e : takesB d x = (decide (x.k = 1)) := by
       unfold takesB
       first | (simp_all; done) | (simp_all; omega) | grind
      show _ = _
      rw [e]
      rfl
     ·have h34r := h34; try simp only [zz1, zz2, zz3, zz4, zz5, zz6, zz7, zz8, zz9, zza, zzb] at h34
      refine wp_skip ?_
      refine hK7 _ _ ?_; clear hK7
      refine wp_seq_k (fun K hK => ?_); refine wp_region_lit ?_
      refine o_move HE rfl rfl ?_; clear HE; intro a HE
      refine o_eqI HE rfl rfl rfl ?_; clear HE; intro a HE
      refine o_move HE rfl rfl ?_; clear HE; intro a HE
      refine cutL 4 (fun a' w' => w = w' ∧ Env a' 35 [] [(34, .bool ((decide (d = 6)) && (decide (x.k = 3)))), (0, .int .i64 d), (1, .agg #[.int .i64 x.k, .int .i64 x.n, str x.s]), (3, .pointer (some ⟨B3, 0, none⟩)), (4, .bool false), (5, .agg #[.int .i64 x.k, .int .i64 x.n, str x.s]), (6, .bool (rightV x)), (7, .bool (!(rightV x))), (8, .int .i64 d), (9, .bool (decide (d = 1))), (10, .bool (decide (d = 0))), (11, .bool (decide (d = 1))), (23, .bool (decide (d = 5))), (24, .bool (decide (d = 5)))]) ?_ ?_
      ·refine (Bool.eq_false_or_eq_true (decide (d = 6))).elim (fun hb36 => ?_) (fun hb36 => ?_)
       ·skip
        have hk37 := hb36; try simp only [zz1, zz2, zz3, zz4, zz5, zz7, zz8, zz9, zza, zzb] at hk37
        refine op_on HE rfl rfl hb36 ?_
        refine o_fld HE rfl rfl T.f41_0 ?_; clear HE; intro a HE
        refine op_on HE rfl rfl hb36 ?_
        refine o_ld HE rfl HS rfl T.s3 (.here .here) rfl ?_; clear HE; intro a HE
        refine op_on HE rfl rfl hb36 ?_
        refine o_eqI HE rfl rfl rfl ?_; clear HE; intro a HE
        refine o_pick_t HE rfl rfl hb36 rfl ?_; clear HE; intro a HE
        exact ⟨rfl, HE.cut ⟨by rw [hb36]; rfl, rfl, rfl, rfl, rfl, rfl, rfl, rfl, rfl, rfl, rfl, rfl, rfl, rfl, trivial⟩⟩
       ·skip
        have hk38 := hb36; try simp only [zz1, zz2, zz3, zz4, zz5, zz7, zz8, zz9, zza, zzb] at hk38
        refine g_off HE rfl rfl rfl hb36 ?_; clear HE; intro a HE
        refine g_off HE rfl rfl rfl hb36 ?_; clear HE; intro a HE
        refine g_off HE rfl rfl rfl hb36 ?_; clear HE; intro a HE
        refine o_pick_f HE rfl rfl hb36 rfl ?_; clear HE; intro a HE
        exact ⟨rfl, HE.cut ⟨by rw [hb36]; rfl, rfl, rfl, rfl, rfl, rfl, rfl, rfl, rfl, rfl, rfl, rfl, rfl, rfl, trivial⟩⟩
      clear HE; rintro a _ ⟨rfl, HE⟩
      refine o_assign HE rfl rfl ?_; clear HE; intro a HE
      refine hK _ _ ?_; clear hK K
      refine wp_ret ?_
      show Q .ret _ _
      refine ret hQ HE rfl (HE.res rfl .nil) ⟨_, _, HS.stop (List.nil_sublist _), rfl, ?_⟩
      have e : takesB d x = ((decide (d = 6)) && (decide (x.k = 3))) := by
       unfold takesB
       first | (simp_all; done) | (simp_all; omega) | grind
      show _ = _
      rw [e]
      rfl
   ·have h27r := h27; try simp only [zz1, zz2, zz3, zz4, zz5, zz6, zz7, zz8, zz9, zza, zzb] at h27
    refine wp_seq_k (fun K hK => ?_); refine wp_region_lit ?_
    refine o_eqI HE rfl rfl rfl ?_; clear HE; intro a HE
    refine o_assign HE rfl rfl ?_; clear HE; intro a HE
    refine hK _ _ ?_; clear hK K
    refine cond HE rfl (fun h41 => ?_) (fun h41 => ?_)
    ·have h41r := h41; try simp only [zz1, zz2, zz3, zz4, zz5, zz6, zz7, zz8, zz9, zza, zzb] at h41
     refine wp_skip ?_
     refine hK10 _ _ ?_; clear hK10
     refine cond HE rfl (fun h42 => ?_) (fun h42 => ?_)
     ·have h42r := h42; try simp only [zz1, zz2, zz3, zz4, zz5, zz6, zz7, zz8, zz9, zza, zzb] at h42
      refine wp_seq_k (fun K hK => ?_); refine wp_region_lit ?_
      refine o_fld HE rfl rfl T.f41_0 ?_; clear HE; intro a HE
      refine o_ld HE rfl HS rfl T.s3 (.here .here) rfl ?_; clear HE; intro a HE
      refine o_eqI HE rfl rfl rfl ?_; clear HE; intro a HE
      refine o_move HE rfl rfl ?_; clear HE; intro a HE
      refine cutL 4 (fun a' w' => w = w' ∧ Env a' 35 [] [(22, .bool ((decide (x.k = 1)) || (decide (x.k = 2)))), (0, .int .i64 d), (1, .agg #[.int .i64 x.k, .int .i64 x.n, str x.s]), (3, .pointer (some ⟨B3, 0, none⟩)), (4, .bool false), (5, .agg #[.int .i64 x.k, .int .i64 x.n, str x.s]), (6, .bool (rightV x)), (7, .bool (!(rightV x))), (8, .int .i64 d), (9, .bool (decide (d = 2))), (10, .bool (decide (d = 0))), (11, .bool (decide (d = 1))), (12, .bool (decide (d = 2)))]) ?_ ?_
      ·refine (Bool.eq_false_or_eq_true (decide (x.k = 1))).elim (fun hb43 => ?_) (fun hb43 => ?_)
       ·skip
        have hk44 := hb43; try simp only [zz1, zz2, zz3, zz4, zz5, zz7, zz8, zz9, zza, zzb] at hk44
        refine g_off HE rfl rfl rfl hb43 ?_; clear HE; intro a HE
        refine g_off HE rfl rfl rfl hb43 ?_; clear HE; intro a HE
        refine g_off HE rfl rfl rfl hb43 ?_; clear HE; intro a HE
        refine o_pick_t HE rfl rfl hb43 rfl ?_; clear HE; intro a HE
        exact ⟨rfl, HE.cut ⟨by rw [hb43]; rfl, rfl, rfl, rfl, rfl, rfl, rfl, rfl, rfl, rfl, rfl, rfl, rfl, trivial⟩⟩
       ·skip
        have hk45 := hb43; try simp only [zz1, zz2, zz3, zz4, zz5, zz7, zz8, zz9, zza, zzb] at hk45
        refine op_on HE rfl rfl hb43 ?_
        refine o_fld HE rfl rfl T.f41_0 ?_; clear HE; intro a HE
        refine op_on HE rfl rfl hb43 ?_
        refine o_ld HE rfl HS rfl T.s3 (.here .here) rfl ?_; clear HE; intro a HE
        refine op_on HE rfl rfl hb43 ?_
        refine o_eqI HE rfl rfl rfl ?_; clear HE; intro a HE
        refine o_pick_f HE rfl rfl hb43 rfl ?_; clear HE; intro a HE
        exact ⟨rfl, HE.cut ⟨by rw [hb43]; rfl, rfl, rfl, rfl, rfl, rfl, rfl, rfl, rfl, rfl, rfl, rfl, rfl, trivial⟩⟩
      clear HE; rintro a _ ⟨rfl, HE⟩
      refine o_assign HE rfl rfl ?_; clear HE; intro a HE
      refine hK _ _ ?_; clear hK K
      refine wp_ret ?_
      show Q .ret _ _
      refine ret hQ HE rfl (HE.res rfl .nil) ⟨_, _, HS.stop (List.nil_sublist _), rfl, ?_⟩
      have e : takesB d x = ((decide (x.k = 1)) || (decide (x.k = 2))) := by
       unfold takesB
       first | (simp_all; done) | (simp_all; omega) | grind
      show _ = _
      rw [e]
      rfl
     ·have h42r := h42; try simp only [zz1, zz2, zz3, zz4, zz5, zz6, zz7, zz8, zz9, zza, zzb] at h42
      refine wp_seq_k (fun K hK => ?_); refine wp_region_lit ?_
      refine o_eqI HE rfl rfl rfl ?_; clear HE; intro a HE
      refine o_assign HE rfl rfl ?_; clear HE; intro a HE
      refine hK _ _ ?_; clear hK K
      refine cond HE rfl (fun h48 => ?_) (fun h48 => ?_)
      ·have h48r := h48; try simp only [zz1, zz2, zz3, zz4, zz5, zz6, zz7, zz8, zz9, zza, zzb] at h48
       refine wp_seq_k (fun K hK => ?_); refine wp_region_lit ?_
       refine o_fld HE rfl rfl T.f41_0 ?_; clear HE; intro a HE
       refine o_ld HE rfl HS rfl T.s3 (.here .here) rfl ?_; clear HE; intro a HE
       refine o_eqI HE rfl rfl rfl ?_; clear HE; intro a HE
       refine o_assign HE rfl rfl ?_; clear HE; intro a HE
       refine hK _ _ ?_; clear hK K
       refine wp_ret ?_
       show Q .ret _ _
       refine ret hQ HE rfl (HE.res rfl .nil) ⟨_, _, HS.stop (List.nil_sublist _), rfl, ?_⟩
       have e : takesB d x = (decide (x.k = 1)) := by
        unfold takesB
        first | (simp_all; done) | (simp_all; omega) | grind
       show _ = _
       rw [e]
       rfl
      ·have h48r := h48; try simp only [zz1, zz2, zz3, zz4, zz5, zz6, zz7, zz8, zz9, zza, zzb] at h48
       refine wp_skip ?_
       refine hK7 _ _ ?_; clear hK7
       refine wp_seq_k (fun K hK => ?_); refine wp_region_lit ?_
       refine o_move HE rfl rfl ?_; clear HE; intro a HE
       refine o_eqI HE rfl rfl rfl ?_; clear HE; intro a HE
       refine o_move HE rfl rfl ?_; clear HE; intro a HE
       refine cutL 4 (fun a' w' => w = w' ∧ Env a' 35 [] [(34, .bool ((decide (d = 6)) && (decide (x.k = 3)))), (0, .int .i64 d), (1, .agg #[.int .i64 x.k, .int .i64 x.n, str x.s]), (3, .pointer (some ⟨B3, 0, none⟩)), (4, .bool false), (5, .agg #[.int .i64 x.k, .int .i64 x.n, str x.s]), (6, .bool (rightV x)), (7, .bool (!(rightV x))), (8, .int .i64 d), (9, .bool (decide (d = 2))), (10, .bool (decide (d = 0))), (11, .bool (decide (d = 1))), (12, .bool (decide (d = 2))), (23, .bool (decide (d = 5))), (24, .bool (decide (d = 5)))]) ?_ ?_
       ·refine (Bool.eq_false_or_eq_true (decide (d = 6))).elim (fun hb50 => ?_) (fun hb50 => ?_)
        ·skip
         have hk51 := hb50; try simp only [zz1, zz2, zz3, zz4, zz5, zz7, zz8, zz9, zza, zzb] at hk51
         refine op_on HE rfl rfl hb50 ?_
         refine o_fld HE rfl rfl T.f41_0 ?_; clear HE; intro a HE
         refine op_on HE rfl rfl hb50 ?_
         refine o_ld HE rfl HS rfl T.s3 (.here .here) rfl ?_; clear HE; intro a HE
         refine op_on HE rfl rfl hb50 ?_
         refine o_eqI HE rfl rfl rfl ?_; clear HE; intro a HE
         refine o_pick_t HE rfl rfl hb50 rfl ?_; clear HE; intro a HE
         exact ⟨rfl, HE.cut ⟨by rw [hb50]; rfl, rfl, rfl, rfl, rfl, rfl, rfl, rfl, rfl, rfl, rfl, rfl, rfl, rfl, rfl, trivial⟩⟩
        ·skip
         have hk52 := hb50; try simp only [zz1, zz2, zz3, zz4, zz5, zz7, zz8, zz9, zza, zzb] at hk52
         refine g_off HE rfl rfl rfl hb50 ?_; clear HE; intro a HE
         refine g_off HE rfl rfl rfl hb50 ?_; clear HE; intro a HE
         refine g_off HE rfl rfl rfl hb50 ?_; clear HE; intro a HE
         refine o_pick_f HE rfl rfl hb50 rfl ?_; clear HE; intro a HE
         exact ⟨rfl, HE.cut ⟨by rw [hb50]; rfl, rfl, rfl, rfl, rfl, rfl, rfl, rfl, rfl, rfl, rfl, rfl, rfl, rfl, rfl, trivial⟩⟩
       clear HE; rintro a _ ⟨rfl, HE⟩
       refine o_assign HE rfl rfl ?_; clear HE; intro a HE
       refine hK _ _ ?_; clear hK K
       refine wp_ret ?_
       show Q .ret _ _
       refine ret hQ HE rfl (HE.res rfl .nil) ⟨_, _, HS.stop (List.nil_sublist _), rfl, ?_⟩
       have e : takesB d x = ((decide (d = 6)) && (decide (x.k = 3))) := by
        unfold takesB
        first | (simp_all; done) | (simp_all; omega) | grind
       show _ = _
       rw [e]
       rfl
    ·have h41r := h41; try simp only [zz1, zz2, zz3, zz4, zz5, zz6, zz7, zz8, zz9, zza, zzb] at h41
     refine wp_seq_k (fun K hK => ?_); refine wp_region_lit ?_
     refine o_eqI HE rfl rfl rfl ?_; clear HE; intro a HE
     refine o_assign HE rfl rfl ?_; clear HE; intro a HE
     refine hK _ _ ?_; clear hK K
     refine cond HE rfl (fun h55 => ?_) (fun h55 => ?_)
     ·have h55r := h55; try simp only [zz1, zz2, zz3, zz4, zz5, zz6, zz7, zz8, zz9, zza, zzb] at h55
      refine wp_skip ?_
      refine hK10 _ _ ?_; clear hK10
      refine cond HE rfl (fun h56 => ?_) (fun h56 => ?_)
      ·have h56r := h56; try simp only [zz1, zz2, zz3, zz4, zz5, zz6, zz7, zz8, zz9, zza, zzb] at h56
       refine wp_seq_k (fun K hK => ?_); refine wp_region_lit ?_
       refine o_fld HE rfl rfl T.f41_0 ?_; clear HE; intro a HE
       refine o_ld HE rfl HS rfl T.s3 (.here .here) rfl ?_; clear HE; intro a HE
       refine o_eqI HE rfl rfl rfl ?_; clear HE; intro a HE
       refine o_move HE rfl rfl ?_; clear HE; intro a HE
       refine cutL 4 (fun a' w' => w = w' ∧ Env a' 35 [] [(22, .bool ((decide (x.k = 1)) || (decide (x.k = 2)))), (0, .int .i64 d), (1, .agg #[.int .i64 x.k, .int .i64 x.n, str x.s]), (3, .pointer (some ⟨B3, 0, none⟩)), (4, .bool false), (5, .agg #[.int .i64 x.k, .int .i64 x.n, str x.s]), (6, .bool (rightV x)), (7, .bool (!(rightV x))), (8, .int .i64 d), (9, .bool (decide (d = 3))), (10, .bool (decide (d = 0))), (11, .bool (decide (d = 1))), (12, .bool (decide (d = 2))), (13, .bool (decide (d = 3)))]) ?_ ?_
       ·refine (Bool.eq_false_or_eq_true (decide (x.k = 1))).elim (fun hb57 => ?_) (fun hb57 => ?_)
        ·skip
         have hk58 := hb57; try simp only [zz1, zz2, zz3, zz4, zz5, zz7, zz8, zz9, zza, zzb] at hk58
         refine g_off HE rfl rfl rfl hb57 ?_; clear HE; intro a HE
         refine g_off HE rfl rfl rfl hb57 ?_; clear HE; intro a HE
         refine g_off HE rfl rfl rfl hb57 ?_; clear HE; intro a HE
         refine o_pick_t HE rfl rfl hb57 rfl ?_; clear HE; intro a HE
         exact ⟨rfl, HE.cut ⟨by rw [hb57]; rfl, rfl, rfl, rfl, rfl, rfl, rfl, rfl, rfl, rfl, rfl, rfl, rfl, rfl, trivial⟩⟩
        ·skip
         have hk59 := hb57; try simp only [zz1, zz2, zz3, zz4, zz5, zz7, zz8, zz9, zza, zzb] at hk59
         refine op_on HE rfl rfl hb57 ?_
         refine o_fld HE rfl rfl T.f41_0 ?_; clear HE; intro a HE
         refine op_on HE rfl rfl hb57 ?_
         refine o_ld HE rfl HS rfl T.s3 (.here .here) rfl ?_; clear HE; intro a HE
         refine op_on HE rfl rfl hb57 ?_
         refine o_eqI HE rfl rfl rfl ?_; clear HE; intro a HE
         refine o_pick_f HE rfl rfl hb57 rfl ?_; clear HE; intro a HE
         exact ⟨rfl, HE.cut ⟨by rw [hb57]; rfl, rfl, rfl, rfl, rfl, rfl, rfl, rfl, rfl, rfl, rfl, rfl, rfl, rfl, trivial⟩⟩
       clear HE; rintro a _ ⟨rfl, HE⟩
       refine o_assign HE rfl rfl ?_; clear HE; intro a HE
       refine hK _ _ ?_; clear hK K
       refine wp_ret ?_
       show Q .ret _ _
       refine ret hQ HE rfl (HE.res rfl .nil) ⟨_, _, HS.stop (List.nil_sublist _), rfl, ?_⟩
       have e : takesB d x = ((decide (x.k = 1)) || (decide (x.k = 2))) := by
        unfold takesB
        first | (simp_all; done) | (simp_all; omega) | grind
       show _ = _
       rw [e]
       rfl
      ·have h56r := h56; try simp only [zz1, zz2, zz3, zz4, zz5, zz6, zz7, zz8, zz9, zza, zzb] at h56
       refine wp_seq_k (fun K hK => ?_); refine wp_region_lit ?_
       refine o_eqI HE rfl rfl rfl ?_; clear HE; intro a HE
       refine o_assign HE rfl rfl ?_; clear HE; intro a HE
       refine hK _ _ ?_; clear hK K
       refine cond HE rfl (fun h62 => ?_) (fun h62 => ?_)
       ·have h62r := h62; try simp only [zz1, zz2, zz3, zz4, zz5, zz6, zz7, zz8, zz9, zza, zzb] at h62
        refine wp_seq_k (fun K hK => ?_); refine wp_region_lit ?_
        refine o_fld HE rfl rfl T.f41_0 ?_; clear HE; intro a HE
        refine o_ld HE rfl HS rfl T.s3 (.here .here) rfl ?_; clear HE; intro a HE
        refine o_eqI HE rfl rfl rfl ?_; clear HE; intro a HE
        refine o_assign HE rfl rfl ?_; clear HE; intro a HE
        refine hK _ _ ?_; clear hK K
        refine wp_ret ?_
        show Q .ret _ _
        refine ret hQ HE rfl (HE.res rfl .nil) ⟨_, _, HS.stop (List.nil_sublist _), rfl, ?_⟩
        have e : takesB d x = (decide (x.k = 1)) := by
         unfold takesB
         first | (simp_all; done) | (simp_all; omega) | grind
        show _ = _
        rw [e]
        rfl
       ·have h62r := h62; try simp only [zz1, zz2, zz3, zz4, zz5, zz6, zz7, zz8, zz9, zza, zzb] at h62
        refine wp_skip ?_
        refine hK7 _ _ ?_; clear hK7
        refine wp_seq_k (fun K hK => ?_); refine wp_region_lit ?_
        refine o_move HE rfl rfl ?_; clear HE; intro a HE
        refine o_eqI HE rfl rfl rfl ?_; clear HE; intro a HE
        refine o_move HE rfl rfl ?_; clear HE; intro a HE
        refine cutL 4 (fun a' w' => w = w' ∧ Env a' 35 [] [(34, .bool ((decide (d = 6)) && (decide (x.k = 3)))), (0, .int .i64 d), (1, .agg #[.int .i64 x.k, .int .i64 x.n, str x.s]), (3, .pointer (some ⟨B3, 0, none⟩)), (4, .bool false), (5, .agg #[.int .i64 x.k, .int .i64 x.n, str x.s]), (6, .bool (rightV x)), (7, .bool (!(rightV x))), (8, .int .i64 d), (9, .bool (decide (d = 3))), (10, .bool (decide (d = 0))), (11, .bool (decide (d = 1))), (12, .bool (decide (d = 2))), (13, .bool (decide (d = 3))), (23, .bool (decide (d = 5))), (24, .bool (decide (d = 5)))]) ?_ ?_
        ·refine (Bool.eq_false_or_eq_true (decide (d = 6))).elim (fun hb64 => ?_) (fun hb64 => ?_)
         ·skip
          have hk65 := hb64; try simp only [zz1, zz2, zz3, zz4, zz5, zz7, zz8, zz9, zza, zzb] at hk65
          refine op_on HE rfl rfl hb64 ?_
          refine o_fld HE rfl rfl T.f41_0 ?_; clear HE; intro a HE
          refine op_on HE rfl rfl hb64 ?_
          refine o_ld HE rfl HS rfl T.s3 (.here .here) rfl ?_; clear HE; intro a HE
          refine op_on HE rfl rfl hb64 ?_
          refine o_eqI HE rfl rfl rfl ?_; clear HE; intro a HE
          refine o_pick_t HE rfl rfl hb64 rfl ?_; clear HE; intro a HE
          exact ⟨rfl, HE.cut ⟨by rw [hb64]; rfl, rfl, rfl, rfl, rfl, rfl, rfl, rfl, rfl, rfl, rfl, rfl, rfl, rfl, rfl, rfl, trivial⟩⟩
         ·skip
          have hk66 := hb64; try simp only [zz1, zz2, zz3, zz4, zz5, zz7, zz8, zz9, zza, zzb] at hk66
          refine g_off HE rfl rfl rfl hb64 ?_; clear HE; intro a HE
          refine g_off HE rfl rfl rfl hb64 ?_; clear HE; intro a HE
          refine g_off HE rfl rfl rfl hb64 ?_; clear HE; intro a HE
          refine o_pick_f HE rfl rfl hb64 rfl ?_; clear HE; intro a HE
          exact ⟨rfl, HE.cut ⟨by rw [hb64]; rfl, rfl, rfl, rfl, rfl, rfl, rfl, rfl, rfl, rfl, rfl, rfl, rfl, rfl, rfl, rfl, trivial⟩⟩
        clear HE; rintro a _ ⟨rfl, HE⟩
        refine o_assign HE rfl rfl ?_; clear HE; intro a HE
        refine hK _ _ ?_; clear hK K
        refine wp_ret ?_
        show Q .ret _ _
        refine ret hQ HE rfl (HE.res rfl .nil) ⟨_, _, HS.stop (List.nil_sublist _), rfl, ?_⟩
        have e : takesB d x = ((decide (d = 6)) && (decide (x.k = 3))) := by
         unfold takesB
         first | (simp_all; done) | (simp_all; omega) | grind
        show _ = _
        rw [e]
        rfl
     ·have h55r := h55; try simp only [zz1, zz2, zz3, zz4, zz5, zz6, zz7, zz8, zz9, zza, zzb] at h55
      refine wp_region_lit ?_
      refine o_eqI HE rfl rfl rfl ?_; clear HE; intro a HE
      refine o_assign HE rfl rfl ?_; clear HE; intro a HE
      refine hK10 _ _ ?_; clear hK10
      refine cond HE rfl (fun h68 => ?_) (fun h68 => ?_)
      ·have h68r := h68; try simp only [zz1, zz2, zz3, zz4, zz5, zz6, zz7, zz8, zz9, zza, zzb] at h68
       refine wp_seq_k (fun K hK => ?_); refine wp_region_lit ?_
       refine o_fld HE rfl rfl T.f41_0 ?_; clear HE; intro a HE
       refine o_ld HE rfl HS rfl T.s3 (.here .here) rfl ?_; clear HE; intro a HE
       refine o_eqI HE rfl rfl rfl ?_; clear HE; intro a HE
       refine o_move HE rfl rfl ?_; clear HE; intro a HE
       refine cutL 4 (fun a' w' => w = w' ∧ Env a' 35 [] [(22, .bool ((decide (x.k = 1)) || (decide (x.k = 2)))), (0, .int .i64 d), (1, .agg #[.int .i64 x.k, .int .i64 x.n, str x.s]), (3, .pointer (some ⟨B3, 0, none⟩)), (4, .bool false), (5, .agg #[.int .i64 x.k, .int .i64 x.n, str x.s]), (6, .bool (rightV x)), (7, .bool (!(rightV x))), (8, .int .i64 d), (9, .bool (decide (d = 4))), (10, .bool (decide (d = 0))), (11, .bool (decide (d = 1))), (12, .bool (decide (d = 2))), (13, .bool (decide (d = 3))), (14, .bool (decide (d = 4)))]) ?_ ?_
       ·refine (Bool.eq_false_or_eq_true (decide (x.k = 1))).elim (fun hb69 => ?_) (fun hb69 => ?_)
        ·skip
         have hk70 := hb69; try simp only [zz1, zz2, zz3, zz4, zz5, zz7, zz8, zz9, zza, zzb] at hk70
         refine g_off HE rfl rfl rfl hb69 ?_; clear HE; intro a HE
         refine g_off HE rfl rfl rfl hb69 ?_; clear HE; intro a HE
         refine g_off HE rfl rfl rfl hb69 ?_; clear HE; intro a HE
         refine o_pick_t HE rfl rfl hb69 rfl ?_; clear HE; intro a HE
         exact ⟨rfl, HE.cut ⟨by rw [hb69]; rfl, rfl, rfl, rfl, rfl, rfl, rfl, rfl, rfl, rfl, rfl, rfl, rfl, rfl, rfl, trivial⟩⟩
        ·skip
         have hk71 := hb69; try simp only [zz1, zz2, zz3, zz4, zz5, zz7, zz8, zz9, zza, zzb] at hk71
         refine op_on HE rfl rfl hb69 ?_
         refine o_fld HE rfl rfl T.f41_0 ?_; clear HE; intro a HE
         refine op_on HE rfl rfl hb69 ?_
         refine o_ld HE rfl HS rfl T.s3 (.here .here) rfl ?_; clear HE; intro a HE
         refine op_on HE rfl rfl hb69 ?_
         refine o_eqI HE rfl rfl rfl ?_; clear HE; intro a HE
         refine o_pick_f HE rfl rfl hb69 rfl ?_; clear HE; intro a HE
         exact ⟨rfl, HE.cut ⟨by rw [hb69]; rfl, rfl, rfl, rfl, rfl, rfl, rfl, rfl, rfl, rfl, rfl, rfl, rfl, rfl, rfl, trivial⟩⟩
       clear HE; rintro a _ ⟨rfl, HE⟩
       refine o_assign HE rfl rfl ?_; clear HE; intro a HE
       refine hK _ _ ?_; clear hK K
       refine wp_ret ?_
       show Q .ret _ _
       refine ret hQ HE rfl (HE.res rfl .nil) ⟨_, _, HS.stop (List.nil_sublist _), rfl, ?_⟩
       have e : takesB d x = ((decide (x.k = 1)) || (decide (x.k = 2))) := by
        unfold takesB
        first | (simp_all; done) | (simp_all; omega) | grind
       show _ = _
       rw [e]
       rfl
      ·have h68r := h68; try simp only [zz1, zz2, zz3, zz4, zz5, zz6, zz7, zz8, zz9, zza, zzb] at h68
       refine wp_seq_k (fun K hK => ?_); refine wp_region_lit ?_
       refine o_eqI HE rfl rfl rfl ?_; clear HE; intro a HE
       refine o_assign HE rfl rfl ?_; clear HE; intro a HE
       refine hK _ _ ?_; clear hK K
       refine cond HE rfl (fun h74 => ?_) (fun h74 => ?_)
       ·have h74r := h74; try simp only [zz1, zz2, zz3, zz4, zz5, zz6, zz7, zz8, zz9, zza, zzb] at h74
        refine wp_seq_k (fun K hK => ?_); refine wp_region_lit ?_
        refine o_fld HE rfl rfl T.f41_0 ?_; clear HE; intro a HE
        refine o_ld HE rfl HS rfl T.s3 (.here .here) rfl ?_; clear HE; intro a HE
        refine o_eqI HE rfl rfl rfl ?_; clear HE; intro a HE
        refine o_assign HE rfl rfl ?_; clear HE; intro a HE
        refine hK _ _ ?_; clear hK K
        refine wp_ret ?_
        show Q .ret _ _
        refine ret hQ HE rfl (HE.res rfl .nil) ⟨_, _, HS.stop (List.nil_sublist _), rfl, ?_⟩
        have e : takesB d x = (decide (x.k = 1)) := by
         unfold takesB
         first | (simp_all; done) | (simp_all; omega) | grind
        show _ = _
        rw [e]
        rfl
       ·have h74r := h74; try simp only [zz1, zz2, zz3, zz4, zz5, zz6, zz7, zz8, zz9, zza, zzb] at h74
        refine wp_skip ?_
        refine hK7 _ _ ?_; clear hK7
        refine wp_seq_k (fun K hK => ?_); refine wp_region_lit ?_
        refine o_move HE rfl rfl ?_; clear HE; intro a HE
        refine o_eqI HE rfl rfl rfl ?_; clear HE; intro a HE
        refine o_move HE rfl rfl ?_; clear HE; intro a HE
        refine cutL 4 (fun a' w' => w = w' ∧ Env a' 35 [] [(34, .bool ((decide (d = 6)) && (decide (x.k = 3)))), (0, .int .i64 d), (1, .agg #[.int .i64 x.k, .int .i64 x.n, str x.s]), (3, .pointer (some ⟨B3, 0, none⟩)), (4, .bool false), (5, .agg #[.int .i64 x.k, .int .i64 x.n, str x.s]), (6, .bool (rightV x)), (7, .bool (!(rightV x))), (8, .int .i64 d), (9, .bool (decide (d = 4))), (10, .bool (decide (d = 0))), (11, .bool (decide (d = 1))), (12, .bool (decide (d = 2))), (13, .bool (decide (d = 3))), (14, .bool (decide (d = 4))), (23, .bool (decide (d = 5))), (24, .bool (decide (d = 5)))]) ?_ ?_
        ·refine (Bool.eq_false_or_eq_true (decide (d = 6))).elim (fun hb76 => ?_) (fun hb76 => ?_)
         ·skip
          have hk77 := hb76; try simp only [zz1, zz2, zz3, zz4, zz5, zz7, zz8, zz9, zza, zzb] at hk77
          refine op_on HE rfl rfl hb76 ?_
          refine o_fld HE rfl rfl T.f41_0 ?_; clear HE; intro a HE
          refine op_on HE rfl rfl hb76 ?_
          refine o_ld HE rfl HS rfl T.s3 (.here .here) rfl ?_; clear HE; intro a HE
          refine op_on HE rfl rfl hb76 ?_
          refine o_eqI HE rfl rfl rfl ?_; clear HE; intro a HE
          refine o_pick_t HE rfl rfl hb76 rfl ?_; clear HE; intro a HE
          exact ⟨rfl, HE.cut ⟨by rw [hb76]; rfl, rfl, rfl, rfl, rfl, rfl, rfl, rfl, rfl, rfl, rfl, rfl, rfl, rfl, rfl, rfl, rfl, trivial⟩⟩
         ·skip
          have hk78 := hb76; try simp only [zz1, zz2, zz3, zz4, zz5, zz7, zz8, zz9, zza, zzb] at hk78
          refine g_off HE rfl rfl rfl hb76 ?_; clear HE; intro a HE
          refine g_off HE rfl rfl rfl hb76 ?_; clear HE; intro a HE
          refine g_off HE rfl rfl rfl hb76 ?_; clear HE; intro a HE
          refine o_pick_f HE rfl rfl hb76 rfl ?_; clear HE; intro a HE
          exact ⟨rfl, HE.cut ⟨by rw [hb76]; rfl, rfl, rfl, rfl, rfl, rfl, rfl, rfl, rfl, rfl, rfl, rfl, rfl, rfl, rfl, rfl, rfl, trivial⟩⟩
        clear HE; rintro a _ ⟨rfl, HE⟩
        refine o_assign HE rfl rfl ?_; clear HE; intro a HE
        refine hK _ _ ?_; clear hK K
        refine wp_ret ?_
        show Q .ret _ _
        refine ret hQ HE rfl (HE.res rfl .nil) ⟨_, _, HS.stop (List.nil_sublist _), rfl, ?_⟩
        have e : takesB d x = ((decide (d = 6)) && (decide (x.k = 3))) := by
         unfold takesB
         first | (simp_all; done) | (simp_all; omega) | grind
        show _ = _
        rw [e]
        rfl

/-! `incognito/sign.Args` -/
set_option maxRecDepth 100000 in
set_option maxHeartbeats 4000000 in
theorem c_args (m o : Int) (w0 : World) (G : Heap) (hG : Sub G w0) :
  Calls Tryd.prog 64 #[.int .i64 m, .int .i64 o] w0 (Ret w0 G (fun v G' => ∃ A c, v = .tuple #[.slice A (argsD m o).1.length c, .bool (argsD m o).2] ∧ (argsD m o).1.length ≤ c ∧ Rd (Knd.int .i64) G' A (argsD m o).1)) := by
 refine enter Tryd.func64 rfl Tryd.ntmps64 rfl ?_
 intro Q hQ a HE
 have HS := St.start0 hG
 refine wp_seq_k (fun K hK => ?_); refine wp_region_lit ?_
 refine o_assign HE rfl rfl ?_; clear HE; intro a HE
 refine o_assign HE rfl rfl ?_; clear HE; intro a HE
 refine hK _ _ ?_; clear hK K
 refine wp_seq_k (fun K hK => ?_); refine wp_region_lit ?_
 refine o_move HE rfl rfl ?_; clear HE; intro a HE
 refine o_move HE rfl rfl ?_; clear HE; intro a HE
 refine o_callP HE rfl HS rfl rfl T.g99 (c_find m o _ _ HS.sub) ?_
 clear HE HS; rintro _ w a HS rfl HE
 refine o_move HE rfl rfl ?_; clear HE; intro a HE
 refine o_extract HE rfl rfl rfl ?_; clear HE; intro a HE
 refine o_extract HE rfl rfl rfl ?_; clear HE; intro a HE
 refine o_allocL [(0, _), (1, _), (2, _), (3, _), (4, _)] HE rfl HS T.z148 ⟨rfl, rfl, rfl, rfl, rfl, trivial⟩ ?_; clear HE HS; intro B6 w a HS HE
 refine o_stA HE HS rfl rfl rfl T.a148 (.here .here) rfl ?_; clear HS; intro w HS
 refine o_assign HE rfl rfl ?_; clear HE; intro a HE
 refine hK _ _ ?_; clear hK K
 refine wp_seq_k (fun K4 hK3 => ?_)
 refine wp_seq_k (fun K hK => ?_); refine wp_region_lit ?_
 refine o_move HE rfl rfl ?_; clear HE; intro a HE
 refine o_not HE rfl rfl ?_; clear HE; intro a HE
 refine hK _ _ ?_; clear hK K
 refine cond HE rfl (fun h6 => ?_) (fun h6 => ?_)
 ·have h6r := h6; try simp only [zz1, zz2, zz3, zz4, zz5, zz6, zz7, zz8, zz9, zza, zzb] at h6
  refine wp_seq_k (fun K hK => ?_); refine wp_region_lit ?_
  refine o_assign HE rfl rfl ?_; clear HE; intro a HE
  refine o_assign HE rfl rfl ?_; clear HE; intro a HE
  refine hK _ _ ?_; clear hK K
  refine wp_ret ?_
  show Q .ret _ _
  refine ret hQ HE rfl (HE.res rfl (HE.res rfl .nil)) ⟨_, _, HS.stop (List.nil_sublist _), rfl, ?_⟩
  have e : argsD m o = ([], false) := by
   unfold argsD
   rw [if_neg (by simpa using h6r)]
  rw [e]
  exact ⟨_, _, rfl, Nat.le_refl _, .nil⟩
 ·have h6r := h6; try simp only [zz1, zz2, zz3, zz4, zz5, zz6, zz7, zz8, zz9, zza, zzb] at h6
  refine wp_skip ?_
  refine hK3 _ _ ?_; clear hK3
  refine wp_seq_k (fun K hK => ?_); refine wp_region_lit ?_
  refine o_assign HE rfl rfl ?_; clear HE; intro a HE
  refine hK _ _ ?_; clear hK K
  refine wp_seq_k (fun K10 hK9 => ?_)
  refine wp_seq_k (fun K hK => ?_); refine wp_region_lit ?_
  refine o_fld HE rfl rfl T.f148_2 ?_; clear HE; intro a HE
  refine o_ld HE rfl HS rfl T.s9 (.here .here) rfl ?_; clear HE; intro a HE
  refine o_lenS HE rfl rfl Tryd.underlying9 ?_; clear HE; intro a HE
  refine o_move HE rfl rfl ?_; clear HE; intro a HE
  refine hK _ _ ?_; clear hK K
  refine wp_block ?_
  replace HS := HS.conv (L2 := [(0, _), (1, _), (2, _), (3, _), (4, _)]) (.here .here) ⟨rfl, rfl, rfl, rfl, rfl, trivial⟩
  replace HS := HS.nilChunk
  have oH13 : X.Own (Knd.int .i64) 3 G none 0 ([] : List Int) [] := X.Own.nil
  refine loop (fun (i : Nat) a' w' => ∃ (oA8_1 : Option Addr) (oc8_1 : Nat) (oC8_1 : Chunk), St w0 G [] G w' [oC8_1, [(B6, Cells 148 [(0, .int .i64 ((findS m o).1.model)), (1, .int .i64 ((findS m o).1.op)), (2, str ((findS m o).1.ins)), (3, .int .i64 ((findS m o).1.out)), (4, .bool ((findS m o).1.may))])]] ∧ Env a' 34 [] [(0, .int .i64 m), (1, .int .i64 o), (6, .pointer (some ⟨B6, 0, none⟩)), (8, .slice oA8_1 ((doms ((findS m o).1.ins.take i)).length) oc8_1), (20, .int .i64 (((findS m o).1.ins).length : Int)), (21, .int .i64 ((i : Nat) : Int))] ∧ X.Own (Knd.int .i64) 3 G oA8_1 oc8_1 (doms ((findS m o).1.ins.take i)) oC8_1 ∧ (i ≤ (findS m o).1.ins.length)) (fun (i : Nat) => (findS m o).1.ins.length - i) 0 ⟨_, _, _, HS, HE.cut ⟨rfl, rfl, rfl, rfl, rfl, rfl, trivial⟩, X.Own.nil (K := Knd.int .i64), Nat.zero_le _⟩ ?_
  clear HE HS; intro i a w ⟨oA8_1, oc8_1, oC8_1, HS, HE, oH8_1, hi⟩
  refine wp_seq_k (fun K hK => ?_); refine wp_region_lit ?_
  refine o_lss HE rfl rfl rfl ?_; clear HE; intro a HE
  refine hK _ _ ?_; clear hK K
  refine wp_seq_k (fun K17 hK16 => ?_)
  refine cond HE rfl (fun h18 => ?_) (fun h18 => ?_)
  ·have h18r := h18; try simp only [zz1, zz2, zz3, zz4, zz5, zz6, zz7, zz8, zz9, zza, zzb] at h18
   refine wp_skip ?_
   refine hK16 _ _ ?_; clear hK16
   refine wp_seq_k (fun K20 hK19 => ?_)
   refine wp_block ?_
   refine wp_seq_k (fun K hK => ?_); refine wp_region_lit ?_
   refine o_move HE rfl rfl ?_; clear HE; intro a HE
   refine o_assign HE rfl rfl ?_; clear HE; intro a HE
   refine hK _ _ ?_; clear hK K
   refine wp_region_lit ?_
   refine o_move HE rfl rfl ?_; clear HE; intro a HE
   refine o_fld HE rfl rfl T.f148_2 ?_; clear HE; intro a HE
   refine o_ld HE rfl HS rfl T.s9 (.there (.here .here)) rfl ?_; clear HE; intro a HE
   refine o_move HE rfl rfl ?_; clear HE; intro a HE
   have hfl := find_len m o
   refine o_index HE rfl rfl rfl Tryd.underlying9 (by omega) ?_; clear HE; intro a HE
   refine o_callP HE rfl HS rfl rfl T.g100 (c_domain (bt ((findS m o).1.ins) ((i : Nat) : Int)) _ _ HS.sub) ?_
   clear HE HS; rintro _ w a HS rfl HE
   refine o_buildSl (cs := #[.int .i64 (domS (bt ((findS m o).1.ins) ((i : Nat) : Int)))]) [(0, _)] HE rfl HS rfl T.l114 (by kernel_rfl) ⟨rfl, trivial⟩ ?_; clear HE HS; intro B30 w a HS HE
   refine o_appendL (K := (Knd.int .i64)) (ys := [domS (bt ((findS m o).1.ins) ((i : Nat) : Int))]) (n := 1) HE rfl HS (.there .here) oH8_1 rfl rfl T.p114 (.here .here) rfl ⟨rfl, rfl⟩ rfl rfl (by (have := find_len m o; simp [doms]; omega)) (by (have := find_len m o; simp [doms]; omega)) ?_
   clear HE HS; intro oA22 oc22 oC22 w a HS oH22 HE
   refine o_assign HE rfl rfl ?_; clear HE; intro a HE
   refine hK19 _ _ ?_; clear hK19
   refine wp_region_lit ?_
   refine o_add HE rfl rfl rfl (by omega) ?_; clear HE; intro a HE
   refine o_move HE rfl rfl ?_; clear HE; intro a HE
   replace HS := HS.drop (M' := [_, _]) (sub_keep (sub_drop (sub_keep sub_nil)))
   have hxs : ((doms ((findS m o).1.ins.take i)) ++ [domS (bt ((findS m o).1.ins) ((i : Nat) : Int))]) = doms ((findS m o).1.ins.take (i + 1)) := doms_snoc (by omega)
   rw [hxs] at HE oH22; clear hxs
   exact ⟨i + 1, ⟨_, _, _, HS, HE.cut ⟨rfl, rfl, rfl, rfl, rfl, rfl, trivial⟩, oH22, by omega⟩, by omega⟩
  ·have h18r := h18; try simp only [zz1, zz2, zz3, zz4, zz5, zz6, zz7, zz8, zz9, zza, zzb] at h18
   refine wp_exit ?_
   refine hK9 _ _ ?_; clear hK9
   refine wp_seq_k (fun K hK => ?_); refine wp_region_lit ?_
   refine o_move HE rfl rfl ?_; clear HE; intro a HE
   refine o_assign HE rfl rfl ?_; clear HE; intro a HE
   refine o_assign HE rfl rfl ?_; clear HE; intro a HE
   refine hK _ _ ?_; clear hK K
   refine wp_ret ?_
   have hcphR25 := oH8_1.cap
   obtain ⟨G24, hle26, HS', hR25⟩ := X.Own.still HS .here oH8_1; clear HS; have HS := HS'; clear HS'
   show Q .ret _ _
   refine ret hQ HE rfl (HE.res rfl (HE.res rfl .nil)) ⟨_, _, HS.stop (List.nil_sublist _), rfl, ?_⟩
   have hi9 : i = (findS m o).1.ins.length := by omega
   have e : argsD m o = (doms ((findS m o).1.ins.take i), true) := by
    unfold argsD
    rw [if_pos (by simpa using h6r), hi9, List.take_length]
   rw [e]
   exact ⟨_, _, rfl, hcphR25, hR25⟩
end Go.Proofs.YtiinipcmghhacaaDoor.T10
