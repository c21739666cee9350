/- event.Right, event.Print walked. -/
import Derived.Test.YtiinipcmghhacaaGreatDoorZE2
import Derived.Test.YtiinipcmghhacaaGreatDoorX30
import Derived.Test.YtiinipcmghhacaaGreatDoorZL27
set_option linter.unusedVariables false
set_option linter.unusedSimpArgs false
namespace Go.Proofs.YtiinipcmghhacaaGreatDoor.T10
open Go Go.Proofs.YtiinipcmghhacaaGreatDoor.X
theorem T.g19 : goFn Tryz.prog 19 = true := by kernel_rfl
theorem T.g21 : goFn Tryz.prog 21 = true := by kernel_rfl
theorem T.g27 : goFn Tryz.prog 27 = true := by kernel_rfl
theorem T.g28 : goFn Tryz.prog 28 = true := by kernel_rfl
theorem T.g29 : goFn Tryz.prog 29 = true := by kernel_rfl
theorem T.g30 : goFn Tryz.prog 30 = true := by kernel_rfl
theorem T.g7 : goFn Tryz.prog 7 = true := by kernel_rfl
theorem T.p53 : apOf Tryz.prog 53 = some (9, 1, 16) := by kernel_rfl
theorem T.r55 : arrOf Tryz.prog 55 = some (2, 1) := by kernel_rfl

def fitsL : List Int → List Val → Bool
  | [], [] => true
  | d :: ds, v :: vs => takesB d v && fitsL ds vs
  | _, _ => false
theorem fitsL_len : ∀ {ds : List Int} {l : List Val}, fitsL ds l = true → ds.length = l.length
  | [], [], _ => rfl
  | d :: ds, v :: vs, h => by
    rw [fitsL, Bool.and_eq_true] at h
    simp [fitsL_len h.2]
  | [], _ :: _, h => by cases h
  | _ :: _, [], h => by cases h
theorem fitsL_ne {ds : List Int} {l : List Val} (h : ¬ ds.length = l.length) : fitsL ds l = false := by
  cases e : fitsL ds l with
  | false => rfl
  | true => exact absurd (fitsL_len e) h
theorem fitsL_end {ds : List Int} {l : List Val} {i : Nat} (h : ds.length = l.length) (hi : ds.length ≤ i) : fitsL (ds.drop i) (l.drop i) = true := by
  rw [List.drop_eq_nil_of_le hi, List.drop_eq_nil_of_le (by omega)]; rfl
theorem fitsL_step {ds : List Int} {l : List Val} {i : Nat} (h : ds.length = l.length) (hi : i < ds.length) : fitsL (ds.drop i) (l.drop i) = (takesB (ds.getD ((i : Nat) : Int).toNat 0) (l.getD ((i : Nat) : Int).toNat ⟨0, 0, []⟩) && fitsL (ds.drop (i + 1)) (l.drop (i + 1))) := by
  rw [List.drop_eq_getElem_cons hi, List.drop_eq_getElem_cons (by omega : i < l.length), fitsL]
  simp [hi, (by omega : i < l.length)]
def notedB (e : Evt) : Bool := (decide ((e.note.length : Int) ≤ 100) && !decide (0 ≤ Lib.indexByte e.note 10)) && (e.noted || e.note == [])
def rightE (e : Evt) : Bool :=
  if ((decide (e.time < 0) || !takesB 0 e.client) || !notedB e) = true then false
  else if e.type = 1 then ((((argsD e.model e.op).2 && takesB 1 e.key) && fitsL (argsD e.model e.op).1 e.args) && decide ((e.out.length : Int) = 0))
  else if (((!decide (e.model = 0) || !decide (e.op = 0)) || !(decide (e.key.k = 0) && (decide (e.key.n = 0) && (e.key.s == [] && true)))) || decide (0 < (e.args.length : Int))) = true then false
  else e.out.all rightV && (decide (e.type = 2) || ((decide (e.type = 3) || decide (e.type = 4)) && decide ((e.out.length : Int) = 0)))
theorem all_drop {α : Type} {p : α → Bool} {l : List α} {i : Nat} {d : α} (hi : i < l.length) : (l.drop i).all p = (p (l.getD ((i : Nat) : Int).toNat d) && (l.drop (i + 1)).all p) := by
  rw [List.drop_eq_getElem_cons hi, List.all_cons]
  simp [hi]
theorem all_end {α : Type} {p : α → Bool} {l : List α} {i : Nat} (hi : l.length ≤ i) : (l.drop i).all p = true := by rw [List.drop_eq_nil_of_le hi]; rfl

theorem val_mem {l : List Val} {i : Nat} {d : Val} (h : i < l.length) : l.getD i d ∈ l := by
  rw [List.getD_eq_getElem?_getD, List.getElem?_eq_getElem h]
  exact List.getElem_mem h
theorem printV_len {v : Val} (h : I64 v.n) : (printV v).length ≤ 40 := by
  unfold printV
  split
  · decide
  rename_i hr
  split
  · decide
  split
  · have := Lib.itoa_length_le v.n h.1 h.2; omega
  split
  · rename_i h0 h1 h2
    have hr2 : rightV v = true := by simpa using hr
    unfold rightV at hr2
    rw [if_neg h0, if_neg h1, if_pos h2] at hr2
    simp only [isWordB, Bool.and_eq_true, decide_eq_true_eq] at hr2
    exact hr2.2.1.2
  split
  · decide
  · decide
def wordsE (e : Evt) : List Bs := ([Lib.itoa e.time, printV e.client, namedW.getD e.type.toNat []] ++ (if e.type = 1 then [mnameS e.model, printV e.key, onameS e.op] else [])) ++ (e.args.map printV ++ e.out.map printV)
def printE (e : Evt) : Bs := if rightE e = true then Lib.join (wordsE e) [32] ++ (if e.noted = true then [32, 59] ++ e.note else []) else []
theorem right_head {e : Evt} (h : rightE e = true) : ¬ e.time < 0 ∧ takesB 0 e.client = true ∧ notedB e = true := by
  unfold rightE at h
  split at h
  · cases h
  · rename_i h1
    simp only [Bool.or_eq_true, decide_eq_true_eq, Bool.not_eq_true', not_or, Bool.not_eq_false] at h1
    exact ⟨h1.1.1, h1.1.2, h1.2⟩
theorem right_inv {e : Evt} (h : rightE e = true) (ht : e.type = 1) : (argsD e.model e.op).2 = true ∧ takesB 1 e.key = true ∧ fitsL (argsD e.model e.op).1 e.args = true ∧ e.out = [] := by
  unfold rightE at h
  split at h
  · cases h
  · simp only [Bool.and_eq_true, decide_eq_true_eq] at h
    exact ⟨h.1.1.1, h.1.1.2, h.1.2, List.length_eq_zero_iff.1 (by omega)⟩
theorem right_end {e : Evt} (h : rightE e = true) (ht : ¬ e.type = 1) : e.model = 0 ∧ e.op = 0 ∧ e.key = ⟨0, 0, []⟩ ∧ e.args = [] ∧ e.out.all rightV = true ∧ (e.type = 2 ∨ (e.type = 3 ∨ e.type = 4) ∧ e.out = []) := by
  unfold rightE at h
  split at h
  · cases h
  · split at h
    · cases h
    · rename_i h2
      simp only [Bool.or_eq_true, Bool.not_eq_true', decide_eq_false_iff_not, decide_eq_true_eq, not_or, Bool.not_eq_false, Decidable.not_not, Bool.and_eq_true, beq_iff_eq, and_true] at h2
      simp only [Bool.and_eq_true, Bool.or_eq_true, decide_eq_true_eq] at h
      obtain ⟨⟨⟨h3, h4⟩, h5⟩, h6⟩ := h2
      refine ⟨h3, h4, ?_, List.length_eq_zero_iff.1 (by omega), h.1, h.2.imp id fun h7 => ⟨h7.1, List.length_eq_zero_iff.1 (by omega)⟩⟩
      cases hk : e.key
      rw [hk] at h5
      obtain ⟨rfl, rfl, rfl⟩ := h5
      rfl
theorem right_type {e : Evt} (h : rightE e = true) : 1 ≤ e.type ∧ e.type ≤ 4 := by
  by_cases ht : e.type = 1
  · omega
  · have := (right_end h ht).2.2.2.2.2
    omega
theorem right_args {e : Evt} (h : rightE e = true) : e.args.length ≤ 2 := by
  by_cases ht : e.type = 1
  · have := fitsL_len (right_inv h ht).2.2.1
    have := args_len e.model e.op
    omega
  · rw [(right_end h ht).2.2.2.1]; decide
theorem wd_at {ws : List Bs} {k : Nat} (h : k < ws.length) : (ws.map str)[k]? = some (str (ws.getD k [])) := by simp [h]
theorem named_len (k : Nat) : (namedW.getD k []).length ≤ 6 := by
  match k with
  | 0 => decide
  | 1 => decide
  | 2 => decide
  | 3 => decide
  | 4 => decide
  | n + 5 => simp [namedW]
theorem model_at {m : Int} (h1 : 1 ≤ m) (h2 : m < 11) : modelsW.getD m.toNat [] = mnameS m := by
  have hl : m.toNat < modelsW.length := by show _ < 11; omega
  have := mname_at (i := m.toNat) (h := hl) (by omega)
  rw [List.getD_eq_getElem?_getD, List.getElem?_eq_getElem hl, this, show ((m.toNat : Nat) : Int) = m by omega]
  rfl
theorem op_at {m : Int} (h1 : 1 ≤ m) (h2 : m < 14) : opsW.getD m.toNat [] = onameS m := by
  have hl : m.toNat < opsW.length := by show _ < 14; omega
  have := oname_at (i := m.toNat) (h := hl) (by omega)
  rw [List.getD_eq_getElem?_getD, List.getElem?_eq_getElem hl, this, show ((m.toNat : Nat) : Int) = m by omega]
  rfl
theorem words40 {e : Evt} (hw : e.Wf) : ∀ x ∈ wordsE e, x.length ≤ 40 := by
  intro x hx
  unfold wordsE at hx
  simp only [List.mem_append, List.mem_cons, List.not_mem_nil, or_false, List.mem_map] at hx
  rcases hx with ((rfl | rfl | rfl) | hx) | (⟨v, hv, rfl⟩ | ⟨v, hv, rfl⟩)
  · have := Lib.itoa_length_le e.time hw.time.1 hw.time.2; omega
  · exact printV_len hw.client.n
  · have := named_len e.type.toNat; omega
  · split at hx
    · simp only [List.mem_cons, List.not_mem_nil, or_false] at hx
      rcases hx with rfl | rfl | rfl
      · have := mname_len e.model; omega
      · exact printV_len hw.key.n
      · have := oname_len e.op; omega
    · cases hx
  · exact printV_len (hw.args v hv).n
  · exact printV_len (hw.out v hv).n
theorem wordsE_len {e : Evt} : (wordsE e).length ≤ 6 + e.args.length + e.out.length := by
  unfold wordsE
  split <;> simp <;> omega
theorem joinE_len {e : Evt} (hw : e.Wf) : (Lib.join (wordsE e) [32]).length ≤ (6 + e.args.length + e.out.length) * 41 := by
  have h1 := join_take_len 32 (wordsE e) 40 (words40 hw)
  have h2 := wordsE_len (e := e)
  have := Nat.mul_le_mul_right 41 h2
  omega
theorem map_take_step {l : List Val} {i : Nat} (h : i < l.length) : (l.take i).map printV ++ [printV (l.getD i ⟨0, 0, []⟩)] = (l.take (i + 1)).map printV := by
  rw [List.take_add_one, List.getElem?_eq_getElem h, List.map_append]
  simp [h]
/-! `incognito/event.fits` -/
set_option maxRecDepth 100000 in
set_option maxHeartbeats 4000000 in
theorem c_fits (ds : List Int) (Ad : Option Addr) (cd : Nat) (l : List Val) (Av : Option Addr) (cv : Nat) (w0 : World) (G : Heap) (hG : Sub G w0) (hg0 : CellsAt G 1 0 [.int .i64 3, .int .i64 1, str []]) (hg1 : CellsAt G 2 0 [.int .i64 3, .int .i64 0, str []]) (hRd : Rd (Knd.int .i64) G Ad ds) (hRv : Rd kVal G Av l) (hdl : ds.length ≤ 1000000) (hwl : ∀ v ∈ l, v.Wf):
  Calls Tryz.prog 21 #[.slice Ad ds.length cd, .slice Av l.length cv] w0 (Ret w0 G (fun v _ => v = .bool (fitsL ds l))) := by
 refine enter Tryz.func21 rfl Tryz.ntmps21 rfl ?_
 intro Q hQ a HE
 have HS := St.start0 hG
 refine sr fun K hK => ?_
 refine rn 1 HE HS ?_; clear HE HS; intro a w HE HS
 apply hK; clear hK K
 refine wp_seq_k (fun K3 hK2 => ?_)
 refine sr fun K hK => ?_
 refine rn 5 HE HS ?_; clear HE HS; intro a w HE HS
 apply hK; clear hK K
 refine cond HE rfl (fun h5r => ?_) (fun h5r => ?_)
 ·have h5 := nm h5r
  refine sr fun K hK => ?_
  refine rn 1 HE HS ?_; clear HE HS; intro a w HE HS
  apply hK; clear hK K
  refine rt hQ HE HS ?_
  have e : fitsL ds l = false := fitsL_ne (by omega)
  show _ = _
  rw [e]
  rfl
 ·have h5 := nm h5r
  refine wp_skip ?_
  refine hK2 _ _ ?_; clear hK2
  refine wp_seq_k (fun K8 hK7 => ?_)
  refine sr fun K hK => ?_
  have hlen : ds.length = l.length := by omega
  refine rn 3 HE HS ?_; clear HE HS; intro a w HE HS
  apply hK; clear hK K
  refine wp_block ?_
  refine loop (fun (i : Nat) a' w' => St w0 G [] G w' [] ∧ Env a' 27 [] [(0, .slice Ad ds.length cd), (1, .slice Av l.length cv), (12, .slice Ad ds.length cd), (13, .int .i64 (ds.length : Int)), (14, .int .i64 ((i : Nat) : Int))] ∧ (i ≤ ds.length ∧ fitsL ds l = fitsL (ds.drop i) (l.drop i))) (fun (i : Nat) => ds.length - i) 0 ⟨HS, HE.cut ⟨rfl, rfl, rfl, rfl, rfl, trivial⟩, ⟨Nat.zero_le _, rfl⟩⟩ ?_
  clear HE HS; intro i a w ⟨HS, HE, ⟨hi, hfi⟩⟩
  refine sr fun K hK => ?_
  refine rn 1 HE HS ?_; clear HE HS; intro a w HE HS
  apply hK; clear hK K
  refine wp_seq_k (fun K13 hK12 => ?_)
  refine cond HE rfl (fun h14r => ?_) (fun h14r => ?_)
  ·have h14 := nm h14r
   refine wp_skip ?_
   refine hK12 _ _ ?_; clear hK12
   refine wp_seq_k (fun K16 hK15 => ?_)
   refine wp_block ?_
   refine sr fun K hK => ?_
   refine rn 1 HE HS ?_; clear HE HS; intro a w HE HS
   have hi17 : ((i : Nat) : Int).toNat < ds.length := by omega
   obtain ⟨eb17, eo17, hA17, el17⟩ := Rd.at hRd (List.getElem?_eq_getElem hi17); cases hA17
   rw [show ds[((i : Nat) : Int).toNat] = (ds.getD i 0) from getD_get (i := i) hi17 _] at el17
   have el17 := kof_open el17
   refine o_ixL HE rfl rfl rfl T.l44 ⟨by omega, by omega⟩ ?_; clear HE; intro a HE
   refine o_ldI HE rfl HS rfl T.s3 el17 (j := 0) rfl rfl ?_; clear HE; intro a HE
   refine rn 2 HE HS ?_; clear HE HS; intro a w HE HS
   apply hK; clear hK K
   refine sr fun K hK => ?_
   refine rn 3 HE HS ?_; clear HE HS; intro a w HE HS
   have hi19 : ((i : Nat) : Int).toNat < l.length := by omega
   obtain ⟨eb19, eo19, hA19, el19⟩ := Rd.at hRv (List.getElem?_eq_getElem hi19); cases hA19
   rw [show l[((i : Nat) : Int).toNat] = (l.getD i ⟨0, 0, []⟩) from getD_get (i := i) hi19 _] at el19
   have el19 := kVal_open el19
   refine o_ixL HE rfl rfl rfl T.l24 ⟨by omega, by omega⟩ ?_; clear HE; intro a HE
   refine o_ldIA HE rfl HS rfl el19 T.a23 ?_; clear HE; intro a HE
   have hvw : (l.getD i ⟨0, 0, []⟩).Wf := hwl _ (val_mem (l := l) (i := i) (by omega))
   refine o_callP HE rfl HS rfl rfl T.g18 (c_takes (ds.getD i 0) (l.getD i ⟨0, 0, []⟩) _ _ HS.sub hg0 hg1 (by assumption)) ?_
   clear HE HS; rintro _ w a HS rfl HE
   refine rn 1 HE HS ?_; clear HE HS; intro a w HE HS
   apply hK; clear hK K
   refine cond HE rfl (fun h21r => ?_) (fun h21r => ?_)
   ·have h21 := nm h21r
    refine sr fun K hK => ?_
    refine rn 1 HE HS ?_; clear HE HS; intro a w HE HS
    apply hK; clear hK K
    refine rt hQ HE HS ?_
    have hst := fitsL_step hlen (i := i) (by omega)
    rw [show takesB _ _ = false from by simpa using h21, Bool.false_and] at hst
    have e : fitsL ds l = false := hfi.trans hst
    show _ = _
    rw [e]
    rfl
   ·have h21 := nm h21r
    refine wp_skip ?_
    refine hK15 _ _ ?_; clear hK15
    refine wp_region_lit ?_
    refine rn 2 HE HS ?_; clear HE HS; intro a w HE HS
    have hst := fitsL_step hlen (i := i) (by omega)
    rw [show takesB _ _ = true from by simpa using h21, Bool.true_and] at hst
    exact ⟨i + 1, ⟨HS, HE.cut ⟨rfl, rfl, rfl, rfl, rfl, trivial⟩, ⟨by omega, hfi.trans hst⟩⟩, by omega⟩
  ·have h14 := nm h14r
   refine wp_exit ?_
   refine hK7 _ _ ?_; clear hK7
   refine sr fun K hK => ?_
   refine rn 1 HE HS ?_; clear HE HS; intro a w HE HS
   apply hK; clear hK K
   refine rt hQ HE HS ?_
   have e : fitsL ds l = true := hfi.trans (fitsL_end hlen (by omega))
   show _ = _
   rw [e]
   rfl

/-! `incognito/event.noted` -/
set_option maxRecDepth 100000 in
set_option maxHeartbeats 4000000 in
theorem c_noted (e : Evt) (A1e : Option Addr) (c1e : Nat) (A2e : Option Addr) (c2e : Nat) (w0 : World) (G : Heap) (hG : Sub G w0) (hr1e : Rd kVal G A1e e.args) (hr2e : Rd kVal G A2e e.out) (hwe : e.Wf):
  Calls Tryz.prog 19 #[.agg #[.int .i64 e.time, .int .i64 e.client.k, .int .i64 e.client.n, str e.client.s, .int .i64 e.type, .int .i64 e.model, .int .i64 e.key.k, .int .i64 e.key.n, str e.key.s, .int .i64 e.op, .slice A1e e.args.length c1e, .slice A2e e.out.length c2e, .bool e.noted, str e.note]] w0 (Ret w0 G (fun v _ => v = .bool (notedB e))) := by
 refine enter Tryz.func19 rfl Tryz.ntmps19 rfl ?_
 intro Q hQ a HE
 have HS := St.start0 hG
 refine sr fun K hK => ?_
 refine o_bx14 HE rfl HS rfl ?_; clear HE HS; intro B1 w a HS HE
 refine rn 1 HE HS ?_; clear HE HS; intro a w HE HS
 apply hK; clear hK K
 refine sr fun K hK => ?_
 refine rn 5 HE HS ?_; clear HE HS; intro a w HE HS
 refine cutG 5 12 (.bool ((decide ((e.note.length : Int) ≤ 100)) && (!(decide (0 ≤ Lib.indexByte e.note 10))))) HE HS ?_ ?_
 ·refine bsp HE (t := 7) rfl (fun hb2 => ?_) (fun hb2 => ?_)
  ·have hk3 := nm hb2
   refine rn 2 HE HS ?_; clear HE HS; intro a w HE HS
   refine op_on HE rfl rfl hb2 ?_
   refine o_callP HE rfl HS rfl rfl T.g43 (calls_same HS.sub (Tryz.strings_Contains_one ⟨List.toArray e.note⟩ 10 _)) ?_
   clear HE HS; rintro _ w a HS rfl HE
   refine rn 2 HE HS ?_; clear HE HS; intro a w HE HS
   exact ⟨HS, HE.cutT (by rw [hb2] <;> rfl)⟩
  ·skip
   refine rn 5 HE HS ?_; clear HE HS; intro a w HE HS
   exact ⟨HS, HE.cutT (by rw [hb2] <;> rfl)⟩
 clear HE HS; intro a w HE HS
 refine rn 1 HE HS ?_; clear HE HS; intro a w HE HS
 refine cutG 8 21 (.bool (((decide ((e.note.length : Int) ≤ 100)) && (!(decide (0 ≤ Lib.indexByte e.note 10)))) && (e.noted || (e.note == [])))) HE HS ?_ ?_
 ·refine bsp HE (t := 13) rfl (fun hb4 => ?_) (fun hb4 => ?_)
  ·have hk5 := nm hb4
   refine rn 3 HE HS ?_; clear HE HS; intro a w HE HS
   refine cutG 4 20 (.bool (e.noted || (e.note == []))) HE HS ?_ ?_
   ·refine bsp HE (t := 16) rfl (fun hb6 => ?_) (fun hb6 => ?_)
    ·skip
     refine rn 4 HE HS ?_; clear HE HS; intro a w HE HS
     exact ⟨HS, HE.cutT (by rw [hb6] <;> rfl)⟩
    ·have hk7 := nm hb6
     refine rn 4 HE HS ?_; clear HE HS; intro a w HE HS
     exact ⟨HS, HE.cutT (by rw [hb6] <;> rfl)⟩
   clear HE HS; intro a w HE HS
   refine rn 1 HE HS ?_; clear HE HS; intro a w HE HS
   exact ⟨HS, HE.cutT (by rw [hb4] <;> rfl)⟩
  ·skip
   refine rn 8 HE HS ?_; clear HE HS; intro a w HE HS
   exact ⟨HS, HE.cutT (by rw [hb4] <;> rfl)⟩
 clear HE HS; intro a w HE HS
 refine rn 1 HE HS ?_; clear HE HS; intro a w HE HS
 apply hK; clear hK K
 refine rt hQ HE HS ?_
 show _ = _
 simp only [packed, Value.bool.injEq]
 rfl

/-! `incognito/event.Right` -/
set_option maxRecDepth 100000 in
set_option maxHeartbeats 4000000 in
theorem c_rightE (e : Evt) (A1e : Option Addr) (c1e : Nat) (A2e : Option Addr) (c2e : Nat) (w0 : World) (G : Heap) (hG : Sub G w0) (hg0 : CellsAt G 1 0 [.int .i64 3, .int .i64 1, str []]) (hg1 : CellsAt G 2 0 [.int .i64 3, .int .i64 0, str []]) (hr1e : Rd kVal G A1e e.args) (hr2e : Rd kVal G A2e e.out) (hwe : e.Wf):
  Calls Tryz.prog 7 #[.agg #[.int .i64 e.time, .int .i64 e.client.k, .int .i64 e.client.n, str e.client.s, .int .i64 e.type, .int .i64 e.model, .int .i64 e.key.k, .int .i64 e.key.n, str e.key.s, .int .i64 e.op, .slice A1e e.args.length c1e, .slice A2e e.out.length c2e, .bool e.noted, str e.note]] w0 (Ret w0 G (fun v _ => v = .bool (rightE e))) := by
 have hwc := hwe.client
 have hwk := hwe.key
 have hlo := hwe.outLen
 refine enter Tryz.func7 rfl Tryz.ntmps7 rfl ?_
 intro Q hQ a HE
 have HS := St.start0 hG
 refine sr fun K hK => ?_
 refine o_bx14 HE rfl HS rfl ?_; clear HE HS; intro B1 w a HS HE
 refine rn 1 HE HS ?_; clear HE HS; intro a w HE HS
 apply hK; clear hK K
 refine wp_seq_k (fun K3 hK2 => ?_)
 refine sr fun K hK => ?_
 refine rn 4 HE HS ?_; clear HE HS; intro a w HE HS
 refine cutG 5 15 (.bool ((decide (e.time < 0)) || (!(takesB 0 e.client)))) HE HS ?_ ?_
 ·refine bsp HE (t := 10) rfl (fun hb4 => ?_) (fun hb4 => ?_)
  ·skip
   refine rn 5 HE HS ?_; clear HE HS; intro a w HE HS
   exact ⟨HS, HE.cutT (by rw [hb4] <;> rfl)⟩
  ·have hk5 := nm hb4
   refine rn 2 HE HS ?_; clear HE HS; intro a w HE HS
   refine op_on HE rfl rfl hb4 ?_
   refine o_callP HE rfl HS rfl rfl T.g18 (c_takes 0 e.client _ _ HS.sub hg0 hg1 (by assumption)) ?_
   clear HE HS; rintro _ w a HS rfl HE
   refine rn 2 HE HS ?_; clear HE HS; intro a w HE HS
   exact ⟨HS, HE.cutT (by rw [hb4] <;> rfl)⟩
 clear HE HS; intro a w HE HS
 refine rn 1 HE HS ?_; clear HE HS; intro a w HE HS
 refine cutG 4 20 (.bool (((decide (e.time < 0)) || (!(takesB 0 e.client))) || (!(notedB e)))) HE HS ?_ ?_
 ·refine bsp HE (t := 16) rfl (fun hb6 => ?_) (fun hb6 => ?_)
  ·skip
   refine rn 4 HE HS ?_; clear HE HS; intro a w HE HS
   exact ⟨HS, HE.cutT (by rw [hb6] <;> rfl)⟩
  ·have hk7 := nm hb6
   refine rn 1 HE HS ?_; clear HE HS; intro a w HE HS
   refine op_on HE rfl rfl hb6 ?_
   refine o_callP HE rfl HS rfl rfl T.g19 (c_noted e _ _ _ _ _ _ HS.sub hr1e hr2e (by first | assumption | exact hwe)) ?_
   clear HE HS; rintro _ w a HS rfl HE
   refine rn 2 HE HS ?_; clear HE HS; intro a w HE HS
   exact ⟨HS, HE.cutT (by rw [hb6] <;> rfl)⟩
 clear HE HS; intro a w HE HS
 apply hK; clear hK K
 refine cond HE rfl (fun h9r => ?_) (fun h9r => ?_)
 ·have h9 := nm h9r
  refine sr fun K hK => ?_
  refine rn 1 HE HS ?_; clear HE HS; intro a w HE HS
  apply hK; clear hK K
  refine rt hQ HE HS ?_
  show _ = _
  simp only [packed, Value.bool.injEq]
  unfold rightE
  rw [if_pos h9r]
 ·have h9 := nm h9r
  refine wp_skip ?_
  refine hK2 _ _ ?_; clear hK2
  refine wp_seq_k (fun K12 hK11 => ?_)
  refine sr fun K hK => ?_
  refine rn 3 HE HS ?_; clear HE HS; intro a w HE HS
  apply hK; clear hK K
  refine cond HE rfl (fun h14r => ?_) (fun h14r => ?_)
  ·have h14 := nm h14r
   refine sr fun K hK => ?_
   refine rn 4 HE HS ?_; clear HE HS; intro a w HE HS
   refine o_call HE rfl HS rfl rfl T.g20 (c_args e.model e.op _ _ HS.sub) ?_
   clear HE HS; rintro _ G15 w a HS hle15 ⟨vA15, vc15, rfl, hcp15, hR15⟩ HE
   replace hg0 := hg0.le hle15
   replace hg1 := hg1.le hle15
   replace hr1e := hr1e.le hle15
   replace hr2e := hr2e.le hle15
   refine rn 5 HE HS ?_; clear HE HS; intro a w HE HS
   apply hK; clear hK K
   refine sr fun K hK => ?_
   refine rn 2 HE HS ?_; clear HE HS; intro a w HE HS
   refine cutG 4 37 (.bool (((argsD e.model e.op).2) && (takesB 1 e.key))) HE HS ?_ ?_
   ·refine bsp HE (t := 33) rfl (fun hb17 => ?_) (fun hb17 => ?_)
    ·have hk18 := nm hb17
     refine rn 2 HE HS ?_; clear HE HS; intro a w HE HS
     refine op_on HE rfl rfl hb17 ?_
     refine o_callP HE rfl HS rfl rfl T.g18 (c_takes 1 e.key _ _ HS.sub hg0 hg1 (by assumption)) ?_
     clear HE HS; rintro _ w a HS rfl HE
     refine rn 1 HE HS ?_; clear HE HS; intro a w HE HS
     exact ⟨HS, HE.cutT (by rw [hb17] <;> rfl)⟩
    ·skip
     refine rn 4 HE HS ?_; clear HE HS; intro a w HE HS
     exact ⟨HS, HE.cutT (by rw [hb17] <;> rfl)⟩
   clear HE HS; intro a w HE HS
   refine rn 1 HE HS ?_; clear HE HS; intro a w HE HS
   refine cutG 5 43 (.bool ((((argsD e.model e.op).2) && (takesB 1 e.key)) && (fitsL ((argsD e.model e.op).1) e.args))) HE HS ?_ ?_
   ·refine bsp HE (t := 38) rfl (fun hb19 => ?_) (fun hb19 => ?_)
    ·have hk20 := nm hb19
     refine rn 3 HE HS ?_; clear HE HS; intro a w HE HS
     refine op_on HE rfl rfl hb19 ?_
     refine o_callP HE rfl HS rfl rfl T.g21 (c_fits ((argsD e.model e.op).1) _ _ e.args _ _ _ _ HS.sub hg0 hg1 hR15 hr1e (by have := args_len e.model e.op; omega) hwe.args) ?_
     clear HE HS; rintro _ w a HS rfl HE
     refine rn 1 HE HS ?_; clear HE HS; intro a w HE HS
     exact ⟨HS, HE.cutT (by rw [hb19] <;> rfl)⟩
    ·skip
     refine rn 5 HE HS ?_; clear HE HS; intro a w HE HS
     exact ⟨HS, HE.cutT (by rw [hb19] <;> rfl)⟩
   clear HE HS; intro a w HE HS
   refine rn 1 HE HS ?_; clear HE HS; intro a w HE HS
   refine cutG 5 49 (.bool (((((argsD e.model e.op).2) && (takesB 1 e.key)) && (fitsL ((argsD e.model e.op).1) e.args)) && (decide ((e.out.length : Int) = 0)))) HE HS ?_ ?_
   ·refine bsp HE (t := 44) rfl (fun hb21 => ?_) (fun hb21 => ?_)
    ·have hk22 := nm hb21
     refine rn 5 HE HS ?_; clear HE HS; intro a w HE HS
     exact ⟨HS, HE.cutT (by rw [hb21] <;> rfl)⟩
    ·skip
     refine rn 5 HE HS ?_; clear HE HS; intro a w HE HS
     exact ⟨HS, HE.cutT (by rw [hb21] <;> rfl)⟩
   clear HE HS; intro a w HE HS
   refine rn 1 HE HS ?_; clear HE HS; intro a w HE HS
   apply hK; clear hK K
   refine rt hQ HE HS ?_
   show _ = _
   simp only [packed, Value.bool.injEq]
   unfold rightE
   rw [if_neg (by simpa using h9)]
   rw [if_pos (by simpa using h14)]
  ·have h14 := nm h14r
   refine wp_skip ?_
   refine hK11 _ _ ?_; clear hK11
   refine wp_seq_k (fun K25 hK24 => ?_)
   refine sr fun K hK => ?_
   refine rn 4 HE HS ?_; clear HE HS; intro a w HE HS
   refine cutG 4 57 (.bool ((!decide (e.model = 0)) || (!decide (e.op = 0)))) HE HS ?_ ?_
   ·refine bsp HE (t := 53) rfl (fun hb26 => ?_) (fun hb26 => ?_)
    ·skip
     refine rn 4 HE HS ?_; clear HE HS; intro a w HE HS
     exact ⟨HS, HE.cutT (by rw [hb26] <;> rfl)⟩
    ·have hk27 := nm hb26
     refine rn 4 HE HS ?_; clear HE HS; intro a w HE HS
     exact ⟨HS, HE.cutT (by rw [hb26] <;> rfl)⟩
   clear HE HS; intro a w HE HS
   refine rn 1 HE HS ?_; clear HE HS; intro a w HE HS
   refine cutG 5 63 (.bool (((!decide (e.model = 0)) || (!decide (e.op = 0))) || (!(decide (e.key.k = 0) && (decide (e.key.n = 0) && (e.key.s == [] && true)))))) HE HS ?_ ?_
   ·refine bsp HE (t := 58) rfl (fun hb28 => ?_) (fun hb28 => ?_)
    ·skip
     refine rn 5 HE HS ?_; clear HE HS; intro a w HE HS
     exact ⟨HS, HE.cutT (by rw [hb28] <;> rfl)⟩
    ·have hk29 := nm hb28
     refine rn 2 HE HS ?_; clear HE HS; intro a w HE HS
     refine op_on HE rfl rfl hb28 ?_
     refine o_build (cs := #[.int .i64 0, .int .i64 0, str []]) HE rfl rfl (by kernel_rfl) ?_; clear HE; intro a HE
     refine op_on HE rfl rfl hb28 ?_
     refine o_neA (b := decide (e.key.k = 0) && (decide (e.key.n = 0) && (e.key.s == [] && true))) HE rfl rfl rfl T.q23 rfl rfl ?_; clear HE; intro a HE
     refine rn 1 HE HS ?_; clear HE HS; intro a w HE HS
     exact ⟨HS, HE.cutT (by rw [hb28] <;> rfl)⟩
   clear HE HS; intro a w HE HS
   refine rn 1 HE HS ?_; clear HE HS; intro a w HE HS
   refine cutG 5 69 (.bool ((((!decide (e.model = 0)) || (!decide (e.op = 0))) || (!(decide (e.key.k = 0) && (decide (e.key.n = 0) && (e.key.s == [] && true))))) || (decide (0 < (e.args.length : Int))))) HE HS ?_ ?_
   ·refine bsp HE (t := 64) rfl (fun hb30 => ?_) (fun hb30 => ?_)
    ·skip
     refine rn 5 HE HS ?_; clear HE HS; intro a w HE HS
     exact ⟨HS, HE.cutT (by rw [hb30] <;> rfl)⟩
    ·have hk31 := nm hb30
     refine rn 5 HE HS ?_; clear HE HS; intro a w HE HS
     exact ⟨HS, HE.cutT (by rw [hb30] <;> rfl)⟩
   clear HE HS; intro a w HE HS
   apply hK; clear hK K
   refine cond HE rfl (fun h33r => ?_) (fun h33r => ?_)
   ·have h33 := nm h33r
    refine sr fun K hK => ?_
    refine rn 1 HE HS ?_; clear HE HS; intro a w HE HS
    apply hK; clear hK K
    refine rt hQ HE HS ?_
    show _ = _
    simp only [packed, Value.bool.injEq]
    unfold rightE
    rw [if_neg (by simpa using h9)]
    rw [if_neg (by simpa using h14)]
    rw [if_pos (by simpa using h33)]
   ·have h33 := nm h33r
    refine wp_skip ?_
    refine hK24 _ _ ?_; clear hK24
    refine wp_seq_k (fun K36 hK35 => ?_)
    refine sr fun K hK => ?_
    refine rn 4 HE HS ?_; clear HE HS; intro a w HE HS
    apply hK; clear hK K
    refine wp_block ?_
    refine loop (fun (i : Nat) a' w' => St w0 G [] G w' [[(B1, Cells 26 [(0, .int .i64 e.time), (1, .int .i64 e.client.k), (2, .int .i64 e.client.n), (3, str e.client.s), (4, .int .i64 e.type), (5, .int .i64 e.model), (6, .int .i64 e.key.k), (7, .int .i64 e.key.n), (8, str e.key.s), (9, .int .i64 e.op), (10, .slice A1e e.args.length c1e), (11, .slice A2e e.out.length c2e), (12, .bool e.noted), (13, str e.note)])]] ∧ Env a' 100 [] [(1, .pointer (some ⟨B1, 0, none⟩)), (71, .slice A2e e.out.length c2e), (72, .int .i64 (e.out.length : Int)), (73, .int .i64 ((i : Nat) : Int))] ∧ (i ≤ e.out.length ∧ e.out.all rightV = (e.out.drop i).all rightV)) (fun (i : Nat) => e.out.length - i) 0 ⟨HS, HE.cut ⟨rfl, rfl, rfl, rfl, trivial⟩, ⟨Nat.zero_le _, rfl⟩⟩ ?_
    clear HE HS; intro i a w ⟨HS, HE, ⟨hi, hfi⟩⟩
    refine sr fun K hK => ?_
    refine rn 1 HE HS ?_; clear HE HS; intro a w HE HS
    apply hK; clear hK K
    refine wp_seq_k (fun K41 hK40 => ?_)
    refine cond HE rfl (fun h42r => ?_) (fun h42r => ?_)
    ·have h42 := nm h42r
     refine wp_skip ?_
     refine hK40 _ _ ?_; clear hK40
     refine wp_seq_k (fun K44 hK43 => ?_)
     refine wp_block ?_
     refine sr fun K hK => ?_
     have hi45 : ((i : Nat) : Int).toNat < e.out.length := by omega
     obtain ⟨eb45, eo45, hA45, el45⟩ := Rd.at hr2e (List.getElem?_eq_getElem hi45); cases hA45
     rw [show e.out[((i : Nat) : Int).toNat] = (e.out.getD i ⟨0, 0, []⟩) from getD_get (i := i) hi45 _] at el45
     have el45 := kVal_open el45
     refine o_ixL HE rfl rfl rfl T.l24 ⟨by omega, by omega⟩ ?_; clear HE; intro a HE
     refine o_ldIA HE rfl HS rfl el45 T.a23 ?_; clear HE; intro a HE
     refine o_allocZ HE rfl HS ?_; clear HE HS; intro B6 w a HS HE
     refine rn 1 HE HS ?_; clear HE HS; intro a w HE HS
     apply hK; clear hK K
     refine sr fun K hK => ?_
     refine rn 1 HE HS ?_; clear HE HS; intro a w HE HS
     have hvw : (e.out.getD i ⟨0, 0, []⟩).Wf := hwe.out _ (val_mem (l := e.out) (i := i) (by omega))
     refine o_callP HE rfl HS rfl rfl T.g22 (c_right7 (e.out.getD i ⟨0, 0, []⟩) _ _ HS.sub hg0 hg1 (by first | assumption | exact hv | (constructor <;> first | assumption | (simp only [I64]; omega) | (simp; omega)))) ?_
     clear HE HS; rintro _ w a HS rfl HE
     refine rn 1 HE HS ?_; clear HE HS; intro a w HE HS
     apply hK; clear hK K
     refine cond HE rfl (fun h48r => ?_) (fun h48r => ?_)
     ·have h48 := nm h48r
      refine sr fun K hK => ?_
      refine rn 1 HE HS ?_; clear HE HS; intro a w HE HS
      apply hK; clear hK K
      refine rt hQ HE HS ?_
      show _ = _
      simp only [packed, Value.bool.injEq]
      unfold rightE
      rw [if_neg (by simpa using h9)]
      rw [if_neg (by simpa using h14)]
      rw [if_neg (by simpa using h33)]
      rw [hfi, all_drop (d := ⟨0, 0, []⟩) (by omega), show rightV _ = false from by simpa using h48]
      simp
     ·have h48 := nm h48r
      refine wp_skip ?_
      refine hK43 _ _ ?_; clear hK43
      refine wp_region_lit ?_
      refine rn 2 HE HS ?_; clear HE HS; intro a w HE HS
      replace HS := HS.drop (M' := [_]) (sub_drop (sub_keep sub_nil))
      have hst := hfi
      rw [all_drop (d := ⟨0, 0, []⟩) (by omega), show rightV _ = true from by simpa using h48, Bool.true_and] at hst
      exact ⟨i + 1, ⟨HS, HE.cut ⟨rfl, rfl, rfl, rfl, trivial⟩, ⟨by omega, hst⟩⟩, by omega⟩
    ·have h42 := nm h42r
     refine wp_exit ?_
     refine hK35 _ _ ?_; clear hK35
     refine sr fun K hK => ?_
     refine rn 4 HE HS ?_; clear HE HS; intro a w HE HS
     refine cutG 15 99 (.bool ((decide (e.type = 2)) || (((decide (e.type = 3)) || (decide (e.type = 4))) && (decide ((e.out.length : Int) = 0))))) HE HS ?_ ?_
     ·refine bsp HE (t := 84) rfl (fun hb50 => ?_) (fun hb50 => ?_)
      ·skip
       refine rn 15 HE HS ?_; clear HE HS; intro a w HE HS
       exact ⟨HS, HE.cutT (by rw [hb50] <;> rfl)⟩
      ·have hk51 := nm hb50
       refine rn 4 HE HS ?_; clear HE HS; intro a w HE HS
       refine cutG 4 92 (.bool ((decide (e.type = 3)) || (decide (e.type = 4)))) HE HS ?_ ?_
       ·refine bsp HE (t := 88) rfl (fun hb52 => ?_) (fun hb52 => ?_)
        ·skip
         refine rn 4 HE HS ?_; clear HE HS; intro a w HE HS
         exact ⟨HS, HE.cutT (by rw [hb52] <;> rfl)⟩
        ·have hk53 := nm hb52
         refine rn 4 HE HS ?_; clear HE HS; intro a w HE HS
         exact ⟨HS, HE.cutT (by rw [hb52] <;> rfl)⟩
       clear HE HS; intro a w HE HS
       refine rn 1 HE HS ?_; clear HE HS; intro a w HE HS
       refine cutG 5 98 (.bool (((decide (e.type = 3)) || (decide (e.type = 4))) && (decide ((e.out.length : Int) = 0)))) HE HS ?_ ?_
       ·refine bsp HE (t := 93) rfl (fun hb54 => ?_) (fun hb54 => ?_)
        ·have hk55 := nm hb54
         refine rn 5 HE HS ?_; clear HE HS; intro a w HE HS
         exact ⟨HS, HE.cutT (by rw [hb54] <;> rfl)⟩
        ·skip
         refine rn 5 HE HS ?_; clear HE HS; intro a w HE HS
         exact ⟨HS, HE.cutT (by rw [hb54] <;> rfl)⟩
       clear HE HS; intro a w HE HS
       refine rn 1 HE HS ?_; clear HE HS; intro a w HE HS
       exact ⟨HS, HE.cutT (by rw [hb50] <;> rfl)⟩
     clear HE HS; intro a w HE HS
     refine rn 1 HE HS ?_; clear HE HS; intro a w HE HS
     apply hK; clear hK K
     refine rt hQ HE HS ?_
     show _ = _
     simp only [packed, Value.bool.injEq]
     unfold rightE
     rw [if_neg (by simpa using h9)]
     rw [if_neg (by simpa using h14)]
     rw [if_neg (by simpa using h33)]
     rw [hfi, all_end (by omega)]
     simp

/-! `incognito/sign.ModelName` -/
set_option maxRecDepth 100000 in
set_option maxHeartbeats 4000000 in
theorem c_modname (m : Int) (w0 : World) (G : Heap) (hG : Sub G w0) (hgm : CellsAt G 3 0 [str [], str [114, 101, 103], str [99, 97, 115], str [115, 101, 116], str [109, 97, 112], str [102, 105, 102, 111], str [115, 116, 97, 99, 107], str [108, 111, 99, 107], str [99, 111, 117, 110, 116], str [109, 97, 120], str [111, 109, 97, 112]]):
  Calls Tryz.prog 28 #[.int .i64 m] w0 (Ret w0 G (fun v _ => v = str (mnameS m))) := by
 refine enter Tryz.func28 rfl Tryz.ntmps28 rfl ?_
 intro Q hQ a HE
 have HS := St.start0 hG
 refine sr fun K hK => ?_
 refine rn 1 HE HS ?_; clear HE HS; intro a w HE HS
 apply hK; clear hK K
 refine wp_seq_k (fun K3 hK2 => ?_)
 refine sr fun K hK => ?_
 refine rn 3 HE HS ?_; clear HE HS; intro a w HE HS
 refine cutG 3 8 (.bool ((decide (m < 1)) || (decide (11 ≤ m)))) HE HS ?_ ?_
 ·refine bsp HE (t := 5) rfl (fun hb4 => ?_) (fun hb4 => ?_)
  ·skip
   refine rn 3 HE HS ?_; clear HE HS; intro a w HE HS
   exact ⟨HS, HE.cutT (by rw [hb4] <;> rfl)⟩
  ·have hk5 := nm hb4
   refine rn 3 HE HS ?_; clear HE HS; intro a w HE HS
   exact ⟨HS, HE.cutT (by rw [hb4] <;> rfl)⟩
 clear HE HS; intro a w HE HS
 apply hK; clear hK K
 refine cond HE rfl (fun h7r => ?_) (fun h7r => ?_)
 ·have h7 := nm h7r
  refine sr fun K hK => ?_
  refine rn 1 HE HS ?_; clear HE HS; intro a w HE HS
  apply hK; clear hK K
  refine rt hQ HE HS ?_
  have e : mnameS m = [] := mname_out (by have := h7r; simp only [Bool.or_eq_true, decide_eq_true_eq] at this; omega)
  show _ = _
  rw [e]
  rfl
 ·have h7 := nm h7r
  refine wp_skip ?_
  refine hK2 _ _ ?_; clear hK2
  refine sr fun K hK => ?_
  refine rn 1 HE HS ?_; clear HE HS; intro a w HE HS
  refine o_ixA HE rfl rfl rfl T.r89 (by omega) ?_; clear HE; intro a HE
  refine o_ldI HE rfl HS rfl T.s9 hgm (j := m.toNat) (by simp) (show (List.map str modelsW)[_]? = _ from wd_at (by show _ < 11; omega)) ?_; clear HE; intro a HE
  refine rn 1 HE HS ?_; clear HE HS; intro a w HE HS
  apply hK; clear hK K
  refine rt hQ HE HS ?_
  have e := model_at (m := m) (by omega) (by omega)
  show _ = _
  rw [← e]
  rfl

/-! `incognito/sign.OpName` -/
set_option maxRecDepth 100000 in
set_option maxHeartbeats 4000000 in
theorem c_opname (m : Int) (w0 : World) (G : Heap) (hG : Sub G w0) (hgo : CellsAt G 4 0 [str [], str [119, 114, 105, 116, 101], str [114, 101, 97, 100], str [115, 119, 97, 112], str [97, 100, 100], str [100, 101, 108], str [104, 97, 115], str [112, 117, 116], str [103, 101, 116], str [112, 117, 115, 104], str [112, 111, 112], str [116, 97, 107, 101], str [102, 114, 101, 101], str [115, 99, 97, 110]]):
  Calls Tryz.prog 29 #[.int .i64 m] w0 (Ret w0 G (fun v _ => v = str (onameS m))) := by
 refine enter Tryz.func29 rfl Tryz.ntmps29 rfl ?_
 intro Q hQ a HE
 have HS := St.start0 hG
 refine sr fun K hK => ?_
 refine rn 1 HE HS ?_; clear HE HS; intro a w HE HS
 apply hK; clear hK K
 refine wp_seq_k (fun K3 hK2 => ?_)
 refine sr fun K hK => ?_
 refine rn 3 HE HS ?_; clear HE HS; intro a w HE HS
 refine cutG 3 8 (.bool ((decide (m < 1)) || (decide (14 ≤ m)))) HE HS ?_ ?_
 ·refine bsp HE (t := 5) rfl (fun hb4 => ?_) (fun hb4 => ?_)
  ·skip
   refine rn 3 HE HS ?_; clear HE HS; intro a w HE HS
   exact ⟨HS, HE.cutT (by rw [hb4] <;> rfl)⟩
  ·have hk5 := nm hb4
   refine rn 3 HE HS ?_; clear HE HS; intro a w HE HS
   exact ⟨HS, HE.cutT (by rw [hb4] <;> rfl)⟩
 clear HE HS; intro a w HE HS
 apply hK; clear hK K
 refine cond HE rfl (fun h7r => ?_) (fun h7r => ?_)
 ·have h7 := nm h7r
  refine sr fun K hK => ?_
  refine rn 1 HE HS ?_; clear HE HS; intro a w HE HS
  apply hK; clear hK K
  refine rt hQ HE HS ?_
  have e : onameS m = [] := oname_out (by have := h7r; simp only [Bool.or_eq_true, decide_eq_true_eq] at this; omega)
  show _ = _
  rw [e]
  rfl
 ·have h7 := nm h7r
  refine wp_skip ?_
  refine hK2 _ _ ?_; clear hK2
  refine sr fun K hK => ?_
  refine rn 1 HE HS ?_; clear HE HS; intro a w HE HS
  refine o_ixA HE rfl rfl rfl T.r90 (by omega) ?_; clear HE; intro a HE
  refine o_ldI HE rfl HS rfl T.s9 hgo (j := m.toNat) (by simp) (show (List.map str opsW)[_]? = _ from wd_at (by show _ < 14; omega)) ?_; clear HE; intro a HE
  refine rn 1 HE HS ?_; clear HE HS; intro a w HE HS
  apply hK; clear hK K
  refine rt hQ HE HS ?_
  have e := op_at (m := m) (by omega) (by omega)
  show _ = _
  rw [← e]
  rfl

/-! `incognito/event.Print` -/
set_option maxRecDepth 100000 in
set_option maxHeartbeats 4000000 in
theorem c_PrintE (e : Evt) (A1e : Option Addr) (c1e : Nat) (A2e : Option Addr) (c2e : Nat) (w0 : World) (G : Heap) (hG : Sub G w0) (hg0 : CellsAt G 1 0 [.int .i64 3, .int .i64 1, str []]) (hg1 : CellsAt G 2 0 [.int .i64 3, .int .i64 0, str []]) (hgm : CellsAt G 3 0 [str [], str [114, 101, 103], str [99, 97, 115], str [115, 101, 116], str [109, 97, 112], str [102, 105, 102, 111], str [115, 116, 97, 99, 107], str [108, 111, 99, 107], str [99, 111, 117, 110, 116], str [109, 97, 120], str [111, 109, 97, 112]]) (hgo : CellsAt G 4 0 [str [], str [119, 114, 105, 116, 101], str [114, 101, 97, 100], str [115, 119, 97, 112], str [97, 100, 100], str [100, 101, 108], str [104, 97, 115], str [112, 117, 116], str [103, 101, 116], str [112, 117, 115, 104], str [112, 111, 112], str [116, 97, 107, 101], str [102, 114, 101, 101], str [115, 99, 97, 110]]) (hgn : CellsAt G 0 0 [str [], str [105, 110, 118, 111, 107, 101], str [111, 107], str [102, 97, 105, 108], str [105, 110, 102, 111]]) (hT : TabG G 6 .u64 Lib.pow10Tab) (hr1e : Rd kVal G A1e e.args) (hr2e : Rd kVal G A2e e.out) (hwe : e.Wf) (hlo : rightE e = true → e.out.length ≤ 1000000):
  Calls Tryz.prog 9 #[.agg #[.int .i64 e.time, .int .i64 e.client.k, .int .i64 e.client.n, str e.client.s, .int .i64 e.type, .int .i64 e.model, .int .i64 e.key.k, .int .i64 e.key.n, str e.key.s, .int .i64 e.op, .slice A1e e.args.length c1e, .slice A2e e.out.length c2e, .bool e.noted, str e.note]] w0 (Ret w0 G (fun v _ => v = str (printE e))) := by
 have hwc := hwe.client
 have hwk := hwe.key
 have htm : I64 e.time := hwe.time
 refine enter Tryz.func9 rfl Tryz.ntmps9 rfl ?_
 intro Q hQ a HE
 have HS := St.start0 hG
 refine sr fun K hK => ?_
 refine o_bx14 HE rfl HS rfl ?_; clear HE HS; intro B1 w a HS HE
 refine rn 1 HE HS ?_; clear HE HS; intro a w HE HS
 apply hK; clear hK K
 refine wp_seq_k (fun K3 hK2 => ?_)
 refine sr fun K hK => ?_
 refine rn 1 HE HS ?_; clear HE HS; intro a w HE HS
 refine o_callP HE rfl HS rfl rfl T.g7 (c_rightE e _ _ _ _ _ _ HS.sub hg0 hg1 hr1e hr2e (by first | assumption | exact hwe)) ?_
 clear HE HS; rintro _ w a HS rfl HE
 refine rn 1 HE HS ?_; clear HE HS; intro a w HE HS
 apply hK; clear hK K
 refine cond HE rfl (fun h5r => ?_) (fun h5r => ?_)
 ·have h5 := nm h5r
  refine sr fun K hK => ?_
  refine rn 1 HE HS ?_; clear HE HS; intro a w HE HS
  apply hK; clear hK K
  refine rt hQ HE HS ?_
  have e : printE e = [] := by
   unfold printE
   rw [if_neg (by simpa using h5)]
  show _ = _
  rw [e]
  rfl
 ·have h5 := nm h5r
  refine wp_skip ?_
  refine hK2 _ _ ?_; clear hK2
  refine wp_seq_k (fun K8 hK7 => ?_)
  have hre : rightE e = true := by simpa using h5
  have hty := right_type hre
  have hre : rightE e = true := by simpa using h5
  have hty := right_type hre
  replace HE := HE.cut (L' := [(0, .agg #[.int .i64 e.time, .int .i64 e.client.k, .int .i64 e.client.n, str e.client.s, .int .i64 e.type, .int .i64 e.model, .int .i64 e.key.k, .int .i64 e.key.n, str e.key.s, .int .i64 e.op, .slice A1e e.args.length c1e, .slice A2e e.out.length c2e, .bool e.noted, str e.note]), (1, .pointer (some ⟨B1, 0, none⟩)), (2, str []), (9, .agg #[.int .i64 e.time, .int .i64 e.client.k, .int .i64 e.client.n, str e.client.s, .int .i64 e.type, .int .i64 e.model, .int .i64 e.key.k, .int .i64 e.key.n, str e.key.s, .int .i64 e.op, .slice A1e e.args.length c1e, .slice A2e e.out.length c2e, .bool e.noted, str e.note]), (10, .bool (rightE e)), (11, .bool (!(rightE e)))]) ⟨rfl, rfl, rfl, rfl, rfl, rfl, trivial⟩
  refine drawnSeq 10 (fun f G' w => G = G' ∧ St w0 G [] G' w [[(B1, Cells 26 [(0, .int .i64 e.time), (1, .int .i64 e.client.k), (2, .int .i64 e.client.n), (3, str e.client.s), (4, .int .i64 e.type), (5, .int .i64 e.model), (6, .int .i64 e.key.k), (7, .int .i64 e.key.n), (8, str e.key.s), (9, .int .i64 e.op), (10, .slice A1e e.args.length c1e), (11, .slice A2e e.out.length c2e), (12, .bool e.noted), (13, str e.note)])]]) [fun v _ => v = .pointer (some ⟨B1, 0, none⟩), fun v _ => v = .int .i64 e.time, fun v _ => v = str (Lib.itoa e.time), fun v _ => v = .pointer (some ⟨B1, 1, none⟩), fun v _ => v = .agg #[.int .i64 e.client.k, .int .i64 e.client.n, str e.client.s], fun v _ => v = str (printV e.client), fun v _ => v = .pointer (some ⟨B1, 4, none⟩), fun v _ => v = .int .i64 e.type, fun v _ => v = .pointer (some ⟨0, 0 + (e.type).toNat * 1, none⟩), fun v _ => v = str (namedW.getD e.type.toNat [])] T.mix rfl (by kernel_rfl) HE ⟨rfl, HS.drew⟩ rfl (AllM.get ⟨fun _ _ _ _ h => h, fun _ _ _ _ h => h, fun _ _ _ _ h => h, fun _ _ _ _ h => h, fun _ _ _ _ h => h, fun _ _ _ _ h => h, fun _ _ _ _ h => h, fun _ _ _ _ h => h, fun _ _ _ _ h => h, fun _ _ _ _ h => h, trivial⟩) ⟨?_, ?_, ?_, ?_, ?_, ?_, ?_, ?_, ?_, ?_, trivial⟩ ?_
  ·intro a w G1 f hcl hfi hon hW HE hp hO; obtain ⟨rfl, HS⟩ := hW
   refine o_fld HE rfl rfl T.f26_0 ?_; clear HE; intro a HE
   exact ⟨_, _, Heap.le.refl _, ⟨rfl, HS⟩, fun d hd => (by cases hd; exact HE.get _ _ rfl), HE.defers, rfl⟩
  ·intro a w G1 f hcl hfi hon hW HE hp hO; obtain ⟨rfl, HS⟩ := hW
   obtain ⟨_, e0, rfl⟩ := hp 0 12 _ (hon 0 rfl) rfl rfl; replace HE := HE.add e0
   refine o_ld HE rfl HS rfl T.s2 (.here .here) rfl ?_; clear HE; intro a HE
   exact ⟨_, _, Heap.le.refl _, ⟨rfl, HS⟩, fun d hd => (by cases hd; exact HE.get _ _ rfl), HE.defers, rfl⟩
  ·intro a w G1 f hcl hfi hon hW HE hp hO; obtain ⟨rfl, HS⟩ := hW
   obtain ⟨_, e1, rfl⟩ := hp 1 13 _ (hon 1 rfl) rfl rfl; replace HE := HE.add e1
   refine o_callP HE rfl HS rfl rfl T.g26 (c_print6 e.time _ _ HS.sub (by first | assumption | exact hv.n | omega) hT) ?_
   clear HE HS; rintro _ w a HS rfl HE
   exact ⟨_, _, Heap.le.refl _, ⟨rfl, HS⟩, fun d hd => (by cases hd; exact HE.get _ _ rfl), HE.defers, rfl⟩
  ·intro a w G1 f hcl hfi hon hW HE hp hO; obtain ⟨rfl, HS⟩ := hW
   refine o_fld HE rfl rfl T.f26_1 ?_; clear HE; intro a HE
   exact ⟨_, _, Heap.le.refl _, ⟨rfl, HS⟩, fun d hd => (by cases hd; exact HE.get _ _ rfl), HE.defers, rfl⟩
  ·intro a w G1 f hcl hfi hon hW HE hp hO; obtain ⟨rfl, HS⟩ := hW
   obtain ⟨_, e3, rfl⟩ := hp 3 15 _ (hon 3 rfl) rfl rfl; replace HE := HE.add e3
   refine o_ldA HE rfl HS rfl T.a23 (.here .here) rfl ?_; clear HE; intro a HE
   exact ⟨_, _, Heap.le.refl _, ⟨rfl, HS⟩, fun d hd => (by cases hd; exact HE.get _ _ rfl), HE.defers, rfl⟩
  ·intro a w G1 f hcl hfi hon hW HE hp hO; obtain ⟨rfl, HS⟩ := hW
   obtain ⟨_, e4, rfl⟩ := hp 4 16 _ (hon 4 rfl) rfl rfl; replace HE := HE.add e4
   refine o_callP HE rfl HS rfl rfl T.g27 (c_print7 e.client _ _ HS.sub hg0 hg1 hT (by first | assumption | exact hv | (constructor <;> first | assumption | (simp only [I64]; omega) | (simp; omega)))) ?_
   clear HE HS; rintro _ w a HS rfl HE
   exact ⟨_, _, Heap.le.refl _, ⟨rfl, HS⟩, fun d hd => (by cases hd; exact HE.get _ _ rfl), HE.defers, rfl⟩
  ·intro a w G1 f hcl hfi hon hW HE hp hO; obtain ⟨rfl, HS⟩ := hW
   refine o_fld HE rfl rfl T.f26_2 ?_; clear HE; intro a HE
   exact ⟨_, _, Heap.le.refl _, ⟨rfl, HS⟩, fun d hd => (by cases hd; exact HE.get _ _ rfl), HE.defers, rfl⟩
  ·intro a w G1 f hcl hfi hon hW HE hp hO; obtain ⟨rfl, HS⟩ := hW
   obtain ⟨_, e6, rfl⟩ := hp 6 18 _ (hon 6 rfl) rfl rfl; replace HE := HE.add e6
   refine o_ld HE rfl HS rfl T.s3 (.here .here) rfl ?_; clear HE; intro a HE
   exact ⟨_, _, Heap.le.refl _, ⟨rfl, HS⟩, fun d hd => (by cases hd; exact HE.get _ _ rfl), HE.defers, rfl⟩
  ·intro a w G1 f hcl hfi hon hW HE hp hO; obtain ⟨rfl, HS⟩ := hW
   obtain ⟨_, e7, rfl⟩ := hp 7 19 _ (hon 7 rfl) rfl rfl; replace HE := HE.add e7
   refine o_ixA HE rfl rfl rfl T.r52 (by omega) ?_; clear HE; intro a HE
   exact ⟨_, _, Heap.le.refl _, ⟨rfl, HS⟩, fun d hd => (by cases hd; exact HE.get _ _ rfl), HE.defers, rfl⟩
  ·intro a w G1 f hcl hfi hon hW HE hp hO; obtain ⟨rfl, HS⟩ := hW
   obtain ⟨_, e8, rfl⟩ := hp 8 20 _ (hon 8 rfl) rfl rfl; replace HE := HE.add e8
   refine o_ldI HE rfl HS rfl T.s9 hgn (j := e.type.toNat) (by simp) (show (List.map str namedW)[_]? = _ from wd_at (by show _ < 5; omega)) ?_; clear HE; intro a HE
   exact ⟨_, _, Heap.le.refl _, ⟨rfl, HS⟩, fun d hd => (by cases hd; exact HE.get _ _ rfl), HE.defers, rfl⟩
  clear HE HS; intro a w G9 f hle10 hall HW HE hp; obtain ⟨rfl, HS⟩ := HW
  clear hle10
  obtain ⟨_, e2, rfl⟩ := hp 2 14 _ rfl rfl; replace HE := HE.add e2
  obtain ⟨_, e5, rfl⟩ := hp 5 17 _ rfl rfl; replace HE := HE.add e5
  obtain ⟨_, e9, rfl⟩ := hp 9 21 _ rfl rfl; replace HE := HE.add e9
  clear hp hall
  refine o_buildO (K := Knd.s) (xs := [Lib.itoa e.time, printV e.client, (namedW.getD e.type.toNat [])]) (cs := #[str (Lib.itoa e.time), str (printV e.client), str (namedW.getD e.type.toNat [])]) HE rfl HS rfl T.l53 (by kernel_rfl) ⟨rfl, rfl, rfl, rfl⟩ rfl rfl rfl (by decide) ?_; clear HE HS; intro oA11 oc11 oC11 w a HS oH11 HE
  refine o_assign HE rfl rfl ?_; clear HE; intro a HE
  refine hK7 _ _ ?_; clear hK7
  refine wp_seq_k (fun K13 hK12 => ?_)
  refine sr fun K hK => ?_
  have hre : rightE e = true := by simpa using h5
  have hty := right_type hre
  have hal := right_args hre
  replace hlo := hlo hre
  refine rn 3 HE HS ?_; clear HE HS; intro a w HE HS
  apply hK; clear hK K
  refine cond HE rfl (fun h15r => ?_) (fun h15r => ?_)
  ·have h15 := nm h15r
   replace HE := HE.cut (L' := [(0, .agg #[.int .i64 e.time, .int .i64 e.client.k, .int .i64 e.client.n, str e.client.s, .int .i64 e.type, .int .i64 e.model, .int .i64 e.key.k, .int .i64 e.key.n, str e.key.s, .int .i64 e.op, .slice A1e e.args.length c1e, .slice A2e e.out.length c2e, .bool e.noted, str e.note]), (1, .pointer (some ⟨B1, 0, none⟩)), (2, str []), (3, .slice oA11 (([Lib.itoa e.time, printV e.client, (namedW.getD e.type.toNat [])]).length) oc11), (9, .agg #[.int .i64 e.time, .int .i64 e.client.k, .int .i64 e.client.n, str e.client.s, .int .i64 e.type, .int .i64 e.model, .int .i64 e.key.k, .int .i64 e.key.n, str e.key.s, .int .i64 e.op, .slice A1e e.args.length c1e, .slice A2e e.out.length c2e, .bool e.noted, str e.note]), (10, .bool (rightE e)), (11, .bool (!(rightE e))), (14, str (Lib.itoa e.time)), (17, str (printV e.client)), (21, str (namedW.getD e.type.toNat [])), (22, .slice oA11 (([Lib.itoa e.time, printV e.client, (namedW.getD e.type.toNat [])]).length) oc11), (23, .pointer (some ⟨B1, 4, none⟩)), (24, .int .i64 e.type), (25, .bool (decide (e.type = 1)))]) ⟨rfl, rfl, rfl, rfl, rfl, rfl, rfl, rfl, rfl, rfl, rfl, rfl, rfl, rfl, trivial⟩
   refine drawnSeq 11 (fun f G' w => Heap.le G G' ∧ St w0 G [] G' w [oC11, [(B1, Cells 26 [(0, .int .i64 e.time), (1, .int .i64 e.client.k), (2, .int .i64 e.client.n), (3, str e.client.s), (4, .int .i64 e.type), (5, .int .i64 e.model), (6, .int .i64 e.key.k), (7, .int .i64 e.key.n), (8, str e.key.s), (9, .int .i64 e.op), (10, .slice A1e e.args.length c1e), (11, .slice A2e e.out.length c2e), (12, .bool e.noted), (13, str e.note)])]]) [fun v _ => v = .slice oA11 (([Lib.itoa e.time, printV e.client, (namedW.getD e.type.toNat [])]).length) oc11, fun v _ => v = .pointer (some ⟨B1, 5, none⟩), fun v _ => v = .int .i64 e.model, fun v _ => v = str (mnameS e.model), fun v _ => v = .pointer (some ⟨B1, 6, none⟩), fun v _ => v = .agg #[.int .i64 e.key.k, .int .i64 e.key.n, str e.key.s], fun v _ => v = str (printV e.key), fun v _ => v = .pointer (some ⟨B1, 9, none⟩), fun v _ => v = .int .i64 e.op, fun v _ => v = str (onameS e.op), fun v G' => ∃ Ad c, v = .slice Ad 3 c ∧ 3 ≤ c ∧ Rd Knd.s G' Ad [(mnameS e.model), printV e.key, (onameS e.op)]] T.mix rfl (by kernel_rfl) HE ⟨Heap.le.refl _, HS.drew⟩ rfl (AllM.get ⟨fun _ _ _ _ h => h, fun _ _ _ _ h => h, fun _ _ _ _ h => h, fun _ _ _ _ h => h, fun _ _ _ _ h => h, fun _ _ _ _ h => h, fun _ _ _ _ h => h, fun _ _ _ _ h => h, fun _ _ _ _ h => h, fun _ _ _ _ h => h, fun _ _ _ h hx => SlV.mono h hx, trivial⟩) ⟨?_, ?_, ?_, ?_, ?_, ?_, ?_, ?_, ?_, ?_, ?_, trivial⟩ ?_
   ·intro a w G1 f hcl hfi hon hW HE hp hO; obtain ⟨hl, HS⟩ := hW
    refine o_move HE rfl rfl ?_; clear HE; intro a HE
    exact ⟨_, _, Heap.le.refl _, ⟨hl, HS⟩, fun d hd => (by cases hd; exact HE.get _ _ rfl), HE.defers, rfl⟩
   ·intro a w G1 f hcl hfi hon hW HE hp hO; obtain ⟨hl, HS⟩ := hW
    refine o_fld HE rfl rfl T.f26_3 ?_; clear HE; intro a HE
    exact ⟨_, _, Heap.le.refl _, ⟨hl, HS⟩, fun d hd => (by cases hd; exact HE.get _ _ rfl), HE.defers, rfl⟩
   ·intro a w G1 f hcl hfi hon hW HE hp hO; obtain ⟨hl, HS⟩ := hW
    obtain ⟨_, e1, rfl⟩ := hp 1 27 _ (hon 1 rfl) rfl rfl; replace HE := HE.add e1
    refine o_ld HE rfl HS rfl T.s3 (.there (.here .here)) rfl ?_; clear HE; intro a HE
    exact ⟨_, _, Heap.le.refl _, ⟨hl, HS⟩, fun d hd => (by cases hd; exact HE.get _ _ rfl), HE.defers, rfl⟩
   ·intro a w G1 f hcl hfi hon hW HE hp hO; obtain ⟨hl, HS⟩ := hW
    obtain ⟨_, e2, rfl⟩ := hp 2 28 _ (hon 2 rfl) rfl rfl; replace HE := HE.add e2
    refine o_callP HE rfl HS rfl rfl T.g28 (c_modname e.model _ _ HS.sub (hgm.le hl)) ?_
    clear HE HS; rintro _ w a HS rfl HE
    exact ⟨_, _, Heap.le.refl _, ⟨hl, HS⟩, fun d hd => (by cases hd; exact HE.get _ _ rfl), HE.defers, rfl⟩
   ·intro a w G1 f hcl hfi hon hW HE hp hO; obtain ⟨hl, HS⟩ := hW
    refine o_fld HE rfl rfl T.f26_4 ?_; clear HE; intro a HE
    exact ⟨_, _, Heap.le.refl _, ⟨hl, HS⟩, fun d hd => (by cases hd; exact HE.get _ _ rfl), HE.defers, rfl⟩
   ·intro a w G1 f hcl hfi hon hW HE hp hO; obtain ⟨hl, HS⟩ := hW
    obtain ⟨_, e4, rfl⟩ := hp 4 30 _ (hon 4 rfl) rfl rfl; replace HE := HE.add e4
    refine o_ldA HE rfl HS rfl T.a23 (.there (.here .here)) rfl ?_; clear HE; intro a HE
    exact ⟨_, _, Heap.le.refl _, ⟨hl, HS⟩, fun d hd => (by cases hd; exact HE.get _ _ rfl), HE.defers, rfl⟩
   ·intro a w G1 f hcl hfi hon hW HE hp hO; obtain ⟨hl, HS⟩ := hW
    obtain ⟨_, e5, rfl⟩ := hp 5 31 _ (hon 5 rfl) rfl rfl; replace HE := HE.add e5
    refine o_callP HE rfl HS rfl rfl T.g27 (c_print7 e.key _ _ HS.sub (hg0.le hl) (hg1.le hl) (hT.le hl) (by first | assumption | exact hv | (constructor <;> first | assumption | (simp only [I64]; omega) | (simp; omega)))) ?_
    clear HE HS; rintro _ w a HS rfl HE
    exact ⟨_, _, Heap.le.refl _, ⟨hl, HS⟩, fun d hd => (by cases hd; exact HE.get _ _ rfl), HE.defers, rfl⟩
   ·intro a w G1 f hcl hfi hon hW HE hp hO; obtain ⟨hl, HS⟩ := hW
    refine o_fld HE rfl rfl T.f26_5 ?_; clear HE; intro a HE
    exact ⟨_, _, Heap.le.refl _, ⟨hl, HS⟩, fun d hd => (by cases hd; exact HE.get _ _ rfl), HE.defers, rfl⟩
   ·intro a w G1 f hcl hfi hon hW HE hp hO; obtain ⟨hl, HS⟩ := hW
    obtain ⟨_, e7, rfl⟩ := hp 7 33 _ (hon 7 rfl) rfl rfl; replace HE := HE.add e7
    refine o_ld HE rfl HS rfl T.s3 (.there (.here .here)) rfl ?_; clear HE; intro a HE
    exact ⟨_, _, Heap.le.refl _, ⟨hl, HS⟩, fun d hd => (by cases hd; exact HE.get _ _ rfl), HE.defers, rfl⟩
   ·intro a w G1 f hcl hfi hon hW HE hp hO; obtain ⟨hl, HS⟩ := hW
    obtain ⟨_, e8, rfl⟩ := hp 8 34 _ (hon 8 rfl) rfl rfl; replace HE := HE.add e8
    refine o_callP HE rfl HS rfl rfl T.g29 (c_opname e.op _ _ HS.sub (hgo.le hl)) ?_
    clear HE HS; rintro _ w a HS rfl HE
    exact ⟨_, _, Heap.le.refl _, ⟨hl, HS⟩, fun d hd => (by cases hd; exact HE.get _ _ rfl), HE.defers, rfl⟩
   ·intro a w G1 f hcl hfi hon hW HE hp hO; obtain ⟨hl, HS⟩ := hW
    obtain ⟨_, e3, rfl⟩ := hp 3 29 _ (hon 3 rfl) rfl rfl; replace HE := HE.add e3
    obtain ⟨_, e6, rfl⟩ := hp 6 32 _ (hon 6 rfl) rfl rfl; replace HE := HE.add e6
    obtain ⟨_, e9, rfl⟩ := hp 9 35 _ (hon 9 rfl) rfl rfl; replace HE := HE.add e9
    refine o_buildSl (cs := #[str (mnameS e.model), str (printV e.key), str (onameS e.op)]) [(0, _), (1, _), (2, _)] HE rfl HS rfl T.l53 (by kernel_rfl) ⟨rfl, rfl, rfl, trivial⟩ ?_; clear HE HS; intro B36 w a HS HE
    obtain ⟨G2, hle2, hC2, HS'⟩ := HS.stillHead (n := 3) rfl
    exact ⟨_, G2, hle2, ⟨hl.trans hle2, HS'⟩, fun d hd => (by cases hd; exact HE.get _ _ rfl), HE.defers, ⟨_, _, rfl, Nat.le_refl _, Rd.ofCells hC2 ⟨rfl, rfl, rfl, rfl⟩⟩⟩
   clear HE HS; intro a w G16 f hle17 hall HW HE hp; obtain ⟨_, HS⟩ := HW
   replace hg0 := hg0.le hle17
   replace hg1 := hg1.le hle17
   replace hgm := hgm.le hle17
   replace hgo := hgo.le hle17
   replace hgn := hgn.le hle17
   replace hT := hT.le hle17
   replace hr1e := hr1e.le hle17
   replace hr2e := hr2e.le hle17
   replace oH11 := oH11.le hle17
   obtain ⟨_, e0, rfl⟩ := hp 0 26 _ rfl rfl; replace HE := HE.add e0
   obtain ⟨_, e10, vA10, vc10, rfl, hcp10, hQ10⟩ := hp 10 36 _ rfl rfl; replace HE := HE.add e10
   clear hp hall
   refine o_append (K := Knd.s) HE rfl HS .here oH11 rfl rfl T.p53 hQ10 s_one (by (simp only [List.length_append, List.length_cons, List.length_nil, List.length_map, List.length_take]; omega)) (by (simp only [List.length_append, List.length_cons, List.length_nil, List.length_map, List.length_take]; omega)) ?_
   clear HE HS; intro oA18 oc18 oC18 w a HS oH18 HE
   refine o_assign HE rfl rfl ?_; clear HE; intro a HE
   refine hK12 _ _ ?_; clear hK12
   refine wp_seq_k (fun K20 hK19 => ?_)
   refine sr fun K hK => ?_
   refine rn 4 HE HS ?_; clear HE HS; intro a w HE HS
   refine o_build (cs := #[.slice A1e e.args.length c1e, .slice A2e e.out.length c2e]) HE rfl rfl (by kernel_rfl) ?_; clear HE; intro a HE
   refine rn 1 HE HS ?_; clear HE HS; intro a w HE HS
   apply hK; clear hK K
   refine wp_block ?_
   refine wp_loop_rounds 3 ?_
   rw [rounds_succ]
   refine sr fun K hK => ?_
   refine rn 1 HE HS ?_; clear HE HS; intro a w HE HS
   apply hK; clear hK K
   refine wp_seq_k (fun K24 hK23 => ?_)
   refine cond HE rfl (fun h25r => ?_) (fun h25r => ?_)
   ·have h25 := nm h25r
    refine wp_skip ?_
    refine hK23 _ _ ?_; clear hK23
    refine wp_seq_k (fun K27 hK26 => ?_)
    refine wp_block ?_
    refine sr fun K hK => ?_
    refine o_ixV HE rfl rfl rfl T.r55 Tryz.underlying55 (by decide) rfl (.inl ⟨T.s24, rfl⟩) ?_; clear HE; intro a HE
    refine rn 1 HE HS ?_; clear HE HS; intro a w HE HS
    apply hK; clear hK K
    refine sr fun K hK => ?_
    refine rn 3 HE HS ?_; clear HE HS; intro a w HE HS
    apply hK; clear hK K
    refine wp_block ?_
    have hz : [Lib.itoa e.time, printV e.client, (namedW.getD e.type.toNat [])] ++ [(mnameS e.model), printV e.key, (onameS e.op)] = [Lib.itoa e.time, printV e.client, (namedW.getD e.type.toNat [])] ++ [(mnameS e.model), printV e.key, (onameS e.op)] ++ (e.args.take 0).map printV := by simp
    rw [hz] at HE oH18; clear hz
    refine loop (fun (i0 : Nat) a' w' => ∃ (oA3_2 : Option Addr) (oc3_2 : Nat) (oC3_2 : Chunk), St w0 G [] G16 w' [oC3_2, [(B1, Cells 26 [(0, .int .i64 e.time), (1, .int .i64 e.client.k), (2, .int .i64 e.client.n), (3, str e.client.s), (4, .int .i64 e.type), (5, .int .i64 e.model), (6, .int .i64 e.key.k), (7, .int .i64 e.key.n), (8, str e.key.s), (9, .int .i64 e.op), (10, .slice A1e e.args.length c1e), (11, .slice A2e e.out.length c2e), (12, .bool e.noted), (13, str e.note)])]] ∧ Env a' 69 [] [(1, .pointer (some ⟨B1, 0, none⟩)), (3, .slice oA3_2 (([Lib.itoa e.time, printV e.client, (namedW.getD e.type.toNat [])] ++ [(mnameS e.model), printV e.key, (onameS e.op)] ++ (e.args.take i0).map printV).length) oc3_2), (42, .agg #[.slice A1e e.args.length c1e, .slice A2e e.out.length c2e]), (43, .int .i64 0), (46, .slice A1e e.args.length c1e), (47, .int .i64 (e.args.length : Int)), (48, .int .i64 ((i0 : Nat) : Int))] ∧ X.Own Knd.s 9 G16 oA3_2 oc3_2 ([Lib.itoa e.time, printV e.client, (namedW.getD e.type.toNat [])] ++ [(mnameS e.model), printV e.key, (onameS e.op)] ++ (e.args.take i0).map printV) oC3_2 ∧ (i0 ≤ e.args.length)) (fun (i0 : Nat) => e.args.length - i0) 0 ⟨_, _, _, HS, HE.cut ⟨rfl, rfl, rfl, rfl, rfl, rfl, rfl, trivial⟩, oH18, Nat.zero_le _⟩ ?_
    clear HE HS; intro i0 a w ⟨oA3_2, oc3_2, oC3_2, HS, HE, oH3_2, hi0⟩
    refine sr fun K hK => ?_
    refine rn 1 HE HS ?_; clear HE HS; intro a w HE HS
    apply hK; clear hK K
    refine wp_seq_k (fun K33 hK32 => ?_)
    refine cond HE rfl (fun h34r => ?_) (fun h34r => ?_)
    ·have h34 := nm h34r
     refine wp_skip ?_
     refine hK32 _ _ ?_; clear hK32
     refine wp_seq_k (fun K36 hK35 => ?_)
     refine wp_block ?_
     refine sr fun K hK => ?_
     have hi37 : ((i0 : Nat) : Int).toNat < e.args.length := by omega
     obtain ⟨eb37, eo37, hA37, el37⟩ := Rd.at hr1e (List.getElem?_eq_getElem hi37); cases hA37
     rw [show e.args[((i0 : Nat) : Int).toNat] = (e.args.getD i0 ⟨0, 0, []⟩) from getD_get (i := i0) hi37 _] at el37
     have el37 := kVal_open el37
     refine o_ixL HE rfl rfl rfl T.l24 ⟨by omega, by omega⟩ ?_; clear HE; intro a HE
     refine o_ldIA HE rfl HS rfl el37 T.a23 ?_; clear HE; intro a HE
     refine o_allocZ HE rfl HS ?_; clear HE HS; intro B7 w a HS HE
     refine rn 1 HE HS ?_; clear HE HS; intro a w HE HS
     apply hK; clear hK K
     refine wp_region_lit ?_
     refine rn 2 HE HS ?_; clear HE HS; intro a w HE HS
     have hvw : (e.args.getD i0 ⟨0, 0, []⟩).Wf := hwe.args _ (val_mem (l := e.args) (i := i0) (by omega))
     refine o_callP HE rfl HS rfl rfl T.g27 (c_print7 (e.args.getD i0 ⟨0, 0, []⟩) _ _ HS.sub hg0 hg1 hT (by first | assumption | exact hv | (constructor <;> first | assumption | (simp only [I64]; omega) | (simp; omega)))) ?_
     clear HE HS; rintro _ w a HS rfl HE
     refine o_buildSl (cs := #[str (printV (e.args.getD i0 ⟨0, 0, []⟩))]) [(0, _)] HE rfl HS rfl T.l53 (by kernel_rfl) ⟨rfl, trivial⟩ ?_; clear HE HS; intro B55 w a HS HE
     refine o_appendL (K := Knd.s) (ys := [printV (e.args.getD i0 ⟨0, 0, []⟩)]) (n := 1) HE rfl HS (.there (.there .here)) oH3_2 rfl rfl T.p53 (.here .here) rfl ⟨rfl, rfl⟩ rfl rfl (by (simp only [List.length_append, List.length_cons, List.length_nil, List.length_map, List.length_take]; omega)) (by (simp only [List.length_append, List.length_cons, List.length_nil, List.length_map, List.length_take]; omega)) ?_
     clear HE HS; intro oA39 oc39 oC39 w a HS oH39 HE
     refine rn 1 HE HS ?_; clear HE HS; intro a w HE HS
     refine hK35 _ _ ?_; clear hK35
     refine wp_region_lit ?_
     refine rn 2 HE HS ?_; clear HE HS; intro a w HE HS
     replace HS := HS.drop (M' := [_, _]) (sub_keep (sub_drop (sub_drop (sub_keep sub_nil))))
     have hxs : (([Lib.itoa e.time, printV e.client, (namedW.getD e.type.toNat [])] ++ [(mnameS e.model), printV e.key, (onameS e.op)] ++ (e.args.take i0).map printV) ++ [printV (e.args.getD i0 ⟨0, 0, []⟩)]) = [Lib.itoa e.time, printV e.client, (namedW.getD e.type.toNat [])] ++ [(mnameS e.model), printV e.key, (onameS e.op)] ++ (e.args.take (i0 + 1)).map printV := by rw [List.append_assoc, map_take_step (by omega)]
     rw [hxs] at HE oH39; clear hxs
     exact ⟨i0 + 1, ⟨_, _, _, HS, HE.cut ⟨rfl, rfl, rfl, rfl, rfl, rfl, rfl, trivial⟩, oH39, by omega⟩, by omega⟩
    ·have h34 := nm h34r
     refine wp_exit ?_
     refine hK26 _ _ ?_; clear hK26
     refine wp_region_lit ?_
     refine rn 2 HE HS ?_; clear HE HS; intro a w HE HS
     show Code.rounds _ _ _ _ _ _
     replace HE := HE.cut (L' := [(1, .pointer (some ⟨B1, 0, none⟩)), (3, .slice oA3_2 (([Lib.itoa e.time, printV e.client, (namedW.getD e.type.toNat [])] ++ [(mnameS e.model), printV e.key, (onameS e.op)] ++ (e.args.take i0).map printV).length) oc3_2), (42, .agg #[.slice A1e e.args.length c1e, .slice A2e e.out.length c2e]), (43, .int .i64 1)]) ⟨rfl, rfl, rfl, rfl, trivial⟩
     rw [rounds_succ]
     refine sr fun K hK => ?_
     refine rn 1 HE HS ?_; clear HE HS; intro a w HE HS
     apply hK; clear hK K
     refine wp_seq_k (fun K42 hK41 => ?_)
     refine cond HE rfl (fun h43r => ?_) (fun h43r => ?_)
     ·have h43 := nm h43r
      refine wp_skip ?_
      refine hK41 _ _ ?_; clear hK41
      refine wp_seq_k (fun K45 hK44 => ?_)
      refine wp_block ?_
      refine sr fun K hK => ?_
      refine o_ixV HE rfl rfl rfl T.r55 Tryz.underlying55 (by decide) rfl (.inl ⟨T.s24, rfl⟩) ?_; clear HE; intro a HE
      refine rn 1 HE HS ?_; clear HE HS; intro a w HE HS
      apply hK; clear hK K
      refine sr fun K hK => ?_
      refine rn 3 HE HS ?_; clear HE HS; intro a w HE HS
      apply hK; clear hK K
      refine wp_block ?_
      have hz : ([Lib.itoa e.time, printV e.client, (namedW.getD e.type.toNat [])] ++ [(mnameS e.model), printV e.key, (onameS e.op)] ++ (e.args.take i0).map printV) = ([Lib.itoa e.time, printV e.client, (namedW.getD e.type.toNat [])] ++ [(mnameS e.model), printV e.key, (onameS e.op)] ++ (e.args.take i0).map printV) ++ (e.out.take 0).map printV := by simp
      rw [hz] at HE oH3_2; clear hz
      refine loop (fun (i1 : Nat) a' w' => ∃ (oA3_2 : Option Addr) (oc3_2 : Nat) (oC3_2 : Chunk), St w0 G [] G16 w' [oC3_2, [(B1, Cells 26 [(0, .int .i64 e.time), (1, .int .i64 e.client.k), (2, .int .i64 e.client.n), (3, str e.client.s), (4, .int .i64 e.type), (5, .int .i64 e.model), (6, .int .i64 e.key.k), (7, .int .i64 e.key.n), (8, str e.key.s), (9, .int .i64 e.op), (10, .slice A1e e.args.length c1e), (11, .slice A2e e.out.length c2e), (12, .bool e.noted), (13, str e.note)])]] ∧ Env a' 69 [] [(1, .pointer (some ⟨B1, 0, none⟩)), (3, .slice oA3_2 ((([Lib.itoa e.time, printV e.client, (namedW.getD e.type.toNat [])] ++ [(mnameS e.model), printV e.key, (onameS e.op)] ++ (e.args.take i0).map printV) ++ (e.out.take i1).map printV).length) oc3_2), (42, .agg #[.slice A1e e.args.length c1e, .slice A2e e.out.length c2e]), (43, .int .i64 1), (46, .slice A2e e.out.length c2e), (47, .int .i64 (e.out.length : Int)), (48, .int .i64 ((i1 : Nat) : Int))] ∧ X.Own Knd.s 9 G16 oA3_2 oc3_2 (([Lib.itoa e.time, printV e.client, (namedW.getD e.type.toNat [])] ++ [(mnameS e.model), printV e.key, (onameS e.op)] ++ (e.args.take i0).map printV) ++ (e.out.take i1).map printV) oC3_2 ∧ (i1 ≤ e.out.length)) (fun (i1 : Nat) => e.out.length - i1) 0 ⟨_, _, _, HS, HE.cut ⟨rfl, rfl, rfl, rfl, rfl, rfl, rfl, trivial⟩, oH3_2, Nat.zero_le _⟩ ?_
      clear HE HS; intro i1 a w ⟨oA3_2, oc3_2, oC3_2, HS, HE, oH3_2, hi1⟩
      refine sr fun K hK => ?_
      refine rn 1 HE HS ?_; clear HE HS; intro a w HE HS
      apply hK; clear hK K
      refine wp_seq_k (fun K51 hK50 => ?_)
      refine cond HE rfl (fun h52r => ?_) (fun h52r => ?_)
      ·have h52 := nm h52r
       refine wp_skip ?_
       refine hK50 _ _ ?_; clear hK50
       refine wp_seq_k (fun K54 hK53 => ?_)
       refine wp_block ?_
       refine sr fun K hK => ?_
       have hi55 : ((i1 : Nat) : Int).toNat < e.out.length := by omega
       obtain ⟨eb55, eo55, hA55, el55⟩ := Rd.at hr2e (List.getElem?_eq_getElem hi55); cases hA55
       rw [show e.out[((i1 : Nat) : Int).toNat] = (e.out.getD i1 ⟨0, 0, []⟩) from getD_get (i := i1) hi55 _] at el55
       have el55 := kVal_open el55
       refine o_ixL HE rfl rfl rfl T.l24 ⟨by omega, by omega⟩ ?_; clear HE; intro a HE
       refine o_ldIA HE rfl HS rfl el55 T.a23 ?_; clear HE; intro a HE
       refine o_allocZ HE rfl HS ?_; clear HE HS; intro B7 w a HS HE
       refine rn 1 HE HS ?_; clear HE HS; intro a w HE HS
       apply hK; clear hK K
       refine wp_region_lit ?_
       refine rn 2 HE HS ?_; clear HE HS; intro a w HE HS
       have hvw : (e.out.getD i1 ⟨0, 0, []⟩).Wf := hwe.out _ (val_mem (l := e.out) (i := i1) (by omega))
       refine o_callP HE rfl HS rfl rfl T.g27 (c_print7 (e.out.getD i1 ⟨0, 0, []⟩) _ _ HS.sub hg0 hg1 hT (by first | assumption | exact hv | (constructor <;> first | assumption | (simp only [I64]; omega) | (simp; omega)))) ?_
       clear HE HS; rintro _ w a HS rfl HE
       refine o_buildSl (cs := #[str (printV (e.out.getD i1 ⟨0, 0, []⟩))]) [(0, _)] HE rfl HS rfl T.l53 (by kernel_rfl) ⟨rfl, trivial⟩ ?_; clear HE HS; intro B55 w a HS HE
       refine o_appendL (K := Knd.s) (ys := [printV (e.out.getD i1 ⟨0, 0, []⟩)]) (n := 1) HE rfl HS (.there (.there .here)) oH3_2 rfl rfl T.p53 (.here .here) rfl ⟨rfl, rfl⟩ rfl rfl (by (simp only [List.length_append, List.length_cons, List.length_nil, List.length_map, List.length_take]; omega)) (by (simp only [List.length_append, List.length_cons, List.length_nil, List.length_map, List.length_take]; omega)) ?_
       clear HE HS; intro oA57 oc57 oC57 w a HS oH57 HE
       refine rn 1 HE HS ?_; clear HE HS; intro a w HE HS
       refine hK53 _ _ ?_; clear hK53
       refine wp_region_lit ?_
       refine rn 2 HE HS ?_; clear HE HS; intro a w HE HS
       replace HS := HS.drop (M' := [_, _]) (sub_keep (sub_drop (sub_drop (sub_keep sub_nil))))
       have hxs : ((([Lib.itoa e.time, printV e.client, (namedW.getD e.type.toNat [])] ++ [(mnameS e.model), printV e.key, (onameS e.op)] ++ (e.args.take i0).map printV) ++ (e.out.take i1).map printV) ++ [printV (e.out.getD i1 ⟨0, 0, []⟩)]) = ([Lib.itoa e.time, printV e.client, (namedW.getD e.type.toNat [])] ++ [(mnameS e.model), printV e.key, (onameS e.op)] ++ (e.args.take i0).map printV) ++ (e.out.take (i1 + 1)).map printV := by rw [List.append_assoc, map_take_step (by omega)]
       rw [hxs] at HE oH57; clear hxs
       exact ⟨i1 + 1, ⟨_, _, _, HS, HE.cut ⟨rfl, rfl, rfl, rfl, rfl, rfl, rfl, trivial⟩, oH57, by omega⟩, by omega⟩
      ·have h52 := nm h52r
       refine wp_exit ?_
       refine hK44 _ _ ?_; clear hK44
       refine wp_region_lit ?_
       refine rn 2 HE HS ?_; clear HE HS; intro a w HE HS
       show Code.rounds _ _ _ _ _ _
       replace HE := HE.cut (L' := [(1, .pointer (some ⟨B1, 0, none⟩)), (3, .slice oA3_2 ((([Lib.itoa e.time, printV e.client, (namedW.getD e.type.toNat [])] ++ [(mnameS e.model), printV e.key, (onameS e.op)] ++ (e.args.take i0).map printV) ++ (e.out.take i1).map printV).length) oc3_2), (42, .agg #[.slice A1e e.args.length c1e, .slice A2e e.out.length c2e]), (43, .int .i64 2)]) ⟨rfl, rfl, rfl, rfl, trivial⟩
       rw [rounds_succ]
       refine sr fun K hK => ?_
       refine rn 1 HE HS ?_; clear HE HS; intro a w HE HS
       apply hK; clear hK K
       refine wp_seq_k (fun K60 hK59 => ?_)
       refine cond HE rfl (fun h61r => ?_) (fun h61r => ?_)
       ·exact absurd h61r (by decide)
       ·have h61 := nm h61r
        refine wp_exit ?_
        refine hK19 _ _ ?_; clear hK19
        refine sr fun K hK => ?_
        have hi0e : i0 = e.args.length := by omega
        have hi1e : i1 = e.out.length := by omega
        have hxs : (([Lib.itoa e.time, printV e.client, (namedW.getD e.type.toNat [])] ++ [(mnameS e.model), printV e.key, (onameS e.op)] ++ (e.args.take i0).map printV) ++ (e.out.take i1).map printV) = wordsE e := by
         unfold wordsE
         rw [hi0e, hi1e, List.take_length, List.take_length, if_pos (by simpa using h15)]
         simp
        rw [hxs] at HE oH3_2; clear hxs
        have hwl := wordsE_len (e := e)
        have hjl := joinE_len hwe
        have hnt : e.note.length ≤ 100 := by have := (right_head hre).2.2; simp only [notedB, Bool.and_eq_true, decide_eq_true_eq] at this; omega
        refine rn 1 HE HS ?_; clear HE HS; intro a w HE HS
        have hcphR63 := oH3_2.cap
        obtain ⟨G62, hle64, HS', hR63⟩ := X.Own.still HS .here oH3_2; clear HS; have HS := HS'; clear HS'
        replace hg0 := hg0.le hle64
        replace hg1 := hg1.le hle64
        replace hgm := hgm.le hle64
        replace hgo := hgo.le hle64
        replace hgn := hgn.le hle64
        replace hT := hT.le hle64
        replace hr1e := hr1e.le hle64
        replace hr2e := hr2e.le hle64
        replace hQ10 := hQ10.le hle64
        refine o_callP HE rfl HS rfl rfl T.g30 (c_join8 (wordsE e) _ _ _ _ HS.sub hR63 (by assumption) (by first | omega | (have := wordsS_len s; omega)) (by omega)) ?_
        clear HE HS; rintro _ w a HS rfl HE
        refine rn 1 HE HS ?_; clear HE HS; intro a w HE HS
        apply hK; clear hK K
        refine wp_seq_k (fun K67 hK66 => ?_)
        refine sr fun K hK => ?_
        refine rn 2 HE HS ?_; clear HE HS; intro a w HE HS
        apply hK; clear hK K
        refine cond HE rfl (fun h69r => ?_) (fun h69r => ?_)
        ·have h69 := nm h69r
         refine wp_region_lit ?_
         refine rn 3 HE HS ?_; clear HE HS; intro a w HE HS
         refine o_cat HE rfl rfl rfl (by (simp only [List.length_append, List.length_cons, List.length_nil, List.length_map, List.length_take]; omega)) ?_; clear HE; intro a HE
         refine o_cat HE rfl rfl rfl (by (simp only [List.length_append, List.length_cons, List.length_nil, List.length_map, List.length_take]; omega)) ?_; clear HE; intro a HE
         refine rn 1 HE HS ?_; clear HE HS; intro a w HE HS
         refine hK66 _ _ ?_; clear hK66
         refine sr fun K hK => ?_
         refine rn 2 HE HS ?_; clear HE HS; intro a w HE HS
         apply hK; clear hK K
         refine rt hQ HE HS ?_
         have e2 : printE e = (Lib.join (wordsE e) [32]) ++ ([32, 59] ++ e.note) := by
          unfold printE
          rw [if_pos hre, if_pos (by simpa using h69)]
         show _ = _
         rw [e2]
         rfl
        ·have h69 := nm h69r
         refine wp_skip ?_
         refine hK66 _ _ ?_; clear hK66
         refine sr fun K hK => ?_
         refine rn 2 HE HS ?_; clear HE HS; intro a w HE HS
         apply hK; clear hK K
         refine rt hQ HE HS ?_
         have e2 : printE e = Lib.join (wordsE e) [32] := by
          unfold printE
          rw [if_pos hre, if_neg (by simpa using h69)]
          simp
         show _ = _
         rw [e2]
         rfl
     ·exact absurd h43r (by decide)
   ·exact absurd h25r (by decide)
  ·have h15 := nm h15r
   refine wp_skip ?_
   refine hK12 _ _ ?_; clear hK12
   refine wp_seq_k (fun K73 hK72 => ?_)
   refine sr fun K hK => ?_
   refine rn 4 HE HS ?_; clear HE HS; intro a w HE HS
   refine o_build (cs := #[.slice A1e e.args.length c1e, .slice A2e e.out.length c2e]) HE rfl rfl (by kernel_rfl) ?_; clear HE; intro a HE
   refine rn 1 HE HS ?_; clear HE HS; intro a w HE HS
   apply hK; clear hK K
   refine wp_block ?_
   refine wp_loop_rounds 3 ?_
   rw [rounds_succ]
   refine sr fun K hK => ?_
   refine rn 1 HE HS ?_; clear HE HS; intro a w HE HS
   apply hK; clear hK K
   refine wp_seq_k (fun K77 hK76 => ?_)
   refine cond HE rfl (fun h78r => ?_) (fun h78r => ?_)
   ·have h78 := nm h78r
    refine wp_skip ?_
    refine hK76 _ _ ?_; clear hK76
    refine wp_seq_k (fun K80 hK79 => ?_)
    refine wp_block ?_
    refine sr fun K hK => ?_
    refine o_ixV HE rfl rfl rfl T.r55 Tryz.underlying55 (by decide) rfl (.inl ⟨T.s24, rfl⟩) ?_; clear HE; intro a HE
    refine rn 1 HE HS ?_; clear HE HS; intro a w HE HS
    apply hK; clear hK K
    refine sr fun K hK => ?_
    refine rn 3 HE HS ?_; clear HE HS; intro a w HE HS
    apply hK; clear hK K
    refine wp_block ?_
    have hz : [Lib.itoa e.time, printV e.client, (namedW.getD e.type.toNat [])] = [Lib.itoa e.time, printV e.client, (namedW.getD e.type.toNat [])] ++ (e.args.take 0).map printV := by simp
    rw [hz] at HE oH11; clear hz
    refine loop (fun (i0 : Nat) a' w' => ∃ (oA3_2 : Option Addr) (oc3_2 : Nat) (oC3_2 : Chunk), St w0 G [] G w' [oC3_2, [(B1, Cells 26 [(0, .int .i64 e.time), (1, .int .i64 e.client.k), (2, .int .i64 e.client.n), (3, str e.client.s), (4, .int .i64 e.type), (5, .int .i64 e.model), (6, .int .i64 e.key.k), (7, .int .i64 e.key.n), (8, str e.key.s), (9, .int .i64 e.op), (10, .slice A1e e.args.length c1e), (11, .slice A2e e.out.length c2e), (12, .bool e.noted), (13, str e.note)])]] ∧ Env a' 69 [] [(1, .pointer (some ⟨B1, 0, none⟩)), (3, .slice oA3_2 (([Lib.itoa e.time, printV e.client, (namedW.getD e.type.toNat [])] ++ (e.args.take i0).map printV).length) oc3_2), (42, .agg #[.slice A1e e.args.length c1e, .slice A2e e.out.length c2e]), (43, .int .i64 0), (46, .slice A1e e.args.length c1e), (47, .int .i64 (e.args.length : Int)), (48, .int .i64 ((i0 : Nat) : Int))] ∧ X.Own Knd.s 9 G oA3_2 oc3_2 ([Lib.itoa e.time, printV e.client, (namedW.getD e.type.toNat [])] ++ (e.args.take i0).map printV) oC3_2 ∧ (i0 ≤ e.args.length)) (fun (i0 : Nat) => e.args.length - i0) 0 ⟨_, _, _, HS, HE.cut ⟨rfl, rfl, rfl, rfl, rfl, rfl, rfl, trivial⟩, oH11, Nat.zero_le _⟩ ?_
    clear HE HS; intro i0 a w ⟨oA3_2, oc3_2, oC3_2, HS, HE, oH3_2, hi0⟩
    refine sr fun K hK => ?_
    refine rn 1 HE HS ?_; clear HE HS; intro a w HE HS
    apply hK; clear hK K
    refine wp_seq_k (fun K86 hK85 => ?_)
    refine cond HE rfl (fun h87r => ?_) (fun h87r => ?_)
    ·have h87 := nm h87r
     refine wp_skip ?_
     refine hK85 _ _ ?_; clear hK85
     refine wp_seq_k (fun K89 hK88 => ?_)
     refine wp_block ?_
     refine sr fun K hK => ?_
     have hi90 : ((i0 : Nat) : Int).toNat < e.args.length := by omega
     obtain ⟨eb90, eo90, hA90, el90⟩ := Rd.at hr1e (List.getElem?_eq_getElem hi90); cases hA90
     rw [show e.args[((i0 : Nat) : Int).toNat] = (e.args.getD i0 ⟨0, 0, []⟩) from getD_get (i := i0) hi90 _] at el90
     have el90 := kVal_open el90
     refine o_ixL HE rfl rfl rfl T.l24 ⟨by omega, by omega⟩ ?_; clear HE; intro a HE
     refine o_ldIA HE rfl HS rfl el90 T.a23 ?_; clear HE; intro a HE
     refine o_allocZ HE rfl HS ?_; clear HE HS; intro B7 w a HS HE
     refine rn 1 HE HS ?_; clear HE HS; intro a w HE HS
     apply hK; clear hK K
     refine wp_region_lit ?_
     refine rn 2 HE HS ?_; clear HE HS; intro a w HE HS
     have hvw : (e.args.getD i0 ⟨0, 0, []⟩).Wf := hwe.args _ (val_mem (l := e.args) (i := i0) (by omega))
     refine o_callP HE rfl HS rfl rfl T.g27 (c_print7 (e.args.getD i0 ⟨0, 0, []⟩) _ _ HS.sub hg0 hg1 hT (by first | assumption | exact hv | (constructor <;> first | assumption | (simp only [I64]; omega) | (simp; omega)))) ?_
     clear HE HS; rintro _ w a HS rfl HE
     refine o_buildSl (cs := #[str (printV (e.args.getD i0 ⟨0, 0, []⟩))]) [(0, _)] HE rfl HS rfl T.l53 (by kernel_rfl) ⟨rfl, trivial⟩ ?_; clear HE HS; intro B55 w a HS HE
     refine o_appendL (K := Knd.s) (ys := [printV (e.args.getD i0 ⟨0, 0, []⟩)]) (n := 1) HE rfl HS (.there (.there .here)) oH3_2 rfl rfl T.p53 (.here .here) rfl ⟨rfl, rfl⟩ rfl rfl (by (simp only [List.length_append, List.length_cons, List.length_nil, List.length_map, List.length_take]; omega)) (by (simp only [List.length_append, List.length_cons, List.length_nil, List.length_map, List.length_take]; omega)) ?_
     clear HE HS; intro oA92 oc92 oC92 w a HS oH92 HE
     refine rn 1 HE HS ?_; clear HE HS; intro a w HE HS
     refine hK88 _ _ ?_; clear hK88
     refine wp_region_lit ?_
     refine rn 2 HE HS ?_; clear HE HS; intro a w HE HS
     replace HS := HS.drop (M' := [_, _]) (sub_keep (sub_drop (sub_drop (sub_keep sub_nil))))
     have hxs : (([Lib.itoa e.time, printV e.client, (namedW.getD e.type.toNat [])] ++ (e.args.take i0).map printV) ++ [printV (e.args.getD i0 ⟨0, 0, []⟩)]) = [Lib.itoa e.time, printV e.client, (namedW.getD e.type.toNat [])] ++ (e.args.take (i0 + 1)).map printV := by rw [List.append_assoc, map_take_step (by omega)]
     rw [hxs] at HE oH92; clear hxs
     exact ⟨i0 + 1, ⟨_, _, _, HS, HE.cut ⟨rfl, rfl, rfl, rfl, rfl, rfl, rfl, trivial⟩, oH92, by omega⟩, by omega⟩
    ·have h87 := nm h87r
     refine wp_exit ?_
     refine hK79 _ _ ?_; clear hK79
     refine wp_region_lit ?_
     refine rn 2 HE HS ?_; clear HE HS; intro a w HE HS
     show Code.rounds _ _ _ _ _ _
     replace HE := HE.cut (L' := [(1, .pointer (some ⟨B1, 0, none⟩)), (3, .slice oA3_2 (([Lib.itoa e.time, printV e.client, (namedW.getD e.type.toNat [])] ++ (e.args.take i0).map printV).length) oc3_2), (42, .agg #[.slice A1e e.args.length c1e, .slice A2e e.out.length c2e]), (43, .int .i64 1)]) ⟨rfl, rfl, rfl, rfl, trivial⟩
     rw [rounds_succ]
     refine sr fun K hK => ?_
     refine rn 1 HE HS ?_; clear HE HS; intro a w HE HS
     apply hK; clear hK K
     refine wp_seq_k (fun K95 hK94 => ?_)
     refine cond HE rfl (fun h96r => ?_) (fun h96r => ?_)
     ·have h96 := nm h96r
      refine wp_skip ?_
      refine hK94 _ _ ?_; clear hK94
      refine wp_seq_k (fun K98 hK97 => ?_)
      refine wp_block ?_
      refine sr fun K hK => ?_
      refine o_ixV HE rfl rfl rfl T.r55 Tryz.underlying55 (by decide) rfl (.inl ⟨T.s24, rfl⟩) ?_; clear HE; intro a HE
      refine rn 1 HE HS ?_; clear HE HS; intro a w HE HS
      apply hK; clear hK K
      refine sr fun K hK => ?_
      refine rn 3 HE HS ?_; clear HE HS; intro a w HE HS
      apply hK; clear hK K
      refine wp_block ?_
      have hz : ([Lib.itoa e.time, printV e.client, (namedW.getD e.type.toNat [])] ++ (e.args.take i0).map printV) = ([Lib.itoa e.time, printV e.client, (namedW.getD e.type.toNat [])] ++ (e.args.take i0).map printV) ++ (e.out.take 0).map printV := by simp
      rw [hz] at HE oH3_2; clear hz
      refine loop (fun (i1 : Nat) a' w' => ∃ (oA3_2 : Option Addr) (oc3_2 : Nat) (oC3_2 : Chunk), St w0 G [] G w' [oC3_2, [(B1, Cells 26 [(0, .int .i64 e.time), (1, .int .i64 e.client.k), (2, .int .i64 e.client.n), (3, str e.client.s), (4, .int .i64 e.type), (5, .int .i64 e.model), (6, .int .i64 e.key.k), (7, .int .i64 e.key.n), (8, str e.key.s), (9, .int .i64 e.op), (10, .slice A1e e.args.length c1e), (11, .slice A2e e.out.length c2e), (12, .bool e.noted), (13, str e.note)])]] ∧ Env a' 69 [] [(1, .pointer (some ⟨B1, 0, none⟩)), (3, .slice oA3_2 ((([Lib.itoa e.time, printV e.client, (namedW.getD e.type.toNat [])] ++ (e.args.take i0).map printV) ++ (e.out.take i1).map printV).length) oc3_2), (42, .agg #[.slice A1e e.args.length c1e, .slice A2e e.out.length c2e]), (43, .int .i64 1), (46, .slice A2e e.out.length c2e), (47, .int .i64 (e.out.length : Int)), (48, .int .i64 ((i1 : Nat) : Int))] ∧ X.Own Knd.s 9 G oA3_2 oc3_2 (([Lib.itoa e.time, printV e.client, (namedW.getD e.type.toNat [])] ++ (e.args.take i0).map printV) ++ (e.out.take i1).map printV) oC3_2 ∧ (i1 ≤ e.out.length)) (fun (i1 : Nat) => e.out.length - i1) 0 ⟨_, _, _, HS, HE.cut ⟨rfl, rfl, rfl, rfl, rfl, rfl, rfl, trivial⟩, oH3_2, Nat.zero_le _⟩ ?_
      clear HE HS; intro i1 a w ⟨oA3_2, oc3_2, oC3_2, HS, HE, oH3_2, hi1⟩
      refine sr fun K hK => ?_
      refine rn 1 HE HS ?_; clear HE HS; intro a w HE HS
      apply hK; clear hK K
      refine wp_seq_k (fun K104 hK103 => ?_)
      refine cond HE rfl (fun h105r => ?_) (fun h105r => ?_)
      ·have h105 := nm h105r
       refine wp_skip ?_
       refine hK103 _ _ ?_; clear hK103
       refine wp_seq_k (fun K107 hK106 => ?_)
       refine wp_block ?_
       refine sr fun K hK => ?_
       have hi108 : ((i1 : Nat) : Int).toNat < e.out.length := by omega
       obtain ⟨eb108, eo108, hA108, el108⟩ := Rd.at hr2e (List.getElem?_eq_getElem hi108); cases hA108
       rw [show e.out[((i1 : Nat) : Int).toNat] = (e.out.getD i1 ⟨0, 0, []⟩) from getD_get (i := i1) hi108 _] at el108
       have el108 := kVal_open el108
       refine o_ixL HE rfl rfl rfl T.l24 ⟨by omega, by omega⟩ ?_; clear HE; intro a HE
       refine o_ldIA HE rfl HS rfl el108 T.a23 ?_; clear HE; intro a HE
       refine o_allocZ HE rfl HS ?_; clear HE HS; intro B7 w a HS HE
       refine rn 1 HE HS ?_; clear HE HS; intro a w HE HS
       apply hK; clear hK K
       refine wp_region_lit ?_
       refine rn 2 HE HS ?_; clear HE HS; intro a w HE HS
       have hvw : (e.out.getD i1 ⟨0, 0, []⟩).Wf := hwe.out _ (val_mem (l := e.out) (i := i1) (by omega))
       refine o_callP HE rfl HS rfl rfl T.g27 (c_print7 (e.out.getD i1 ⟨0, 0, []⟩) _ _ HS.sub hg0 hg1 hT (by first | assumption | exact hv | (constructor <;> first | assumption | (simp only [I64]; omega) | (simp; omega)))) ?_
       clear HE HS; rintro _ w a HS rfl HE
       refine o_buildSl (cs := #[str (printV (e.out.getD i1 ⟨0, 0, []⟩))]) [(0, _)] HE rfl HS rfl T.l53 (by kernel_rfl) ⟨rfl, trivial⟩ ?_; clear HE HS; intro B55 w a HS HE
       refine o_appendL (K := Knd.s) (ys := [printV (e.out.getD i1 ⟨0, 0, []⟩)]) (n := 1) HE rfl HS (.there (.there .here)) oH3_2 rfl rfl T.p53 (.here .here) rfl ⟨rfl, rfl⟩ rfl rfl (by (simp only [List.length_append, List.length_cons, List.length_nil, List.length_map, List.length_take]; omega)) (by (simp only [List.length_append, List.length_cons, List.length_nil, List.length_map, List.length_take]; omega)) ?_
       clear HE HS; intro oA110 oc110 oC110 w a HS oH110 HE
       refine rn 1 HE HS ?_; clear HE HS; intro a w HE HS
       refine hK106 _ _ ?_; clear hK106
       refine wp_region_lit ?_
       refine rn 2 HE HS ?_; clear HE HS; intro a w HE HS
       replace HS := HS.drop (M' := [_, _]) (sub_keep (sub_drop (sub_drop (sub_keep sub_nil))))
       have hxs : ((([Lib.itoa e.time, printV e.client, (namedW.getD e.type.toNat [])] ++ (e.args.take i0).map printV) ++ (e.out.take i1).map printV) ++ [printV (e.out.getD i1 ⟨0, 0, []⟩)]) = ([Lib.itoa e.time, printV e.client, (namedW.getD e.type.toNat [])] ++ (e.args.take i0).map printV) ++ (e.out.take (i1 + 1)).map printV := by rw [List.append_assoc, map_take_step (by omega)]
       rw [hxs] at HE oH110; clear hxs
       exact ⟨i1 + 1, ⟨_, _, _, HS, HE.cut ⟨rfl, rfl, rfl, rfl, rfl, rfl, rfl, trivial⟩, oH110, by omega⟩, by omega⟩
      ·have h105 := nm h105r
       refine wp_exit ?_
       refine hK97 _ _ ?_; clear hK97
       refine wp_region_lit ?_
       refine rn 2 HE HS ?_; clear HE HS; intro a w HE HS
       show Code.rounds _ _ _ _ _ _
       replace HE := HE.cut (L' := [(1, .pointer (some ⟨B1, 0, none⟩)), (3, .slice oA3_2 ((([Lib.itoa e.time, printV e.client, (namedW.getD e.type.toNat [])] ++ (e.args.take i0).map printV) ++ (e.out.take i1).map printV).length) oc3_2), (42, .agg #[.slice A1e e.args.length c1e, .slice A2e e.out.length c2e]), (43, .int .i64 2)]) ⟨rfl, rfl, rfl, rfl, trivial⟩
       rw [rounds_succ]
       refine sr fun K hK => ?_
       refine rn 1 HE HS ?_; clear HE HS; intro a w HE HS
       apply hK; clear hK K
       refine wp_seq_k (fun K113 hK112 => ?_)
       refine cond HE rfl (fun h114r => ?_) (fun h114r => ?_)
       ·exact absurd h114r (by decide)
       ·have h114 := nm h114r
        refine wp_exit ?_
        refine hK72 _ _ ?_; clear hK72
        refine sr fun K hK => ?_
        have hi0e : i0 = e.args.length := by omega
        have hi1e : i1 = e.out.length := by omega
        have hxs : (([Lib.itoa e.time, printV e.client, (namedW.getD e.type.toNat [])] ++ (e.args.take i0).map printV) ++ (e.out.take i1).map printV) = wordsE e := by
         unfold wordsE
         rw [hi0e, hi1e, List.take_length, List.take_length, if_neg (by simpa using h15)]
         simp
        rw [hxs] at HE oH3_2; clear hxs
        have hwl := wordsE_len (e := e)
        have hjl := joinE_len hwe
        have hnt : e.note.length ≤ 100 := by have := (right_head hre).2.2; simp only [notedB, Bool.and_eq_true, decide_eq_true_eq] at this; omega
        refine rn 1 HE HS ?_; clear HE HS; intro a w HE HS
        have hcphR116 := oH3_2.cap
        obtain ⟨G115, hle117, HS', hR116⟩ := X.Own.still HS .here oH3_2; clear HS; have HS := HS'; clear HS'
        replace hg0 := hg0.le hle117
        replace hg1 := hg1.le hle117
        replace hgm := hgm.le hle117
        replace hgo := hgo.le hle117
        replace hgn := hgn.le hle117
        replace hT := hT.le hle117
        replace hr1e := hr1e.le hle117
        replace hr2e := hr2e.le hle117
        refine o_callP HE rfl HS rfl rfl T.g30 (c_join8 (wordsE e) _ _ _ _ HS.sub hR116 (by assumption) (by first | omega | (have := wordsS_len s; omega)) (by omega)) ?_
        clear HE HS; rintro _ w a HS rfl HE
        refine rn 1 HE HS ?_; clear HE HS; intro a w HE HS
        apply hK; clear hK K
        refine wp_seq_k (fun K120 hK119 => ?_)
        refine sr fun K hK => ?_
        refine rn 2 HE HS ?_; clear HE HS; intro a w HE HS
        apply hK; clear hK K
        refine cond HE rfl (fun h122r => ?_) (fun h122r => ?_)
        ·have h122 := nm h122r
         refine wp_region_lit ?_
         refine rn 3 HE HS ?_; clear HE HS; intro a w HE HS
         refine o_cat HE rfl rfl rfl (by (simp only [List.length_append, List.length_cons, List.length_nil, List.length_map, List.length_take]; omega)) ?_; clear HE; intro a HE
         refine o_cat HE rfl rfl rfl (by (simp only [List.length_append, List.length_cons, List.length_nil, List.length_map, List.length_take]; omega)) ?_; clear HE; intro a HE
         refine rn 1 HE HS ?_; clear HE HS; intro a w HE HS
         refine hK119 _ _ ?_; clear hK119
         refine sr fun K hK => ?_
         refine rn 2 HE HS ?_; clear HE HS; intro a w HE HS
         apply hK; clear hK K
         refine rt hQ HE HS ?_
         have e2 : printE e = (Lib.join (wordsE e) [32]) ++ ([32, 59] ++ e.note) := by
          unfold printE
          rw [if_pos hre, if_pos (by simpa using h122)]
         show _ = _
         rw [e2]
         rfl
        ·have h122 := nm h122r
         refine wp_skip ?_
         refine hK119 _ _ ?_; clear hK119
         refine sr fun K hK => ?_
         refine rn 2 HE HS ?_; clear HE HS; intro a w HE HS
         apply hK; clear hK K
         refine rt hQ HE HS ?_
         have e2 : printE e = Lib.join (wordsE e) [32] := by
          unfold printE
          rw [if_pos hre, if_neg (by simpa using h122)]
          simp
         show _ = _
         rw [e2]
         rfl
     ·exact absurd h96r (by decide)
   ·exact absurd h78r (by decide)
end Go.Proofs.YtiinipcmghhacaaGreatDoor.T10
