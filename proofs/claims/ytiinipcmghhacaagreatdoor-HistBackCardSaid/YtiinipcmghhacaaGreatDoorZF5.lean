/- The reference's Right and Great walked. -/
import Derived.Test.YtiinipcmghhacaaGreatDoorZF4
set_option linter.unusedVariables false
set_option linter.unusedSimpArgs false
namespace Go.Proofs.YtiinipcmghhacaaGreatDoor.T10
open Go Go.Proofs.YtiinipcmghhacaaGreatDoor.X
theorem T.f86_0 : fieldOff Tryz.prog 86 0 = some 0 := by kernel_rfl
instance : FO Tryz.prog 86 0 0 := ⟨T.f86_0⟩
theorem T.f86_3 : fieldOff Tryz.prog 86 3 = some 3 := by kernel_rfl
instance : FO Tryz.prog 86 3 3 := ⟨T.f86_3⟩
theorem T.g24 : goFn Tryz.prog 24 = true := by kernel_rfl
theorem T.g47 : goFn Tryz.prog 47 = true := by kernel_rfl
theorem T.g48 : goFn Tryz.prog 48 = true := by kernel_rfl
theorem T.s44 : scal Tryz.prog 44 = true := by kernel_rfl
instance : SC Tryz.prog 44 := ⟨T.s44⟩

theorem name_takes (v : Val) : nameB v = takesB 0 v := by
  unfold nameB takesB
  cases rightV v <;> simp
theorem takes01 (v : Val) : takesB 1 v = takesB 0 v := by
  unfold takesB
  cases rightV v <;> simp
def fitsR (m o : Int) (l : List Val) : Bool := (argsD m o).2 && fitsL (argsD m o).1 l
theorem argsD_yes {m o : Int} (h : (findS m o).2 = true) : argsD m o = (doms (findS m o).1.ins, true) := by unfold argsD; rw [if_pos h]
theorem argsD_no {m o : Int} (h : (findS m o).2 = false) : argsD m o = ([], false) := by unfold argsD; rw [if_neg (by simp [h])]
theorem right_parts {e : Evt} {b : Bool} (h : b = rightE e) : b = rightE e := h
theorem nl_no {s : Bs} (h : ∀ j (hj : j < s.length), ¬ s[j] = 10) : decide (0 ≤ Lib.indexByte s 10) = false := by rw [idx_none h]; rfl
theorem nl_yes {s : Bs} {i : Nat} (hi : i < s.length) (h : s[i] = 10) : decide (0 ≤ Lib.indexByte s 10) = true := decide_eq_true (idx_pos hi h)
theorem head_bad {e : Evt} (h : ((((decide (e.time < 0)) || (!(nameB e.client))) || (decide (100 < (e.note.length : Int)))) || ((!e.noted) && (!(e.note == [])))) = true) : rightE e = false := by
  unfold rightE
  rw [if_pos]
  rw [name_takes] at h
  unfold notedB
  simp only [Bool.or_eq_true, Bool.and_eq_true, Bool.not_eq_true', decide_eq_true_eq, Bool.and_eq_false_iff, Bool.or_eq_false_iff, decide_eq_false_iff_not, Bool.not_eq_false'] at h ⊢
  rcases h with ((h | h) | h) | h
  · exact .inl (.inl h)
  · exact .inl (.inr h)
  · exact .inr (.inl (.inl (by omega)))
  · exact .inr (.inr h)
theorem note_bad {e : Evt} {i : Nat} (hi : i < e.note.length) (h : e.note[i] = 10) : rightE e = false := by
  unfold rightE
  rw [if_pos]
  unfold notedB
  rw [nl_yes hi h]
  simp
theorem head_good {e : Evt} (h : ((((decide (e.time < 0)) || (!(nameB e.client))) || (decide (100 < (e.note.length : Int)))) || ((!e.noted) && (!(e.note == [])))) = false) (hn : ∀ j (hj : j < e.note.length), ¬ e.note[j] = 10) : ((decide (e.time < 0) || !takesB 0 e.client) || !notedB e) = false := by
  rw [name_takes] at h
  unfold notedB
  rw [nl_no hn]
  simp only [Bool.or_eq_false_iff, Bool.and_eq_false_iff, Bool.not_eq_false', decide_eq_false_iff_not, Bool.and_eq_true, Bool.or_eq_true, decide_eq_true_eq, Bool.not_false, and_true] at h ⊢
  obtain ⟨⟨⟨h1, h2⟩, h3⟩, h4⟩ := h
  exact ⟨⟨h1, h2⟩, by omega, h4⟩
theorem right_one {e : Evt} (hd : ((decide (e.time < 0) || !takesB 0 e.client) || !notedB e) = false) (ht : e.type = 1) : rightE e = (((fitsR e.model e.op e.args) && (nameB e.key)) && (decide ((e.out.length : Int) = 0))) := by
  unfold rightE fitsR
  rw [if_neg (by rw [hd]; simp), if_pos ht, name_takes, takes01]
  cases (argsD e.model e.op).2 <;> cases takesB 0 e.key <;> simp
theorem right_bad {e : Evt} (hd : ((decide (e.time < 0) || !takesB 0 e.client) || !notedB e) = false) (ht : ¬ e.type = 1)
    (h : ((((((decide (e.type < 2)) || (decide (4 < e.type))) || (!decide (e.model = 0))) || (!decide (e.op = 0))) || (!(decide (e.key.k = 0) && (decide (e.key.n = 0) && (e.key.s == [] && true))))) || (decide (0 < (e.args.length : Int)))) = true) : rightE e = false := by
  unfold rightE
  rw [if_neg (by rw [hd]; simp), if_neg ht]
  split
  · rfl
  · rename_i h2
    simp only [Bool.or_eq_true, not_or] at h h2
    have ho : e.type < 2 ∨ 4 < e.type := by
      rcases h with ((((h | h) | h) | h) | h) | h
      · exact .inl (of_decide_eq_true h)
      · exact .inr (of_decide_eq_true h)
      · exact absurd h h2.1.1.1
      · exact absurd h h2.1.1.2
      · exact absurd h h2.1.2
      · exact absurd h h2.2
    rw [decide_eq_false (by omega : ¬ e.type = 2), decide_eq_false (by omega : ¬ e.type = 3), decide_eq_false (by omega : ¬ e.type = 4)]
    simp
theorem right_rest {e : Evt} (hd : ((decide (e.time < 0) || !takesB 0 e.client) || !notedB e) = false) (ht : ¬ e.type = 1)
    (h : ((((((decide (e.type < 2)) || (decide (4 < e.type))) || (!decide (e.model = 0))) || (!decide (e.op = 0))) || (!(decide (e.key.k = 0) && (decide (e.key.n = 0) && (e.key.s == [] && true))))) || (decide (0 < (e.args.length : Int)))) = false) : rightE e = (e.out.all rightV && ((decide (e.type = 2)) || (decide ((e.out.length : Int) = 0)))) := by
  unfold rightE
  rw [if_neg (by rw [hd]; simp), if_neg ht]
  simp only [Bool.or_eq_false_iff] at h
  obtain ⟨⟨⟨⟨⟨h1, h2⟩, h3⟩, h4⟩, h5⟩, h6⟩ := h
  rw [if_neg (by rw [h3, h4, h5, h6]; simp)]
  have h1' := of_decide_eq_false h1
  have h2' := of_decide_eq_false h2
  have : e.type = 2 ∨ e.type = 3 ∨ e.type = 4 := by omega
  rcases this with e1 | e1 | e1 <;> rw [e1] <;> simp
theorem printE_len {e : Evt} (hw : e.Wf) (h : rightE e = true) (ho : e.out.length ≤ 2000) : (printE e).length ≤ 100000 := by
  have h1 := joinE_len hw
  have h2 := right_args h
  have h3 := (right_key h).2.2
  unfold printE
  rw [if_pos h]
  split
  · simp only [List.length_append, List.length_cons, List.length_nil]; omega
  · simp only [List.length_append, List.length_nil]; omega
/-! `incognito/incognitoref09.Fits` -/
set_option maxRecDepth 100000 in
set_option maxHeartbeats 4000000 in
theorem c_Fits9 (m o : Int) (l : List Val) (Av : Option Addr) (cv : Nat) (w0 : World) (G : Heap) (hG : Sub G w0) (hRv : Rd kVal G Av l) (hll : l.length ≤ 9223372036854775807) (hwl : ∀ v ∈ l, v.Wf):
  Calls Tryz.prog 24 #[.int .i64 m, .int .i64 o, .slice Av l.length cv] w0 (Ret w0 G (fun v _ => v = .bool (fitsR m o l))) := by
 refine enter Tryz.func24 rfl Tryz.ntmps24 rfl ?_
 intro Q hQ a HE
 have HS := St.start0 hG
 refine sr fun K hK => ?_
 refine rn 1 HE HS ?_; clear HE HS; intro a w HE HS
 apply hK; clear hK K
 refine sr fun K hK => ?_
 refine rn 2 HE HS ?_; clear HE HS; intro a w HE HS
 refine o_call HE rfl HS rfl rfl T.g47 (c_Find9 m o _ _ HS.sub) ?_
 clear HE HS; rintro _ G2 w a HS hle2 ⟨vA2, vc2, rfl, hcp2, hR2⟩ HE
 replace hRv := hRv.le hle2
 refine o_allocZ HE rfl HS ?_; clear HE HS; intro B7 w a HS HE
 refine rn 1 HE HS ?_; clear HE HS; intro a w HE HS
 apply hK; clear hK K
 refine wp_seq_k (fun K5 hK4 => ?_)
 refine sr fun K hK => ?_
 refine rn 4 HE HS ?_; clear HE HS; intro a w HE HS
 refine cutG 7 22 (.bool ((!((findS m o).2)) || (!decide ((l.length : Int) = ((doms (findS m o).1.ins).length : Int))))) HE HS ?_ ?_
 ·refine bsp HE (t := 15) rfl (fun hb6 => ?_) (fun hb6 => ?_)
  ·skip
   refine rn 7 HE HS ?_; clear HE HS; intro a w HE HS
   exact ⟨HS, HE.cutT (by rw [hb6] <;> rfl)⟩
  ·have hk7 := nm hb6
   refine rn 7 HE HS ?_; clear HE HS; intro a w HE HS
   exact ⟨HS, HE.cutT (by rw [hb6] <;> rfl)⟩
 clear HE HS; intro a w HE HS
 apply hK; clear hK K
 refine cond HE rfl (fun h9r => ?_) (fun h9r => ?_)
 ·have h9 := nm h9r
  refine sr fun K hK => ?_
  refine rn 1 HE HS ?_; clear HE HS; intro a w HE HS
  apply hK; clear hK K
  refine rt hQ HE HS ?_
  have e : fitsR m o l = false := by
   unfold fitsR
   cases hf : (findS m o).2 with
   | false => rw [argsD_no hf]; rfl
   | true =>
    rw [argsD_yes hf]
    show (true && fitsL (doms (findS m o).1.ins) l) = false
    rw [fitsL_ne (by have := h9; rw [hf] at this; simp at this; omega)]
    rfl
  show _ = _
  rw [e]
  rfl
 ·have h9 := nm h9r
  refine wp_skip ?_
  refine hK4 _ _ ?_; clear hK4
  refine wp_seq_k (fun K12 hK11 => ?_)
  refine sr fun K hK => ?_
  refine rn 1 HE HS ?_; clear HE HS; intro a w HE HS
  apply hK; clear hK K
  refine wp_block ?_
  have hyes : (findS m o).2 = true := h9.1
  have hlen : (doms (findS m o).1.ins).length = l.length := by have := h9.2; omega
  refine loop (fun (i : Nat) a' w' => St w0 G [] G2 w' [[(B7, Cells 86 [(0, .slice vA2 ((doms (findS m o).1.ins).length) vc2), (1, .int .i64 ((findS m o).1.out)), (2, .bool ((findS m o).1.may)), (3, .bool ((findS m o).2))])]] ∧ Env a' 40 [] [(0, .int .i64 m), (1, .int .i64 o), (2, .slice Av l.length cv), (7, .pointer (some ⟨B7, 0, none⟩)), (8, .int .i64 ((i : Nat) : Int))] ∧ (i ≤ l.length ∧ fitsL (doms (findS m o).1.ins) l = fitsL ((doms (findS m o).1.ins).drop i) (l.drop i))) (fun (i : Nat) => l.length - i) 0 ⟨HS, HE.cut ⟨rfl, rfl, rfl, rfl, rfl, trivial⟩, ⟨Nat.zero_le _, rfl⟩⟩ ?_
  clear HE HS; intro i a w ⟨HS, HE, ⟨hi, hfi⟩⟩
  refine wp_seq_k (fun K16 hK15 => ?_)
  refine sr fun K hK => ?_
  refine rn 4 HE HS ?_; clear HE HS; intro a w HE HS
  apply hK; clear hK K
  refine cond HE rfl (fun h18r => ?_) (fun h18r => ?_)
  ·have h18 := nm h18r
   refine wp_skip ?_
   refine hK15 _ _ ?_; clear hK15
   refine wp_seq_k (fun K20 hK19 => ?_)
   refine wp_block ?_
   refine wp_seq_k (fun K22 hK21 => ?_)
   have hi23 : ((i : Nat) : Int).toNat < (doms (findS m o).1.ins).length := by omega
   obtain ⟨eb23, eo23, hA23, el23⟩ := Rd.at hR2 (List.getElem?_eq_getElem hi23); cases hA23
   rw [show (doms (findS m o).1.ins)[((i : Nat) : Int).toNat] = ((doms (findS m o).1.ins).getD i 0) from getD_get (i := i) hi23 _] at el23
   have el23 := kof_open el23
   have hi24 : ((i : Nat) : Int).toNat < l.length := by omega
   obtain ⟨eb24, eo24, hA24, el24⟩ := Rd.at hRv (List.getElem?_eq_getElem hi24); cases hA24
   rw [show l[((i : Nat) : Int).toNat] = (l.getD i ⟨0, 0, []⟩) from getD_get (i := i) hi24 _] at el24
   have el24 := kVal_open el24
   have hvw : (l.getD i ⟨0, 0, []⟩).Wf := hwl _ (val_mem (l := l) (i := i) (by omega))
   refine drawnP [fun v => v = .pointer (some ⟨B7, 0, none⟩), fun v => v = .slice (some ⟨eb23, eo23, none⟩) ((doms (findS m o).1.ins).length) vc2, fun v => v = .int .i64 ((i : Nat) : Int), fun v => v = .pointer (some ⟨eb23, eo23 + ((i : Nat) : Int).toNat * 1, none⟩), fun v => v = .int .i64 ((doms (findS m o).1.ins).getD i 0), fun v => v = .slice (some ⟨eb24, eo24, none⟩) l.length cv, fun v => v = .int .i64 ((i : Nat) : Int), fun v => v = .pointer (some ⟨eb24, eo24 + ((i : Nat) : Int).toNat * 3, none⟩), fun v => v = .agg #[.int .i64 ((l.getD i ⟨0, 0, []⟩).k), .int .i64 ((l.getD i ⟨0, 0, []⟩).n), str ((l.getD i ⟨0, 0, []⟩).s)], fun v => v = .bool (takesB ((doms (findS m o).1.ins).getD i 0) (l.getD i ⟨0, 0, []⟩)), fun v => v = .bool (!(takesB ((doms (findS m o).1.ins).getD i 0) (l.getD i ⟨0, 0, []⟩)))] T.mix rfl HE HS rfl ⟨?_, ?_, ?_, ?_, ?_, ?_, ?_, ?_, ?_, ?_, ?_, trivial⟩ ?_
   ·intro a w G1 hl HS HE hp
    refine o_fld HE rfl rfl T.f86_0 ?_; clear HE; intro a HE
    exact ⟨_, _, HS, rfl, HE.get _ _ rfl, HE.defers, rfl⟩
   ·intro a w G1 hl HS HE hp
    obtain ⟨_, e0, rfl⟩ := hp 0 29 _ rfl rfl rfl; replace HE := HE.add e0
    refine o_ld HE rfl HS rfl T.s44 (.here .here) rfl ?_; clear HE; intro a HE
    exact ⟨_, _, HS, rfl, HE.get _ _ rfl, HE.defers, rfl⟩
   ·intro a w G1 hl HS HE hp
    refine o_move HE rfl rfl ?_; clear HE; intro a HE
    exact ⟨_, _, HS, rfl, HE.get _ _ rfl, HE.defers, rfl⟩
   ·intro a w G1 hl HS HE hp
    obtain ⟨_, e1, rfl⟩ := hp 1 30 _ rfl rfl rfl; replace HE := HE.add e1
    obtain ⟨_, e2, rfl⟩ := hp 2 31 _ rfl rfl rfl; replace HE := HE.add e2
    refine o_ixL HE rfl rfl rfl T.l44 ⟨by omega, by omega⟩ ?_; clear HE; intro a HE
    exact ⟨_, _, HS, rfl, HE.get _ _ rfl, HE.defers, rfl⟩
   ·intro a w G1 hl HS HE hp
    obtain ⟨_, e3, rfl⟩ := hp 3 32 _ rfl rfl rfl; replace HE := HE.add e3
    refine o_ldI HE rfl HS rfl T.s3 (el23.le hl) (j := 0) rfl rfl ?_; clear HE; intro a HE
    exact ⟨_, _, HS, rfl, HE.get _ _ rfl, HE.defers, rfl⟩
   ·intro a w G1 hl HS HE hp
    refine o_move HE rfl rfl ?_; clear HE; intro a HE
    exact ⟨_, _, HS, rfl, HE.get _ _ rfl, HE.defers, rfl⟩
   ·intro a w G1 hl HS HE hp
    refine o_move HE rfl rfl ?_; clear HE; intro a HE
    exact ⟨_, _, HS, rfl, HE.get _ _ rfl, HE.defers, rfl⟩
   ·intro a w G1 hl HS HE hp
    obtain ⟨_, e5, rfl⟩ := hp 5 34 _ rfl rfl rfl; replace HE := HE.add e5
    obtain ⟨_, e6, rfl⟩ := hp 6 35 _ rfl rfl rfl; replace HE := HE.add e6
    refine o_ixL HE rfl rfl rfl T.l24 ⟨by omega, by omega⟩ ?_; clear HE; intro a HE
    exact ⟨_, _, HS, rfl, HE.get _ _ rfl, HE.defers, rfl⟩
   ·intro a w G1 hl HS HE hp
    obtain ⟨_, e7, rfl⟩ := hp 7 36 _ rfl rfl rfl; replace HE := HE.add e7
    refine o_ldIA HE rfl HS rfl (el24.le hl) T.a23 ?_; clear HE; intro a HE
    exact ⟨_, _, HS, rfl, HE.get _ _ rfl, HE.defers, rfl⟩
   ·intro a w G1 hl HS HE hp
    obtain ⟨_, e4, rfl⟩ := hp 4 33 _ rfl rfl rfl; replace HE := HE.add e4
    obtain ⟨_, e8, rfl⟩ := hp 8 37 _ rfl rfl rfl; replace HE := HE.add e8
    refine o_callP HE rfl HS rfl rfl T.g48 (c_Takes9 ((doms (findS m o).1.ins).getD i 0) (l.getD i ⟨0, 0, []⟩) _ _ HS.sub (by first | assumption | exact parse_wf (by omega) | (constructor <;> first | assumption | (simp only [I64]; omega) | (simp; omega)))) ?_
    clear HE HS; rintro _ w a HS rfl HE
    exact ⟨_, _, HS, rfl, HE.get _ _ rfl, HE.defers, rfl⟩
   ·intro a w G1 hl HS HE hp
    obtain ⟨_, e9, rfl⟩ := hp 9 38 _ rfl rfl rfl; replace HE := HE.add e9
    refine o_not HE rfl rfl ?_; clear HE; intro a HE
    exact ⟨_, _, HS, rfl, HE.get _ _ rfl, HE.defers, rfl⟩
   clear HE HS; intro a w HS HE hp
   obtain ⟨_, e10, rfl⟩ := hp 10 39 _ rfl rfl; replace HE := HE.add e10
   clear hp
   refine hK21 _ _ ?_; clear hK21
   refine cond HE rfl (fun h25r => ?_) (fun h25r => ?_)
   ·have h25 := nm h25r
    refine sr fun K hK => ?_
    refine rn 1 HE HS ?_; clear HE HS; intro a w HE HS
    apply hK; clear hK K
    refine rt hQ HE HS ?_
    have hst := fitsL_step hlen (i := i) (by omega)
    rw [show takesB _ _ = false from by simpa using h25, Bool.false_and] at hst
    have e : fitsR m o l = false := by
     unfold fitsR
     rw [argsD_yes hyes]
     show fitsL (doms (findS m o).1.ins) l = _
     exact hfi.trans hst
    show _ = _
    rw [e]
    rfl
   ·have h25 := nm h25r
    refine wp_skip ?_
    refine hK19 _ _ ?_; clear hK19
    refine wp_region_lit ?_
    refine rn 3 HE HS ?_; clear HE HS; intro a w HE HS
    have hst := fitsL_step hlen (i := i) (by omega)
    rw [show takesB _ _ = true from by simpa using h25, Bool.true_and] at hst
    exact ⟨i + 1, ⟨HS, HE.cut ⟨rfl, rfl, rfl, rfl, rfl, trivial⟩, ⟨by omega, hfi.trans hst⟩⟩, by omega⟩
  ·have h18 := nm h18r
   refine wp_exit ?_
   refine hK11 _ _ ?_; clear hK11
   refine sr fun K hK => ?_
   refine rn 1 HE HS ?_; clear HE HS; intro a w HE HS
   apply hK; clear hK K
   refine rt hQ HE HS ?_
   have e : fitsR m o l = true := by
    unfold fitsR
    rw [argsD_yes hyes]
    show fitsL (doms (findS m o).1.ins) l = _
    exact hfi.trans (fitsL_end hlen (by omega))
   show _ = _
   rw [e]
   rfl

/-! `incognito/incognitoref10.Great` -/
set_option maxRecDepth 100000 in
set_option maxHeartbeats 4000000 in
theorem c_Great (e : Evt) (A1e : Option Addr) (c1e : Nat) (A2e : Option Addr) (c2e : Nat) (w0 : World) (G : Heap) (hG : Sub G w0) (hr1e : Rd kVal G A1e e.args) (hr2e : Rd kVal G A2e e.out) (hwe : e.Wf):
  Calls Tryz.prog 6 #[.agg #[.int .i64 e.time, .int .i64 e.client.k, .int .i64 e.client.n, str e.client.s, .int .i64 e.type, .int .i64 e.model, .int .i64 e.key.k, .int .i64 e.key.n, str e.key.s, .int .i64 e.op, .slice A1e e.args.length c1e, .slice A2e e.out.length c2e, .bool e.noted, str e.note]] w0 (Ret w0 G (fun v _ => v = .bool (greatE e))) := by
 have hla := hwe.argsLen
 have hlo := hwe.outLen
 refine enter Tryz.func6 rfl Tryz.ntmps6 rfl ?_
 intro Q hQ a HE
 have HS := St.start0 hG
 refine sr fun K hK => ?_
 refine o_bx14 HE rfl HS rfl ?_; clear HE HS; intro B1 w a HS HE
 refine rn 1 HE HS ?_; clear HE HS; intro a w HE HS
 apply hK; clear hK K
 refine sr fun K hK => ?_
 refine rn 8 HE HS ?_; clear HE HS; intro a w HE HS
 refine o_addW HE rfl rfl rfl ?_; clear HE; intro a HE
 refine rn 3 HE HS ?_; clear HE HS; intro a w HE HS
 refine o_addW HE rfl rfl rfl ?_; clear HE; intro a HE
 refine rn 1 HE HS ?_; clear HE HS; intro a w HE HS
 apply hK; clear hK K
 refine wp_seq_k (fun K4 hK3 => ?_)
 refine sr fun K hK => ?_
 refine rn 1 HE HS ?_; clear HE HS; intro a w HE HS
 apply hK; clear hK K
 refine wp_block ?_
 refine loop (fun (p : Nat × Int) a' w' => St w0 G [] G w' [[(B1, Cells 26 [(0, .int .i64 e.time), (1, .int .i64 e.client.k), (2, .int .i64 e.client.n), (3, str e.client.s), (4, .int .i64 e.type), (5, .int .i64 e.model), (6, .int .i64 e.key.k), (7, .int .i64 e.key.n), (8, str e.key.s), (9, .int .i64 e.op), (10, .slice A1e e.args.length c1e), (11, .slice A2e e.out.length c2e), (12, .bool e.noted), (13, str e.note)])]] ∧ Env a' 63 [] [(1, .pointer (some ⟨B1, 0, none⟩)), (3, .int .i64 p.2), (4, .int .i64 ((p.1 : Nat) : Int))] ∧ (p.1 ≤ e.args.length ∧ (-9223372036854775808 ≤ p.2 ∧ p.2 ≤ 9223372036854775807) ∧ accG (startG e) e.args = accG p.2 (e.args.drop p.1))) (fun (p : Nat × Int) => e.args.length - p.1) (0, (startG e)) ⟨HS, HE.cut ⟨rfl, rfl, rfl, trivial⟩, ⟨Nat.zero_le _, wr64 _, rfl⟩⟩ ?_
 clear HE HS; intro p a w ⟨HS, HE, ⟨hp1, hp2, hp3⟩⟩
 refine wp_seq_k (fun K8 hK7 => ?_)
 refine sr fun K hK => ?_
 refine rn 6 HE HS ?_; clear HE HS; intro a w HE HS
 refine cutG 3 27 (.bool ((decide (((p.1 : Nat) : Int) < (e.args.length : Int))) && (decide (p.2 ≤ 2000)))) HE HS ?_ ?_
 ·refine bsp HE (t := 24) rfl (fun hb9 => ?_) (fun hb9 => ?_)
  ·have hk10 := nm hb9
   refine rn 3 HE HS ?_; clear HE HS; intro a w HE HS
   exact ⟨HS, HE.cutT (by rw [hb9] <;> rfl)⟩
  ·skip
   refine rn 3 HE HS ?_; clear HE HS; intro a w HE HS
   exact ⟨HS, HE.cutT (by rw [hb9] <;> rfl)⟩
 clear HE HS; intro a w HE HS
 apply hK; clear hK K
 refine cond HE rfl (fun h12r => ?_) (fun h12r => ?_)
 ·have h12 := nm h12r
  refine wp_skip ?_
  refine hK7 _ _ ?_; clear hK7
  refine wp_seq_k (fun K14 hK13 => ?_)
  refine wp_block ?_
  refine wp_region_lit ?_
  refine rn 5 HE HS ?_; clear HE HS; intro a w HE HS
  have hi15 : ((p.1 : Nat) : Int).toNat < e.args.length := by omega
  obtain ⟨eb15, eo15, hA15, el15⟩ := Rd.at hr1e (List.getElem?_eq_getElem hi15); cases hA15
  rw [show e.args[((p.1 : Nat) : Int).toNat] = (e.args.getD p.1 ⟨0, 0, []⟩) from getD_get (i := p.1) hi15 _] at el15
  have el15 := kVal_open el15
  refine o_ixL HE rfl rfl rfl T.l24 ⟨by omega, by omega⟩ ?_; clear HE; intro a HE
  refine rn 1 HE HS ?_; clear HE HS; intro a w HE HS
  refine o_ldI HE rfl HS rfl T.s9 el15 (j := 2) rfl rfl ?_; clear HE; intro a HE
  refine rn 1 HE HS ?_; clear HE HS; intro a w HE HS
  refine o_addW HE rfl rfl rfl ?_; clear HE; intro a HE
  refine rn 1 HE HS ?_; clear HE HS; intro a w HE HS
  refine hK13 _ _ ?_; clear hK13
  refine wp_region_lit ?_
  refine rn 3 HE HS ?_; clear HE HS; intro a w HE HS
  have hst := hp3.trans (accG_step (l := e.args) (i := p.1) (by omega) (by omega))
  exact ⟨(p.1 + 1, IntKind.i64.wrap ((p.2 + 1) + (((e.args.getD p.1 ⟨0, 0, []⟩).s).length : Int))), ⟨HS, HE.cut ⟨rfl, rfl, rfl, trivial⟩, ⟨by show p.1 + 1 ≤ _; omega, wr64 _, hst⟩⟩, by show e.args.length - (p.1 + 1) < _; omega⟩
 ·have h12 := nm h12r
  refine wp_exit ?_
  refine hK3 _ _ ?_; clear hK3
  refine wp_seq_k (fun K17 hK16 => ?_)
  refine sr fun K hK => ?_
  refine rn 1 HE HS ?_; clear HE HS; intro a w HE HS
  apply hK; clear hK K
  refine wp_block ?_
  refine loop (fun (q : Nat × Int) a' w' => St w0 G [] G w' [[(B1, Cells 26 [(0, .int .i64 e.time), (1, .int .i64 e.client.k), (2, .int .i64 e.client.n), (3, str e.client.s), (4, .int .i64 e.type), (5, .int .i64 e.model), (6, .int .i64 e.key.k), (7, .int .i64 e.key.n), (8, str e.key.s), (9, .int .i64 e.op), (10, .slice A1e e.args.length c1e), (11, .slice A2e e.out.length c2e), (12, .bool e.noted), (13, str e.note)])]] ∧ Env a' 63 [] [(1, .pointer (some ⟨B1, 0, none⟩)), (3, .int .i64 q.2), (5, .int .i64 ((q.1 : Nat) : Int))] ∧ (q.1 ≤ e.out.length ∧ (-9223372036854775808 ≤ q.2 ∧ q.2 ≤ 9223372036854775807) ∧ accG p.2 e.out = accG q.2 (e.out.drop q.1))) (fun (q : Nat × Int) => e.out.length - q.1) (0, p.2) ⟨HS, HE.cut ⟨rfl, rfl, rfl, trivial⟩, ⟨Nat.zero_le _, hp2, rfl⟩⟩ ?_
  clear HE HS; intro q a w ⟨HS, HE, ⟨hq1, hq2, hq3⟩⟩
  refine wp_seq_k (fun K21 hK20 => ?_)
  refine sr fun K hK => ?_
  refine rn 6 HE HS ?_; clear HE HS; intro a w HE HS
  refine cutG 3 48 (.bool ((decide (((q.1 : Nat) : Int) < (e.out.length : Int))) && (decide (q.2 ≤ 2000)))) HE HS ?_ ?_
  ·refine bsp HE (t := 45) rfl (fun hb22 => ?_) (fun hb22 => ?_)
   ·have hk23 := nm hb22
    refine rn 3 HE HS ?_; clear HE HS; intro a w HE HS
    exact ⟨HS, HE.cutT (by rw [hb22] <;> rfl)⟩
   ·skip
    refine rn 3 HE HS ?_; clear HE HS; intro a w HE HS
    exact ⟨HS, HE.cutT (by rw [hb22] <;> rfl)⟩
  clear HE HS; intro a w HE HS
  apply hK; clear hK K
  refine cond HE rfl (fun h25r => ?_) (fun h25r => ?_)
  ·have h25 := nm h25r
   refine wp_skip ?_
   refine hK20 _ _ ?_; clear hK20
   refine wp_seq_k (fun K27 hK26 => ?_)
   refine wp_block ?_
   refine wp_region_lit ?_
   refine rn 5 HE HS ?_; clear HE HS; intro a w HE HS
   have hi28 : ((q.1 : Nat) : Int).toNat < e.out.length := by omega
   obtain ⟨eb28, eo28, hA28, el28⟩ := Rd.at hr2e (List.getElem?_eq_getElem hi28); cases hA28
   rw [show e.out[((q.1 : Nat) : Int).toNat] = (e.out.getD q.1 ⟨0, 0, []⟩) from getD_get (i := q.1) hi28 _] at el28
   have el28 := kVal_open el28
   refine o_ixL HE rfl rfl rfl T.l24 ⟨by omega, by omega⟩ ?_; clear HE; intro a HE
   refine rn 1 HE HS ?_; clear HE HS; intro a w HE HS
   refine o_ldI HE rfl HS rfl T.s9 el28 (j := 2) rfl rfl ?_; clear HE; intro a HE
   refine rn 1 HE HS ?_; clear HE HS; intro a w HE HS
   refine o_addW HE rfl rfl rfl ?_; clear HE; intro a HE
   refine rn 1 HE HS ?_; clear HE HS; intro a w HE HS
   refine hK26 _ _ ?_; clear hK26
   refine wp_region_lit ?_
   refine rn 3 HE HS ?_; clear HE HS; intro a w HE HS
   have hst := hq3.trans (accG_step (l := e.out) (i := q.1) (by omega) (by omega))
   exact ⟨(q.1 + 1, IntKind.i64.wrap ((q.2 + 1) + (((e.out.getD q.1 ⟨0, 0, []⟩).s).length : Int))), ⟨HS, HE.cut ⟨rfl, rfl, rfl, trivial⟩, ⟨by show q.1 + 1 ≤ _; omega, wr64 _, hst⟩⟩, by show e.out.length - (q.1 + 1) < _; omega⟩
  ·have h25 := nm h25r
   refine wp_exit ?_
   refine hK16 _ _ ?_; clear hK16
   refine sr fun K hK => ?_
   refine rn 3 HE HS ?_; clear HE HS; intro a w HE HS
   apply hK; clear hK K
   refine rt hQ HE HS ?_
   show _ = _
   simp only [packed, Value.bool.injEq]
   have e1 : accG (startG e) e.args = p.2 := hp3.trans (accG_end (by have := h12; simp at this; omega))
   have e2 : accG p.2 e.out = q.2 := hq3.trans (accG_end (by have := h25; simp at this; omega))
   unfold greatE
   rw [e1, e2]

/-! `incognito/incognitoref10.Right` -/
set_option maxRecDepth 100000 in
set_option maxHeartbeats 4000000 in
theorem c_RightR (e : Evt) (A1e : Option Addr) (c1e : Nat) (A2e : Option Addr) (c2e : Nat) (w0 : World) (G : Heap) (hG : Sub G w0) (hr1e : Rd kVal G A1e e.args) (hr2e : Rd kVal G A2e e.out) (hwe : e.Wf):
  Calls Tryz.prog 8 #[.agg #[.int .i64 e.time, .int .i64 e.client.k, .int .i64 e.client.n, str e.client.s, .int .i64 e.type, .int .i64 e.model, .int .i64 e.key.k, .int .i64 e.key.n, str e.key.s, .int .i64 e.op, .slice A1e e.args.length c1e, .slice A2e e.out.length c2e, .bool e.noted, str e.note]] w0 (Ret w0 G (fun v _ => v = .bool (rightE e))) := by
 have hwc := hwe.client
 have hwk := hwe.key
 have hla := hwe.argsLen
 have hlo := hwe.outLen
 have hlt := hwe.note
 refine enter Tryz.func8 rfl Tryz.ntmps8 rfl ?_
 intro Q hQ a HE
 have HS := St.start0 hG
 refine sr fun K hK => ?_
 refine o_bx14 HE rfl HS rfl ?_; clear HE HS; intro B1 w a HS HE
 refine rn 1 HE HS ?_; clear HE HS; intro a w HE HS
 apply hK; clear hK K
 refine sr fun K hK => ?_
 refine o_build (cs := #[.int .i64 0, .int .i64 0, str []]) HE rfl rfl (by kernel_rfl) ?_; clear HE; intro a HE
 refine o_allocZ HE rfl HS ?_; clear HE HS; intro B3 w a HS HE
 refine rn 1 HE HS ?_; clear HE HS; intro a w HE HS
 apply hK; clear hK K
 refine wp_seq_k (fun K4 hK3 => ?_)
 refine sr fun K hK => ?_
 refine rn 4 HE HS ?_; clear HE HS; intro a w HE HS
 refine cutG 5 15 (.bool ((decide (e.time < 0)) || (!(nameB e.client)))) HE HS ?_ ?_
 ·refine bsp HE (t := 10) rfl (fun hb5 => ?_) (fun hb5 => ?_)
  ·skip
   refine rn 5 HE HS ?_; clear HE HS; intro a w HE HS
   exact ⟨HS, HE.cutT (by rw [hb5] <;> rfl)⟩
  ·have hk6 := nm hb5
   refine rn 2 HE HS ?_; clear HE HS; intro a w HE HS
   refine op_on HE rfl rfl hb5 ?_
   refine o_callP HE rfl HS rfl rfl T.g23 (c_Name7 e.client _ _ HS.sub (by first | assumption | exact parse_wf (by omega) | (constructor <;> first | assumption | (simp only [I64]; omega) | (simp; omega)))) ?_
   clear HE HS; rintro _ w a HS rfl HE
   refine rn 2 HE HS ?_; clear HE HS; intro a w HE HS
   exact ⟨HS, HE.cutT (by rw [hb5] <;> rfl)⟩
 clear HE HS; intro a w HE HS
 refine rn 1 HE HS ?_; clear HE HS; intro a w HE HS
 refine cutG 5 21 (.bool (((decide (e.time < 0)) || (!(nameB e.client))) || (decide (100 < (e.note.length : Int))))) HE HS ?_ ?_
 ·refine bsp HE (t := 16) rfl (fun hb7 => ?_) (fun hb7 => ?_)
  ·skip
   refine rn 5 HE HS ?_; clear HE HS; intro a w HE HS
   exact ⟨HS, HE.cutT (by rw [hb7] <;> rfl)⟩
  ·have hk8 := nm hb7
   refine rn 5 HE HS ?_; clear HE HS; intro a w HE HS
   exact ⟨HS, HE.cutT (by rw [hb7] <;> rfl)⟩
 clear HE HS; intro a w HE HS
 refine rn 1 HE HS ?_; clear HE HS; intro a w HE HS
 refine cutG 9 31 (.bool ((((decide (e.time < 0)) || (!(nameB e.client))) || (decide (100 < (e.note.length : Int)))) || ((!e.noted) && (!(e.note == []))))) HE HS ?_ ?_
 ·refine bsp HE (t := 22) rfl (fun hb9 => ?_) (fun hb9 => ?_)
  ·skip
   refine rn 9 HE HS ?_; clear HE HS; intro a w HE HS
   exact ⟨HS, HE.cutT (by rw [hb9] <;> rfl)⟩
  ·have hk10 := nm hb9
   refine rn 4 HE HS ?_; clear HE HS; intro a w HE HS
   refine cutG 4 30 (.bool ((!e.noted) && (!(e.note == [])))) HE HS ?_ ?_
   ·refine bsp HE (t := 26) rfl (fun hb11 => ?_) (fun hb11 => ?_)
    ·have hk12 := nm hb11
     refine rn 4 HE HS ?_; clear HE HS; intro a w HE HS
     exact ⟨HS, HE.cutT (by rw [hb11] <;> rfl)⟩
    ·skip
     refine rn 4 HE HS ?_; clear HE HS; intro a w HE HS
     exact ⟨HS, HE.cutT (by rw [hb11] <;> rfl)⟩
   clear HE HS; intro a w HE HS
   refine rn 1 HE HS ?_; clear HE HS; intro a w HE HS
   exact ⟨HS, HE.cutT (by rw [hb9] <;> rfl)⟩
 clear HE HS; intro a w HE HS
 apply hK; clear hK K
 refine cond HE rfl (fun h14r => ?_) (fun h14r => ?_)
 ·have h14 := nm h14r
  refine sr fun K hK => ?_
  refine rn 1 HE HS ?_; clear HE HS; intro a w HE HS
  apply hK; clear hK K
  refine rt hQ HE HS ?_
  have e1 := head_bad h14r
  show _ = _
  rw [e1]
  rfl
 ·have h14 := nm h14r
  refine wp_skip ?_
  refine hK3 _ _ ?_; clear hK3
  refine wp_seq_k (fun K17 hK16 => ?_)
  refine sr fun K hK => ?_
  refine rn 1 HE HS ?_; clear HE HS; intro a w HE HS
  apply hK; clear hK K
  refine wp_block ?_
  refine loop (fun (i : Nat) a' w' => St w0 G [] G w' [[(B3, Cells 23 [(0, .int .i64 0), (1, .int .i64 0), (2, str [])])], [(B1, Cells 26 [(0, .int .i64 e.time), (1, .int .i64 e.client.k), (2, .int .i64 e.client.n), (3, str e.client.s), (4, .int .i64 e.type), (5, .int .i64 e.model), (6, .int .i64 e.key.k), (7, .int .i64 e.key.n), (8, str e.key.s), (9, .int .i64 e.op), (10, .slice A1e e.args.length c1e), (11, .slice A2e e.out.length c2e), (12, .bool e.noted), (13, str e.note)])]] ∧ Env a' 118 [] [(1, .pointer (some ⟨B1, 0, none⟩)), (3, .pointer (some ⟨B3, 0, none⟩)), (4, .int .i64 ((i : Nat) : Int))] ∧ (∃ hi : i ≤ e.note.length, ∀ j (hj : j < i), ¬ e.note[j]'(by omega) = 10)) (fun (i : Nat) => e.note.length - i) 0 ⟨HS, HE.cut ⟨rfl, rfl, rfl, trivial⟩, ⟨Nat.zero_le _, fun j hj => absurd hj (Nat.not_lt_zero _)⟩⟩ ?_
  clear HE HS; intro i a w ⟨HS, HE, ⟨hi, ha⟩⟩
  refine wp_seq_k (fun K21 hK20 => ?_)
  refine sr fun K hK => ?_
  refine rn 5 HE HS ?_; clear HE HS; intro a w HE HS
  apply hK; clear hK K
  refine cond HE rfl (fun h23r => ?_) (fun h23r => ?_)
  ·have h23 := nm h23r
   refine wp_skip ?_
   refine hK20 _ _ ?_; clear hK20
   refine wp_seq_k (fun K25 hK24 => ?_)
   refine wp_block ?_
   refine sr fun K hK => ?_
   refine rn 3 HE HS ?_; clear HE HS; intro a w HE HS
   refine o_index HE rfl rfl rfl Tryz.underlying9 (by omega) ?_; clear HE; intro a HE
   refine rn 1 HE HS ?_; clear HE HS; intro a w HE HS
   apply hK; clear hK K
   refine cond HE rfl (fun h27r => ?_) (fun h27r => ?_)
   ·have h27 := nm h27r
    refine sr fun K hK => ?_
    refine rn 1 HE HS ?_; clear HE HS; intro a w HE HS
    apply hK; clear hK K
    refine rt hQ HE HS ?_
    have e1 : rightE e = false := note_bad (i := i) (by omega) (bAt8 (c := 10) (by omega) (by simpa using h27))
    show _ = _
    rw [e1]
    rfl
   ·have h27 := nm h27r
    refine wp_skip ?_
    refine hK24 _ _ ?_; clear hK24
    refine wp_region_lit ?_
    refine rn 3 HE HS ?_; clear HE HS; intro a w HE HS
    have hb := bNo8 (c := 10) (n := i) (s := e.note) (by omega) (by simpa using h27)
    have ha2 : ∀ j (hj : j < i + 1), ¬ e.note[j]'(by omega) = 10 := by
     intro j hj
     rcases Nat.lt_or_ge j i with h_9 | h_9
     ·exact ha j h_9
     ·obtain rfl : j = i := by omega
      exact hb
    exact ⟨i + 1, ⟨HS, HE.cut ⟨rfl, rfl, rfl, trivial⟩, ⟨by omega, ha2⟩⟩, by omega⟩
  ·have h23 := nm h23r
   refine wp_exit ?_
   refine hK16 _ _ ?_; clear hK16
   refine wp_seq_k (fun K30 hK29 => ?_)
   refine sr fun K hK => ?_
   refine rn 3 HE HS ?_; clear HE HS; intro a w HE HS
   apply hK; clear hK K
   refine cond HE rfl (fun h32r => ?_) (fun h32r => ?_)
   ·have h32 := nm h32r
    refine sr fun K hK => ?_
    refine rn 6 HE HS ?_; clear HE HS; intro a w HE HS
    refine o_callP HE rfl HS rfl rfl T.g24 (c_Fits9 e.model e.op e.args _ _ _ _ HS.sub hr1e hwe.argsLen hwe.args) ?_
    clear HE HS; rintro _ w a HS rfl HE
    refine rn 1 HE HS ?_; clear HE HS; intro a w HE HS
    refine cutG 4 58 (.bool ((fitsR e.model e.op e.args) && (nameB e.key))) HE HS ?_ ?_
    ·refine bsp HE (t := 54) rfl (fun hb33 => ?_) (fun hb33 => ?_)
     ·have hk34 := nm hb33
      refine rn 2 HE HS ?_; clear HE HS; intro a w HE HS
      refine op_on HE rfl rfl hb33 ?_
      refine o_callP HE rfl HS rfl rfl T.g23 (c_Name7 e.key _ _ HS.sub (by first | assumption | exact parse_wf (by omega) | (constructor <;> first | assumption | (simp only [I64]; omega) | (simp; omega)))) ?_
      clear HE HS; rintro _ w a HS rfl HE
      refine rn 1 HE HS ?_; clear HE HS; intro a w HE HS
      exact ⟨HS, HE.cutT (by rw [hb33] <;> rfl)⟩
     ·skip
      refine rn 4 HE HS ?_; clear HE HS; intro a w HE HS
      exact ⟨HS, HE.cutT (by rw [hb33] <;> rfl)⟩
    clear HE HS; intro a w HE HS
    refine rn 1 HE HS ?_; clear HE HS; intro a w HE HS
    refine cutG 5 64 (.bool (((fitsR e.model e.op e.args) && (nameB e.key)) && (decide ((e.out.length : Int) = 0)))) HE HS ?_ ?_
    ·refine bsp HE (t := 59) rfl (fun hb35 => ?_) (fun hb35 => ?_)
     ·have hk36 := nm hb35
      refine rn 5 HE HS ?_; clear HE HS; intro a w HE HS
      exact ⟨HS, HE.cutT (by rw [hb35] <;> rfl)⟩
     ·skip
      refine rn 5 HE HS ?_; clear HE HS; intro a w HE HS
      exact ⟨HS, HE.cutT (by rw [hb35] <;> rfl)⟩
    clear HE HS; intro a w HE HS
    refine rn 1 HE HS ?_; clear HE HS; intro a w HE HS
    apply hK; clear hK K
    refine rt hQ HE HS ?_
    have hd := head_good h14r (fun j hj => ha j (by omega))
    show _ = _
    simp only [packed, Value.bool.injEq]
    exact (right_one hd (by simpa using h32)).symm
   ·have h32 := nm h32r
    refine wp_skip ?_
    refine hK29 _ _ ?_; clear hK29
    refine wp_seq_k (fun K39 hK38 => ?_)
    refine sr fun K hK => ?_
    refine rn 4 HE HS ?_; clear HE HS; intro a w HE HS
    refine cutG 4 72 (.bool ((decide (e.type < 2)) || (decide (4 < e.type)))) HE HS ?_ ?_
    ·refine bsp HE (t := 68) rfl (fun hb40 => ?_) (fun hb40 => ?_)
     ·skip
      refine rn 4 HE HS ?_; clear HE HS; intro a w HE HS
      exact ⟨HS, HE.cutT (by rw [hb40] <;> rfl)⟩
     ·have hk41 := nm hb40
      refine rn 4 HE HS ?_; clear HE HS; intro a w HE HS
      exact ⟨HS, HE.cutT (by rw [hb40] <;> rfl)⟩
    clear HE HS; intro a w HE HS
    refine rn 1 HE HS ?_; clear HE HS; intro a w HE HS
    refine cutG 4 77 (.bool (((decide (e.type < 2)) || (decide (4 < e.type))) || (!decide (e.model = 0)))) HE HS ?_ ?_
    ·refine bsp HE (t := 73) rfl (fun hb42 => ?_) (fun hb42 => ?_)
     ·skip
      refine rn 4 HE HS ?_; clear HE HS; intro a w HE HS
      exact ⟨HS, HE.cutT (by rw [hb42] <;> rfl)⟩
     ·have hk43 := nm hb42
      refine rn 4 HE HS ?_; clear HE HS; intro a w HE HS
      exact ⟨HS, HE.cutT (by rw [hb42] <;> rfl)⟩
    clear HE HS; intro a w HE HS
    refine rn 1 HE HS ?_; clear HE HS; intro a w HE HS
    refine cutG 4 82 (.bool ((((decide (e.type < 2)) || (decide (4 < e.type))) || (!decide (e.model = 0))) || (!decide (e.op = 0)))) HE HS ?_ ?_
    ·refine bsp HE (t := 78) rfl (fun hb44 => ?_) (fun hb44 => ?_)
     ·skip
      refine rn 4 HE HS ?_; clear HE HS; intro a w HE HS
      exact ⟨HS, HE.cutT (by rw [hb44] <;> rfl)⟩
     ·have hk45 := nm hb44
      refine rn 4 HE HS ?_; clear HE HS; intro a w HE HS
      exact ⟨HS, HE.cutT (by rw [hb44] <;> rfl)⟩
    clear HE HS; intro a w HE HS
    refine rn 1 HE HS ?_; clear HE HS; intro a w HE HS
    refine cutG 5 88 (.bool (((((decide (e.type < 2)) || (decide (4 < e.type))) || (!decide (e.model = 0))) || (!decide (e.op = 0))) || (!(decide (e.key.k = 0) && (decide (e.key.n = 0) && (e.key.s == [] && true)))))) HE HS ?_ ?_
    ·refine bsp HE (t := 83) rfl (fun hb46 => ?_) (fun hb46 => ?_)
     ·skip
      refine rn 5 HE HS ?_; clear HE HS; intro a w HE HS
      exact ⟨HS, HE.cutT (by rw [hb46] <;> rfl)⟩
     ·have hk47 := nm hb46
      refine rn 3 HE HS ?_; clear HE HS; intro a w HE HS
      refine op_on HE rfl rfl hb46 ?_
      refine o_neA (b := decide (e.key.k = 0) && (decide (e.key.n = 0) && (e.key.s == [] && true))) HE rfl rfl rfl T.q23 rfl rfl ?_; clear HE; intro a HE
      refine rn 1 HE HS ?_; clear HE HS; intro a w HE HS
      exact ⟨HS, HE.cutT (by rw [hb46] <;> rfl)⟩
    clear HE HS; intro a w HE HS
    refine rn 1 HE HS ?_; clear HE HS; intro a w HE HS
    refine cutG 5 94 (.bool ((((((decide (e.type < 2)) || (decide (4 < e.type))) || (!decide (e.model = 0))) || (!decide (e.op = 0))) || (!(decide (e.key.k = 0) && (decide (e.key.n = 0) && (e.key.s == [] && true))))) || (decide (0 < (e.args.length : Int))))) HE HS ?_ ?_
    ·refine bsp HE (t := 89) rfl (fun hb48 => ?_) (fun hb48 => ?_)
     ·skip
      refine rn 5 HE HS ?_; clear HE HS; intro a w HE HS
      exact ⟨HS, HE.cutT (by rw [hb48] <;> rfl)⟩
     ·have hk49 := nm hb48
      refine rn 5 HE HS ?_; clear HE HS; intro a w HE HS
      exact ⟨HS, HE.cutT (by rw [hb48] <;> rfl)⟩
    clear HE HS; intro a w HE HS
    apply hK; clear hK K
    refine cond HE rfl (fun h51r => ?_) (fun h51r => ?_)
    ·have h51 := nm h51r
     refine sr fun K hK => ?_
     refine rn 1 HE HS ?_; clear HE HS; intro a w HE HS
     apply hK; clear hK K
     refine rt hQ HE HS ?_
     have hd := head_good h14r (fun j hj => ha j (by omega))
     have e1 := right_bad hd (by simpa using h32) h51r
     show _ = _
     rw [e1]
     rfl
    ·have h51 := nm h51r
     refine wp_skip ?_
     refine hK38 _ _ ?_; clear hK38
     refine wp_seq_k (fun K54 hK53 => ?_)
     refine sr fun K hK => ?_
     refine rn 1 HE HS ?_; clear HE HS; intro a w HE HS
     apply hK; clear hK K
     refine wp_block ?_
     replace HS := HS.drop (M' := [_]) (sub_drop (sub_keep sub_nil))
     refine loop (fun (k : Nat) a' w' => St w0 G [] G w' [[(B1, Cells 26 [(0, .int .i64 e.time), (1, .int .i64 e.client.k), (2, .int .i64 e.client.n), (3, str e.client.s), (4, .int .i64 e.type), (5, .int .i64 e.model), (6, .int .i64 e.key.k), (7, .int .i64 e.key.n), (8, str e.key.s), (9, .int .i64 e.op), (10, .slice A1e e.args.length c1e), (11, .slice A2e e.out.length c2e), (12, .bool e.noted), (13, str e.note)])]] ∧ Env a' 118 [] [(1, .pointer (some ⟨B1, 0, none⟩)), (5, .int .i64 ((k : Nat) : Int))] ∧ (k ≤ e.out.length ∧ e.out.all rightV = (e.out.drop k).all rightV)) (fun (k : Nat) => e.out.length - k) 0 ⟨HS, HE.cut ⟨rfl, rfl, trivial⟩, ⟨Nat.zero_le _, rfl⟩⟩ ?_
     clear HE HS; intro k a w ⟨HS, HE, ⟨hk, hfi⟩⟩
     refine wp_seq_k (fun K58 hK57 => ?_)
     refine sr fun K hK => ?_
     refine rn 5 HE HS ?_; clear HE HS; intro a w HE HS
     apply hK; clear hK K
     refine cond HE rfl (fun h60r => ?_) (fun h60r => ?_)
     ·have h60 := nm h60r
      refine wp_skip ?_
      refine hK57 _ _ ?_; clear hK57
      refine wp_seq_k (fun K62 hK61 => ?_)
      refine wp_block ?_
      refine sr fun K hK => ?_
      refine rn 3 HE HS ?_; clear HE HS; intro a w HE HS
      have hi63 : ((k : Nat) : Int).toNat < e.out.length := by omega
      obtain ⟨eb63, eo63, hA63, el63⟩ := Rd.at hr2e (List.getElem?_eq_getElem hi63); cases hA63
      rw [show e.out[((k : Nat) : Int).toNat] = (e.out.getD k ⟨0, 0, []⟩) from getD_get (i := k) hi63 _] at el63
      have el63 := kVal_open el63
      refine o_ixL HE rfl rfl rfl T.l24 ⟨by omega, by omega⟩ ?_; clear HE; intro a HE
      refine o_ldIA HE rfl HS rfl el63 T.a23 ?_; clear HE; intro a HE
      have hvw : (e.out.getD k ⟨0, 0, []⟩).Wf := hwe.out _ (val_mem (l := e.out) (i := k) (by omega))
      refine o_callP HE rfl HS rfl rfl T.g25 (c_Right7 (e.out.getD k ⟨0, 0, []⟩) _ _ HS.sub (by first | assumption | exact hv | (constructor <;> first | assumption | (simp only [I64]; omega) | (simp; omega)))) ?_
      clear HE HS; rintro _ w a HS rfl HE
      refine rn 1 HE HS ?_; clear HE HS; intro a w HE HS
      apply hK; clear hK K
      refine cond HE rfl (fun h65r => ?_) (fun h65r => ?_)
      ·have h65 := nm h65r
       refine sr fun K hK => ?_
       refine rn 1 HE HS ?_; clear HE HS; intro a w HE HS
       apply hK; clear hK K
       refine rt hQ HE HS ?_
       have hd := head_good h14r (fun j hj => ha j (by omega))
       have e1 := right_rest hd (by simpa using h32) h51r
       rw [hfi, all_drop (d := ⟨0, 0, []⟩) (by omega), show rightV _ = false from by simpa using h65, Bool.false_and, Bool.false_and] at e1
       show _ = _
       rw [e1]
       rfl
      ·have h65 := nm h65r
       refine wp_skip ?_
       refine hK61 _ _ ?_; clear hK61
       refine wp_region_lit ?_
       refine rn 3 HE HS ?_; clear HE HS; intro a w HE HS
       have hst := hfi
       rw [all_drop (d := ⟨0, 0, []⟩) (by omega), show rightV _ = true from by simpa using h65, Bool.true_and] at hst
       exact ⟨k + 1, ⟨HS, HE.cut ⟨rfl, rfl, trivial⟩, ⟨by omega, hst⟩⟩, by omega⟩
     ·have h60 := nm h60r
      refine wp_exit ?_
      refine hK53 _ _ ?_; clear hK53
      refine sr fun K hK => ?_
      refine rn 4 HE HS ?_; clear HE HS; intro a w HE HS
      refine cutG 5 117 (.bool ((decide (e.type = 2)) || (decide ((e.out.length : Int) = 0)))) HE HS ?_ ?_
      ·refine bsp HE (t := 112) rfl (fun hb67 => ?_) (fun hb67 => ?_)
       ·skip
        refine rn 5 HE HS ?_; clear HE HS; intro a w HE HS
        exact ⟨HS, HE.cutT (by rw [hb67] <;> rfl)⟩
       ·have hk68 := nm hb67
        refine rn 5 HE HS ?_; clear HE HS; intro a w HE HS
        exact ⟨HS, HE.cutT (by rw [hb67] <;> rfl)⟩
      clear HE HS; intro a w HE HS
      refine rn 1 HE HS ?_; clear HE HS; intro a w HE HS
      apply hK; clear hK K
      refine rt hQ HE HS ?_
      have hd := head_good h14r (fun j hj => ha j (by omega))
      have e1 := right_rest hd (by simpa using h32) h51r
      rw [hfi, all_end (by omega), Bool.true_and] at e1
      show _ = _
      simp only [packed, Value.bool.injEq]
      exact e1.symm
end Go.Proofs.YtiinipcmghhacaaGreatDoor.T10
