/- Events read. -/
import Derived.Test.YtiinipcmghhacaaGreatDoorZD4
set_option linter.unusedVariables false
set_option linter.unusedSimpArgs false
namespace Go.Proofs.YtiinipcmghhacaaGreatDoor.T10
open Go Go.Proofs.YtiinipcmghhacaaGreatDoor.X
instance : UN Tryz.prog 24 (.slice 23) := ⟨Tryz.underlying24⟩
theorem T.f26_8 : fieldOff Tryz.prog 26 8 = some 12 := by kernel_rfl
instance : FO Tryz.prog 26 8 12 := ⟨T.f26_8⟩
theorem T.f26_9 : fieldOff Tryz.prog 26 9 = some 13 := by kernel_rfl
instance : FO Tryz.prog 26 9 13 := ⟨T.f26_9⟩
theorem T.g54 : goFn Tryz.prog 54 = true := by kernel_rfl
theorem T.s4 : scal Tryz.prog 4 = true := by kernel_rfl
instance : SC Tryz.prog 4 := ⟨T.s4⟩

theorem parseE_err' {s : Bs} {e : Int} (h1 : (noteS s).2.2.2 = 0) (h2 : (wordsS (noteS s).1).2 = 0) (h : (allS (wordsS (noteS s).1).1).2.2 = e) (he : ¬ e = 0) : parseE s = (E0, e) := parseE_err h1 h2 h he
theorem parseE_yes' {s : Bs} {x : Evt} (h1 : (noteS s).2.2.2 = 0) (h2 : (wordsS (noteS s).1).2 = 0) (h : (allS (wordsS (noteS s).1).1).2.2 = 0) (hx : (allS (wordsS (noteS s).1).1).1 = x) : parseE s = ({ x with noted := (noteS s).2.2.1, note := (noteS s).2.1 }, 0) := parseE_yes h1 h2 h hx
theorem getD_at {l : List Bs} {i : Nat} (h : i < l.length) : l[i]? = some (l.getD i []) := by
  rw [List.getD_eq_getElem?_getD, List.getElem?_eq_getElem h]; rfl
theorem getD_mem {l : List Bs} {i : Nat} (h : i < l.length) : l.getD i [] ∈ l := List.mem_of_getElem? (getD_at h)
theorem getD_int {l : List Int} {i : Nat} (h : i < l.length) : l[i] = l.getD i 0 := by
  rw [List.getD_eq_getElem?_getD, List.getElem?_eq_getElem h]; rfl
theorem same_val (a b : Val) : (decide (a.k = b.k) && (decide (a.n = b.n) && (a.s == b.s && true))) = decide (a = b) := by
  rw [Bool.eq_iff_iff]
  simp only [Bool.and_eq_true, decide_eq_true_eq, beq_iff_eq, and_true]
  obtain ⟨k, n, s⟩ := a
  obtain ⟨k', n', s'⟩ := b
  simp [Val.mk.injEq]

theorem val_eq {a b : Val} (h : (decide (a.k = b.k) && (decide (a.n = b.n) && (a.s == b.s && true))) = true) : a = b := by
  obtain ⟨k, n, s⟩ := a
  obtain ⟨k', n', s'⟩ := b
  simp at h
  obtain ⟨rfl, rfl, rfl⟩ := h
  rfl
theorem val_ne {a b : Val} (h : (decide (a.k = b.k) && (decide (a.n = b.n) && (a.s == b.s && true))) = false) : ¬ a = b := by
  rintro rfl
  simp at h
theorem take_snoc_eq7 {α : Type} {a b : List α} {i : Nat} (h : a.take i = b.take i) (ha : i < a.length) (hb : i < b.length) (e : a[i] = b[i]) : a.take (i + 1) = b.take (i + 1) := by
  rw [List.take_add_one, List.take_add_one, h, List.getElem?_eq_getElem ha, List.getElem?_eq_getElem hb, e]
theorem argsL_len : ∀ (ds : List Int) (l : List Bs) (e : Int), (argsL ds l e).1.length = ds.length
  | [], _, _ => rfl
  | d :: r, l, e => by
    show ((valueS d l e).1 :: _).length = _
    rw [List.length_cons, argsL_len r]; rfl
theorem outL_len : ∀ (l : List Bs) (e : Int), (outL l e).1.length ≤ l.length
  | [], _ => Nat.le_refl _
  | x :: r, e => by
    unfold outL
    split
    · have := outL_len r (parseV x).2
      simpa using this
    · exact Nat.zero_le _
theorem nextS_len (l : List Bs) (e : Int) : (nextS l e).2.1.length ≤ l.length := by
  unfold nextS
  by_cases hc : (if l = [] then faultS e 2 else e) = 0
  · rw [if_pos hc]; show (l.drop 1).length ≤ _; simp
  · rw [if_neg hc]; exact Nat.le_refl _
theorem allS_len (l : List Bs) : (allS l).1.args.length ≤ 2 ∧ (allS l).1.out.length ≤ l.length := by
  unfold allS
  dsimp only
  split
  · refine ⟨?_, Nat.zero_le _⟩
    show (invS _ _).2.2.2.1.length ≤ 2
    unfold invS; dsimp only
    rw [argsL_len]
    exact args_len _ _
  · split
    · refine ⟨Nat.zero_le _, ?_⟩
      show (outL _ _).1.length ≤ _
      refine Nat.le_trans (outL_len _ _) ?_
      show (nextS _ _).2.1.length ≤ _
      refine Nat.le_trans (nextS_len _ _) ?_
      rw [value_left]
      exact Nat.le_trans (nextS_len _ _) (nextS_len _ _)
    · exact ⟨Nat.zero_le _, Nat.zero_le _⟩
theorem parseE_len (s : Bs) : (parseE s).1.args.length ≤ 2 ∧ (parseE s).1.out.length ≤ s.length + 1 := by
  have h := allS_len (wordsS (noteS s).1).1
  have h1 := wordsS_len (noteS s).1
  have h2 := note_len s
  unfold parseE
  split
  · exact ⟨Nat.zero_le _, Nat.zero_le _⟩
  split
  · exact ⟨Nat.zero_le _, Nat.zero_le _⟩
  split
  · exact ⟨Nat.zero_le _, Nat.zero_le _⟩
  · exact ⟨h.1, by show (allS _).1.out.length ≤ _; omega⟩
theorem parse_args {s : Bs} (h : s.length ≤ 9223372036854775806) : (parseE s).1.args.length ≤ 9223372036854775807 := by have := parseE_len s; omega
theorem parse_out {s : Bs} (h : s.length ≤ 9223372036854775806) : (parseE s).1.out.length ≤ 9223372036854775807 := by have := parseE_len s; omega
theorem note_behind {s nt : Bs} (h1 : ∀ j (hj : j < s.length), ¬ s[j] = 59) (h2 : ∀ j (hj : j < nt.length), ¬ nt[j] = 10) (h3 : nt.length ≤ 100) : noteS (s ++ [32, 59] ++ nt) = (s, nt, true, 0) := by
  have e : s ++ [32, 59] ++ nt = s ++ 32 :: 59 :: nt := by simp
  rw [e]
  have hlen : (s ++ 32 :: 59 :: nt).length = s.length + 2 + nt.length := by simp; omega
  have at0 : (s ++ 32 :: 59 :: nt)[s.length + 1]'(by omega) = 59 := by
    rw [List.getElem_append_right (by omega)]; simp
  rw [note_at (i := s.length + 1) (by omega) at0]
  · have e1 : (((s.length + 1 : Nat) : Int) + 1).toNat = s.length + 2 := by omega
    have e2 : (((s.length + 1 : Nat) : Int) - 1).toNat = s.length := by omega
    have e3 : (s ++ 32 :: 59 :: nt).drop (s.length + 2) = nt := by
      rw [List.drop_append]
      simp
    have e4 : (s ++ 32 :: 59 :: nt).take s.length = s := by simp
    have e5 : bt (s ++ 32 :: 59 :: nt) (((s.length + 1 : Nat) : Int) - 1) = 32 := by
      rw [show ((s.length + 1 : Nat) : Int) - 1 = ((s.length : Nat) : Int) by omega, bt_nat (by omega), List.getElem_append_right (by omega)]
      simp
    rw [e1, e2, e3, e4, e5, if_neg]
    have e6 : Lib.indexByte nt 10 = -1 := idx_none h2
    rw [e6]
    rintro ((h | h) | h | h)
    · omega
    · exact h rfl
    · omega
    · omega
  · intro j hj
    by_cases hjs : j < s.length
    · rw [List.getElem_append_left hjs]; exact h1 j hjs
    · obtain rfl : j = s.length := by omega
      rw [List.getElem_append_right (by omega)]
      simp
theorem notes_law {s nt : Bs} (h1 : ∀ j (hj : j < s.length), ¬ s[j] = 59) (h2 : ∀ j (hj : j < nt.length), ¬ nt[j] = 10) (h3 : nt.length ≤ 100) :
    (parseE (s ++ [32, 59] ++ nt)).2 = (parseE s).2 ∧ ((parseE s).2 = 0 → ({ (parseE s).1 with noted := false, note := [] } : Evt) = { (parseE (s ++ [32, 59] ++ nt)).1 with noted := false, note := [] }) := by
  have e1 := note_behind h1 h2 h3
  have e2 : noteS s = (s, [], false, 0) := note_none (i := s.length) (Nat.le_refl _) h1
  unfold parseE
  rw [e1, e2]
  dsimp only
  simp only [not_true, if_false]
  split
  · exact ⟨rfl, fun h => rfl⟩
  · split
    · exact ⟨rfl, fun h => rfl⟩
    · exact ⟨rfl, fun h => rfl⟩
/-! `incognito/incognitoref07.Same` -/
set_option maxRecDepth 100000 in
set_option maxHeartbeats 4000000 in
theorem c_Same7 (xa : List Val) (Aa : Option Addr) (ca : Nat) (xb : List Val) (Ab : Option Addr) (cb : Nat) (w0 : World) (G : Heap) (hG : Sub G w0) (hRxa : Rd kVal G Aa xa) (hlxa : xa.length ≤ 9223372036854775807) (hRxb : Rd kVal G Ab xb) (hlxb : xb.length ≤ 9223372036854775807):
  Calls Tryz.prog 54 #[.slice Aa xa.length ca, .slice Ab xb.length cb] w0 (Ret w0 G (fun v _ => v = .bool (decide (xa = xb)))) := by
 refine enter Tryz.func54 rfl Tryz.ntmps54 rfl ?_
 intro Q hQ a HE
 have HS := St.start0 hG
 refine sr fun K hK => ?_
 refine rn 1 HE HS ?_; clear HE HS; intro a w HE HS
 apply hK; clear hK K
 refine wp_seq_k (fun K3 hK2 => ?_)
 refine sr fun K hK => ?_
 refine rn 5 HE HS ?_; clear HE HS; intro a w HE HS
 apply hK; clear hK K
 refine cond HE rfl (fun h5r => ?_) (fun h5r => ?_)
 ·have h5 := nm h5r
  refine sr fun K hK => ?_
  refine rn 1 HE HS ?_; clear HE HS; intro a w HE HS
  apply hK; clear hK K
  refine rt hQ HE HS ?_
  show _ = _
  simp only [packed, Value.bool.injEq]
  exact (decide_eq_false fun e => by subst e; omega).symm
 ·have h5 := nm h5r
  refine wp_skip ?_
  refine hK2 _ _ ?_; clear hK2
  refine wp_seq_k (fun K8 hK7 => ?_)
  refine sr fun K hK => ?_
  refine rn 1 HE HS ?_; clear HE HS; intro a w HE HS
  apply hK; clear hK K
  refine wp_block ?_
  refine loop (fun (i : Nat) a' w' => St w0 G [] G w' [] ∧ Env a' 26 [] [(0, .slice Aa xa.length ca), (1, .slice Ab xb.length cb), (4, .bool false), (5, .int .i64 (i : Int))] ∧ (i ≤ xa.length ∧ xa.take i = xb.take i)) (fun (i : Nat) => xa.length - i) 0 ⟨HS, HE.cut ⟨rfl, rfl, rfl, rfl, trivial⟩, ⟨Nat.zero_le _, rfl⟩⟩ ?_
  clear HE HS; intro i a w ⟨HS, HE, ⟨hi, ht⟩⟩
  refine wp_seq_k (fun K12 hK11 => ?_)
  refine sr fun K hK => ?_
  refine rn 4 HE HS ?_; clear HE HS; intro a w HE HS
  apply hK; clear hK K
  refine cond HE rfl (fun h14r => ?_) (fun h14r => ?_)
  ·have h14 := nm h14r
   refine wp_skip ?_
   refine hK11 _ _ ?_; clear hK11
   refine wp_seq_k (fun K16 hK15 => ?_)
   refine wp_block ?_
   refine wp_seq_k (fun K18 hK17 => ?_)
   have hi19 : (i : Int).toNat < xa.length := by omega
   obtain ⟨eb19, eo19, hA19, el19⟩ := Rd.at hRxa (List.getElem?_eq_getElem hi19); cases hA19
   obtain ⟨x19, ex19⟩ : ∃ x, xa[(i : Int).toNat] = x := ⟨_, rfl⟩; rw [ex19] at el19
   have el19 := kVal_open el19
   have hi20 : (i : Int).toNat < xb.length := by omega
   obtain ⟨eb20, eo20, hA20, el20⟩ := Rd.at hRxb (List.getElem?_eq_getElem hi20); cases hA20
   obtain ⟨x20, ex20⟩ : ∃ x, xb[(i : Int).toNat] = x := ⟨_, rfl⟩; rw [ex20] at el20
   have el20 := kVal_open el20
   refine drawnP [fun v => v = .slice (some ⟨eb19, eo19, none⟩) xa.length ca, fun v => v = .int .i64 (i : Int), fun v => v = .pointer (some ⟨eb19, eo19 + (i : Int).toNat * 3, none⟩), fun v => v = .agg #[.int .i64 x19.k, .int .i64 x19.n, str x19.s], fun v => v = .slice (some ⟨eb20, eo20, none⟩) xb.length cb, fun v => v = .int .i64 (i : Int), fun v => v = .pointer (some ⟨eb20, eo20 + (i : Int).toNat * 3, none⟩), fun v => v = .agg #[.int .i64 x20.k, .int .i64 x20.n, str x20.s], fun v => v = .bool (!(decide (x19.k = x20.k) && (decide (x19.n = x20.n) && (x19.s == x20.s && true))))] T.mix rfl HE HS rfl ⟨?_, ?_, ?_, ?_, ?_, ?_, ?_, ?_, ?_, trivial⟩ ?_
   ·intro a w G1 hl HS HE hp
    refine o_move HE rfl rfl ?_; clear HE; intro a HE
    exact ⟨_, _, HS, rfl, HE.get _ _ rfl, HE.defers, rfl⟩
   ·intro a w G1 hl HS HE hp
    refine o_move HE rfl rfl ?_; clear HE; intro a HE
    exact ⟨_, _, HS, rfl, HE.get _ _ rfl, HE.defers, rfl⟩
   ·intro a w G1 hl HS HE hp
    obtain ⟨_, e0, rfl⟩ := hp 0 17 _ rfl rfl rfl; replace HE := HE.add e0
    obtain ⟨_, e1, rfl⟩ := hp 1 18 _ rfl rfl rfl; replace HE := HE.add e1
    refine o_ixL HE rfl rfl rfl T.l24 ⟨by omega, by omega⟩ ?_; clear HE; intro a HE
    exact ⟨_, _, HS, rfl, HE.get _ _ rfl, HE.defers, rfl⟩
   ·intro a w G1 hl HS HE hp
    obtain ⟨_, e2, rfl⟩ := hp 2 19 _ rfl rfl rfl; replace HE := HE.add e2
    refine o_ldIA HE rfl HS rfl (el19.le hl) T.a23 ?_; clear HE; intro a HE
    exact ⟨_, _, HS, rfl, HE.get _ _ rfl, HE.defers, rfl⟩
   ·intro a w G1 hl HS HE hp
    refine o_move HE rfl rfl ?_; clear HE; intro a HE
    exact ⟨_, _, HS, rfl, HE.get _ _ rfl, HE.defers, rfl⟩
   ·intro a w G1 hl HS HE hp
    refine o_move HE rfl rfl ?_; clear HE; intro a HE
    exact ⟨_, _, HS, rfl, HE.get _ _ rfl, HE.defers, rfl⟩
   ·intro a w G1 hl HS HE hp
    obtain ⟨_, e4, rfl⟩ := hp 4 21 _ rfl rfl rfl; replace HE := HE.add e4
    obtain ⟨_, e5, rfl⟩ := hp 5 22 _ rfl rfl rfl; replace HE := HE.add e5
    refine o_ixL HE rfl rfl rfl T.l24 ⟨by omega, by omega⟩ ?_; clear HE; intro a HE
    exact ⟨_, _, HS, rfl, HE.get _ _ rfl, HE.defers, rfl⟩
   ·intro a w G1 hl HS HE hp
    obtain ⟨_, e6, rfl⟩ := hp 6 23 _ rfl rfl rfl; replace HE := HE.add e6
    refine o_ldIA HE rfl HS rfl (el20.le hl) T.a23 ?_; clear HE; intro a HE
    exact ⟨_, _, HS, rfl, HE.get _ _ rfl, HE.defers, rfl⟩
   ·intro a w G1 hl HS HE hp
    obtain ⟨_, e3, rfl⟩ := hp 3 20 _ rfl rfl rfl; replace HE := HE.add e3
    obtain ⟨_, e7, rfl⟩ := hp 7 24 _ rfl rfl rfl; replace HE := HE.add e7
    refine o_neA (b := decide (x19.k = x20.k) && (decide (x19.n = x20.n) && (x19.s == x20.s && true))) HE rfl rfl rfl T.q23 rfl rfl ?_; clear HE; intro a HE
    exact ⟨_, _, HS, rfl, HE.get _ _ rfl, HE.defers, rfl⟩
   clear HE HS; intro a w HS HE hp
   obtain ⟨_, e8, rfl⟩ := hp 8 25 _ rfl rfl; replace HE := HE.add e8
   clear hp
   refine hK17 _ _ ?_; clear hK17
   refine cond HE rfl (fun h21r => ?_) (fun h21r => ?_)
   ·have h21 := nm h21r
    refine sr fun K hK => ?_
    refine rn 1 HE HS ?_; clear HE HS; intro a w HE HS
    apply hK; clear hK K
    refine rt hQ HE HS ?_
    show _ = _
    simp only [packed, Value.bool.injEq]
    have hq := h21r
    rw [Bool.not_eq_true'] at hq
    exact (decide_eq_false fun e => by subst e; exact val_ne hq (ex19.symm.trans ex20)).symm
   ·have h21 := nm h21r
    refine wp_skip ?_
    refine hK15 _ _ ?_; clear hK15
    refine wp_region_lit ?_
    refine rn 3 HE HS ?_; clear HE HS; intro a w HE HS
    have hlt : i < xa.length := by omega
    have hq := h21r
    rw [Bool.not_eq_false'] at hq
    have ht2 : xa.take (i + 1) = xb.take (i + 1) := take_snoc_eq7 ht hlt (by omega) (ex19.trans ((val_eq hq).trans ex20.symm))
    exact ⟨i + 1, ⟨HS, HE.cut ⟨rfl, rfl, rfl, rfl, trivial⟩, ⟨by omega, ht2⟩⟩, by omega⟩
  ·have h14 := nm h14r
   refine wp_exit ?_
   refine hK7 _ _ ?_; clear hK7
   refine sr fun K hK => ?_
   refine rn 1 HE HS ?_; clear HE HS; intro a w HE HS
   apply hK; clear hK K
   refine rt hQ HE HS ?_
   show _ = _
   simp only [packed, Value.bool.injEq]
   exact (decide_eq_true (by rwa [List.take_of_length_le (by omega), List.take_of_length_le (by omega)] at ht)).symm

/-! `incognito/incognitoref10.Same` -/
set_option maxRecDepth 100000 in
set_option maxHeartbeats 4000000 in
theorem c_SameE (x y : Evt) (A1x : Option Addr) (c1x : Nat) (A2x : Option Addr) (c2x : Nat) (A1y : Option Addr) (c1y : Nat) (A2y : Option Addr) (c2y : Nat) (w0 : World) (G : Heap) (hG : Sub G w0) (hr1x : Rd kVal G A1x x.args) (hr2x : Rd kVal G A2x x.out) (hl1x : x.args.length ≤ 9223372036854775807) (hl2x : x.out.length ≤ 9223372036854775807) (hr1y : Rd kVal G A1y y.args) (hr2y : Rd kVal G A2y y.out) (hl1y : y.args.length ≤ 9223372036854775807) (hl2y : y.out.length ≤ 9223372036854775807):
  Calls Tryz.prog 39 #[.agg #[.int .i64 x.time, .int .i64 x.client.k, .int .i64 x.client.n, str x.client.s, .int .i64 x.type, .int .i64 x.model, .int .i64 x.key.k, .int .i64 x.key.n, str x.key.s, .int .i64 x.op, .slice A1x x.args.length c1x, .slice A2x x.out.length c2x, .bool x.noted, str x.note], .agg #[.int .i64 y.time, .int .i64 y.client.k, .int .i64 y.client.n, str y.client.s, .int .i64 y.type, .int .i64 y.model, .int .i64 y.key.k, .int .i64 y.key.n, str y.key.s, .int .i64 y.op, .slice A1y y.args.length c1y, .slice A2y y.out.length c2y, .bool y.noted, str y.note]] w0 (Ret w0 G (fun v _ => v = .bool (decide (x = y)))) := by
 refine enter Tryz.func39 rfl Tryz.ntmps39 rfl ?_
 intro Q hQ a HE
 have HS := St.start0 hG
 refine sr fun K hK => ?_
 refine o_bx14 HE rfl HS rfl ?_; clear HE HS; intro B2 w a HS HE
 refine o_bx14 HE rfl HS rfl ?_; clear HE HS; intro B3 w a HS HE
 refine rn 1 HE HS ?_; clear HE HS; intro a w HE HS
 apply hK; clear hK K
 refine sr fun K hK => ?_
 refine rn 6 HE HS ?_; clear HE HS; intro a w HE HS
 refine cutG 6 16 (.bool ((decide (x.time = y.time)) && (decide (x.client.k = y.client.k) && (decide (x.client.n = y.client.n) && (x.client.s == y.client.s && true))))) HE HS ?_ ?_
 ·refine bsp HE (t := 10) rfl (fun hb2 => ?_) (fun hb2 => ?_)
  ·have hk3 := nm hb2
   refine rn 4 HE HS ?_; clear HE HS; intro a w HE HS
   refine op_on HE rfl rfl hb2 ?_
   refine o_eqA (b := decide (x.client.k = y.client.k) && (decide (x.client.n = y.client.n) && (x.client.s == y.client.s && true))) HE rfl rfl rfl T.q23 rfl rfl ?_; clear HE; intro a HE
   refine rn 1 HE HS ?_; clear HE HS; intro a w HE HS
   exact ⟨HS, HE.cutT (by rw [hb2] <;> rfl)⟩
  ·skip
   refine rn 6 HE HS ?_; clear HE HS; intro a w HE HS
   exact ⟨HS, HE.cutT (by rw [hb2] <;> rfl)⟩
 clear HE HS; intro a w HE HS
 refine rn 1 HE HS ?_; clear HE HS; intro a w HE HS
 refine cutG 6 23 (.bool (((decide (x.time = y.time)) && (decide (x.client.k = y.client.k) && (decide (x.client.n = y.client.n) && (x.client.s == y.client.s && true)))) && (decide (x.type = y.type)))) HE HS ?_ ?_
 ·refine bsp HE (t := 17) rfl (fun hb4 => ?_) (fun hb4 => ?_)
  ·have hk5 := nm hb4
   refine rn 6 HE HS ?_; clear HE HS; intro a w HE HS
   exact ⟨HS, HE.cutT (by rw [hb4] <;> rfl)⟩
  ·skip
   refine rn 6 HE HS ?_; clear HE HS; intro a w HE HS
   exact ⟨HS, HE.cutT (by rw [hb4] <;> rfl)⟩
 clear HE HS; intro a w HE HS
 refine rn 1 HE HS ?_; clear HE HS; intro a w HE HS
 refine cutG 6 30 (.bool ((((decide (x.time = y.time)) && (decide (x.client.k = y.client.k) && (decide (x.client.n = y.client.n) && (x.client.s == y.client.s && true)))) && (decide (x.type = y.type))) && (decide (x.model = y.model)))) HE HS ?_ ?_
 ·refine bsp HE (t := 24) rfl (fun hb6 => ?_) (fun hb6 => ?_)
  ·have hk7 := nm hb6
   refine rn 6 HE HS ?_; clear HE HS; intro a w HE HS
   exact ⟨HS, HE.cutT (by rw [hb6] <;> rfl)⟩
  ·skip
   refine rn 6 HE HS ?_; clear HE HS; intro a w HE HS
   exact ⟨HS, HE.cutT (by rw [hb6] <;> rfl)⟩
 clear HE HS; intro a w HE HS
 refine rn 1 HE HS ?_; clear HE HS; intro a w HE HS
 refine cutG 6 37 (.bool (((((decide (x.time = y.time)) && (decide (x.client.k = y.client.k) && (decide (x.client.n = y.client.n) && (x.client.s == y.client.s && true)))) && (decide (x.type = y.type))) && (decide (x.model = y.model))) && (decide (x.key.k = y.key.k) && (decide (x.key.n = y.key.n) && (x.key.s == y.key.s && true))))) HE HS ?_ ?_
 ·refine bsp HE (t := 31) rfl (fun hb8 => ?_) (fun hb8 => ?_)
  ·have hk9 := nm hb8
   refine rn 4 HE HS ?_; clear HE HS; intro a w HE HS
   refine op_on HE rfl rfl hb8 ?_
   refine o_eqA (b := decide (x.key.k = y.key.k) && (decide (x.key.n = y.key.n) && (x.key.s == y.key.s && true))) HE rfl rfl rfl T.q23 rfl rfl ?_; clear HE; intro a HE
   refine rn 1 HE HS ?_; clear HE HS; intro a w HE HS
   exact ⟨HS, HE.cutT (by rw [hb8] <;> rfl)⟩
  ·skip
   refine rn 6 HE HS ?_; clear HE HS; intro a w HE HS
   exact ⟨HS, HE.cutT (by rw [hb8] <;> rfl)⟩
 clear HE HS; intro a w HE HS
 refine rn 1 HE HS ?_; clear HE HS; intro a w HE HS
 refine cutG 6 44 (.bool ((((((decide (x.time = y.time)) && (decide (x.client.k = y.client.k) && (decide (x.client.n = y.client.n) && (x.client.s == y.client.s && true)))) && (decide (x.type = y.type))) && (decide (x.model = y.model))) && (decide (x.key.k = y.key.k) && (decide (x.key.n = y.key.n) && (x.key.s == y.key.s && true)))) && (decide (x.op = y.op)))) HE HS ?_ ?_
 ·refine bsp HE (t := 38) rfl (fun hb10 => ?_) (fun hb10 => ?_)
  ·have hk11 := nm hb10
   refine rn 6 HE HS ?_; clear HE HS; intro a w HE HS
   exact ⟨HS, HE.cutT (by rw [hb10] <;> rfl)⟩
  ·skip
   refine rn 6 HE HS ?_; clear HE HS; intro a w HE HS
   exact ⟨HS, HE.cutT (by rw [hb10] <;> rfl)⟩
 clear HE HS; intro a w HE HS
 refine rn 1 HE HS ?_; clear HE HS; intro a w HE HS
 refine cutG 6 51 (.bool (((((((decide (x.time = y.time)) && (decide (x.client.k = y.client.k) && (decide (x.client.n = y.client.n) && (x.client.s == y.client.s && true)))) && (decide (x.type = y.type))) && (decide (x.model = y.model))) && (decide (x.key.k = y.key.k) && (decide (x.key.n = y.key.n) && (x.key.s == y.key.s && true)))) && (decide (x.op = y.op))) && (decide (x.args = y.args)))) HE HS ?_ ?_
 ·refine bsp HE (t := 45) rfl (fun hb12 => ?_) (fun hb12 => ?_)
  ·have hk13 := nm hb12
   refine rn 4 HE HS ?_; clear HE HS; intro a w HE HS
   refine op_on HE rfl rfl hb12 ?_
   refine o_callP HE rfl HS rfl rfl T.g54 (c_Same7 x.args _ _ y.args _ _ _ _ HS.sub hr1x (by first | omega | (simp; done) | exact parse_args (by first | omega | (simp; omega)) | exact parse_out (by first | omega | (simp; omega))) hr1y (by first | omega | (simp; done) | exact parse_args (by first | omega | (simp; omega)) | exact parse_out (by first | omega | (simp; omega)))) ?_
   clear HE HS; rintro _ w a HS rfl HE
   refine rn 1 HE HS ?_; clear HE HS; intro a w HE HS
   exact ⟨HS, HE.cutT (by rw [hb12] <;> rfl)⟩
  ·skip
   refine rn 6 HE HS ?_; clear HE HS; intro a w HE HS
   exact ⟨HS, HE.cutT (by rw [hb12] <;> rfl)⟩
 clear HE HS; intro a w HE HS
 refine rn 1 HE HS ?_; clear HE HS; intro a w HE HS
 refine cutG 6 58 (.bool ((((((((decide (x.time = y.time)) && (decide (x.client.k = y.client.k) && (decide (x.client.n = y.client.n) && (x.client.s == y.client.s && true)))) && (decide (x.type = y.type))) && (decide (x.model = y.model))) && (decide (x.key.k = y.key.k) && (decide (x.key.n = y.key.n) && (x.key.s == y.key.s && true)))) && (decide (x.op = y.op))) && (decide (x.args = y.args))) && (decide (x.out = y.out)))) HE HS ?_ ?_
 ·refine bsp HE (t := 52) rfl (fun hb14 => ?_) (fun hb14 => ?_)
  ·have hk15 := nm hb14
   refine rn 4 HE HS ?_; clear HE HS; intro a w HE HS
   refine op_on HE rfl rfl hb14 ?_
   refine o_callP HE rfl HS rfl rfl T.g54 (c_Same7 x.out _ _ y.out _ _ _ _ HS.sub hr2x (by first | omega | (simp; done) | exact parse_args (by first | omega | (simp; omega)) | exact parse_out (by first | omega | (simp; omega))) hr2y (by first | omega | (simp; done) | exact parse_args (by first | omega | (simp; omega)) | exact parse_out (by first | omega | (simp; omega)))) ?_
   clear HE HS; rintro _ w a HS rfl HE
   refine rn 1 HE HS ?_; clear HE HS; intro a w HE HS
   exact ⟨HS, HE.cutT (by rw [hb14] <;> rfl)⟩
  ·skip
   refine rn 6 HE HS ?_; clear HE HS; intro a w HE HS
   exact ⟨HS, HE.cutT (by rw [hb14] <;> rfl)⟩
 clear HE HS; intro a w HE HS
 refine rn 1 HE HS ?_; clear HE HS; intro a w HE HS
 refine cutG 6 65 (.bool (((((((((decide (x.time = y.time)) && (decide (x.client.k = y.client.k) && (decide (x.client.n = y.client.n) && (x.client.s == y.client.s && true)))) && (decide (x.type = y.type))) && (decide (x.model = y.model))) && (decide (x.key.k = y.key.k) && (decide (x.key.n = y.key.n) && (x.key.s == y.key.s && true)))) && (decide (x.op = y.op))) && (decide (x.args = y.args))) && (decide (x.out = y.out))) && (x.noted == y.noted))) HE HS ?_ ?_
 ·refine bsp HE (t := 59) rfl (fun hb16 => ?_) (fun hb16 => ?_)
  ·have hk17 := nm hb16
   refine rn 4 HE HS ?_; clear HE HS; intro a w HE HS
   refine op_on HE rfl rfl hb16 ?_
   refine o_eqB HE rfl rfl rfl Tryz.underlying4 ?_; clear HE; intro a HE
   refine rn 1 HE HS ?_; clear HE HS; intro a w HE HS
   exact ⟨HS, HE.cutT (by rw [hb16] <;> rfl)⟩
  ·skip
   refine rn 6 HE HS ?_; clear HE HS; intro a w HE HS
   exact ⟨HS, HE.cutT (by rw [hb16] <;> rfl)⟩
 clear HE HS; intro a w HE HS
 refine rn 1 HE HS ?_; clear HE HS; intro a w HE HS
 refine cutG 6 72 (.bool ((((((((((decide (x.time = y.time)) && (decide (x.client.k = y.client.k) && (decide (x.client.n = y.client.n) && (x.client.s == y.client.s && true)))) && (decide (x.type = y.type))) && (decide (x.model = y.model))) && (decide (x.key.k = y.key.k) && (decide (x.key.n = y.key.n) && (x.key.s == y.key.s && true)))) && (decide (x.op = y.op))) && (decide (x.args = y.args))) && (decide (x.out = y.out))) && (x.noted == y.noted)) && (x.note == y.note))) HE HS ?_ ?_
 ·refine bsp HE (t := 66) rfl (fun hb18 => ?_) (fun hb18 => ?_)
  ·have hk19 := nm hb18
   refine rn 6 HE HS ?_; clear HE HS; intro a w HE HS
   exact ⟨HS, HE.cutT (by rw [hb18] <;> rfl)⟩
  ·skip
   refine rn 6 HE HS ?_; clear HE HS; intro a w HE HS
   exact ⟨HS, HE.cutT (by rw [hb18] <;> rfl)⟩
 clear HE HS; intro a w HE HS
 refine rn 1 HE HS ?_; clear HE HS; intro a w HE HS
 apply hK; clear hK K
 refine rt hQ HE HS ?_
 show _ = _
 simp only [packed, Value.bool.injEq]
 obtain ⟨xt, ⟨xk, xn, xs⟩, xy, xm, ⟨xkk, xkn, xks⟩, xo, xa, xu, xd, xe⟩ := x
 obtain ⟨yt, ⟨yk, yn, ys⟩, yy, ym, ⟨ykk, ykn, yks⟩, yo, ya, yu, yd, ye⟩ := y
 rw [Bool.eq_iff_iff]
 simp only [Bool.and_eq_true, decide_eq_true_eq, beq_iff_eq, Evt.mk.injEq, Val.mk.injEq, and_true, and_assoc]
end Go.Proofs.YtiinipcmghhacaaGreatDoor.T10
