/- The reading of an event by the reference walked. -/
import Derived.Test.YtiinipcmghhacaaDoorD4
set_option linter.unusedVariables false
set_option linter.unusedSimpArgs false
namespace Go.Proofs.YtiinipcmghhacaaDoor.T10
open Go Go.Proofs.YtiinipcmghhacaaDoor.X
theorem T.F142_0 : fldOf Tryd.prog 142 0 = some (0, 114) := by kernel_rfl
instance : FL Tryd.prog 142 0 0 114 := ⟨T.F142_0⟩
theorem T.F142_3 : fldOf Tryd.prog 142 3 = some (3, 4) := by kernel_rfl
instance : FL Tryd.prog 142 3 3 4 := ⟨T.F142_3⟩
instance : UN Tryd.prog 42 (.slice 41) := ⟨Tryd.underlying42⟩
theorem T.f44_8 : fieldOff Tryd.prog 44 8 = some 12 := by kernel_rfl
instance : FO Tryd.prog 44 8 12 := ⟨T.f44_8⟩
theorem T.f44_9 : fieldOff Tryd.prog 44 9 = some 13 := by kernel_rfl
instance : FO Tryd.prog 44 9 13 := ⟨T.f44_9⟩
theorem T.f97_0 : fieldOff Tryd.prog 97 0 = some 0 := by kernel_rfl
instance : FO Tryd.prog 97 0 0 := ⟨T.f97_0⟩
theorem T.f97_1 : fieldOff Tryd.prog 97 1 = some 1 := by kernel_rfl
instance : FO Tryd.prog 97 1 1 := ⟨T.f97_1⟩
theorem T.f97_2 : fieldOff Tryd.prog 97 2 = some 2 := by kernel_rfl
instance : FO Tryd.prog 97 2 2 := ⟨T.f97_2⟩
theorem T.f97_3 : fieldOff Tryd.prog 97 3 = some 3 := by kernel_rfl
instance : FO Tryd.prog 97 3 3 := ⟨T.f97_3⟩
theorem T.g48 : goFn Tryd.prog 48 = true := by kernel_rfl
theorem T.g49 : goFn Tryd.prog 49 = true := by kernel_rfl
theorem T.g50 : goFn Tryd.prog 50 = true := by kernel_rfl
theorem T.g51 : goFn Tryd.prog 51 = true := by kernel_rfl
theorem T.g52 : goFn Tryd.prog 52 = true := by kernel_rfl
theorem T.g54 : goFn Tryd.prog 54 = true := by kernel_rfl
theorem T.g93 : goFn Tryd.prog 93 = true := by kernel_rfl
theorem T.g94 : goFn Tryd.prog 94 = true := by kernel_rfl
theorem T.g95 : goFn Tryd.prog 95 = true := by kernel_rfl
theorem T.g96 : goFn Tryd.prog 96 = true := by kernel_rfl
theorem T.s114 : scal Tryd.prog 114 = true := by kernel_rfl
instance : SC Tryd.prog 114 := ⟨T.s114⟩
theorem T.s4 : scal Tryd.prog 4 = true := by kernel_rfl
instance : SC Tryd.prog 4 := ⟨T.s4⟩

theorem parseE_err' {s : Bs} {e : Int} (h1 : (noteS s).2.2.2 = 0) (h2 : (wordsS (noteS s).1).2 = 0) (h : (allS (wordsS (noteS s).1).1).2.2 = e) (he : ¬ e = 0) : parseE s = (E0, e) := parseE_err h1 h2 h he
theorem parseE_yes' {s : Bs} {x : Evt} (h1 : (noteS s).2.2.2 = 0) (h2 : (wordsS (noteS s).1).2 = 0) (h : (allS (wordsS (noteS s).1).1).2.2 = 0) (hx : (allS (wordsS (noteS s).1).1).1 = x) : parseE s = ({ x with noted := (noteS s).2.2.1, note := (noteS s).2.1 }, 0) := parseE_yes h1 h2 h hx
theorem getD_at {l : List Bs} {i : Nat} (h : i < l.length) : l[i]? = some (l.getD i []) := by
  rw [List.getD_eq_getElem?_getD, List.getElem?_eq_getElem h]; rfl
theorem getD_mem {l : List Bs} {i : Nat} (h : i < l.length) : l.getD i [] ∈ l := List.mem_of_getElem? (getD_at h)
theorem getD_int {l : List Int} {i : Nat} (h : i < l.length) : l[i] = l.getD i 0 := by
  rw [List.getD_eq_getElem?_getD, List.getElem?_eq_getElem h]; rfl
theorem same_val (a b : Val) : (decide (a.k = b.k) && (decide (a.n = b.n) && (a.s == b.s && true))) = decide (a = b) := by
  rw [Bool.eq_iff_iff]
  simp only [Bool.and_eq_true, decide_eq_true_eq, beq_iff_eq, and_true]
  obtain ⟨k, n, s⟩ := a
  obtain ⟨k', n', s'⟩ := b
  simp [Val.mk.injEq]

theorem val_eq {a b : Val} (h : (decide (a.k = b.k) && (decide (a.n = b.n) && (a.s == b.s && true))) = true) : a = b := by
  obtain ⟨k, n, s⟩ := a
  obtain ⟨k', n', s'⟩ := b
  simp at h
  obtain ⟨rfl, rfl, rfl⟩ := h
  rfl
theorem val_ne {a b : Val} (h : (decide (a.k = b.k) && (decide (a.n = b.n) && (a.s == b.s && true))) = false) : ¬ a = b := by
  rintro rfl
  simp at h
theorem take_snoc_eq7 {α : Type} {a b : List α} {i : Nat} (h : a.take i = b.take i) (ha : i < a.length) (hb : i < b.length) (e : a[i] = b[i]) : a.take (i + 1) = b.take (i + 1) := by
  rw [List.take_add_one, List.take_add_one, h, List.getElem?_eq_getElem ha, List.getElem?_eq_getElem hb, e]
theorem argsL_len : ∀ (ds : List Int) (l : List Bs) (e : Int), (argsL ds l e).1.length = ds.length
  | [], _, _ => rfl
  | d :: r, l, e => by
    show ((valueS d l e).1 :: _).length = _
    rw [List.length_cons, argsL_len r]; rfl
theorem outL_len : ∀ (l : List Bs) (e : Int), (outL l e).1.length ≤ l.length
  | [], _ => Nat.le_refl _
  | x :: r, e => by
    unfold outL
    split
    · have := outL_len r (parseV x).2
      simpa using this
    · exact Nat.zero_le _
theorem nextS_len (l : List Bs) (e : Int) : (nextS l e).2.1.length ≤ l.length := by
  unfold nextS
  by_cases hc : (if l = [] then faultS e 2 else e) = 0
  · rw [if_pos hc]; show (l.drop 1).length ≤ _; simp
  · rw [if_neg hc]; exact Nat.le_refl _
theorem allS_len (l : List Bs) : (allS l).1.args.length ≤ 2 ∧ (allS l).1.out.length ≤ l.length := by
  unfold allS
  dsimp only
  split
  · refine ⟨?_, Nat.zero_le _⟩
    show (invS _ _).2.2.2.1.length ≤ 2
    unfold invS; dsimp only
    rw [argsL_len]
    exact args_len _ _
  · split
    · refine ⟨Nat.zero_le _, ?_⟩
      show (outL _ _).1.length ≤ _
      refine Nat.le_trans (outL_len _ _) ?_
      show (nextS _ _).2.1.length ≤ _
      refine Nat.le_trans (nextS_len _ _) ?_
      rw [value_left]
      exact Nat.le_trans (nextS_len _ _) (nextS_len _ _)
    · exact ⟨Nat.zero_le _, Nat.zero_le _⟩
theorem parseE_len (s : Bs) : (parseE s).1.args.length ≤ 2 ∧ (parseE s).1.out.length ≤ s.length + 1 := by
  have h := allS_len (wordsS (noteS s).1).1
  have h1 := wordsS_len (noteS s).1
  have h2 := note_len s
  unfold parseE
  split
  · exact ⟨Nat.zero_le _, Nat.zero_le _⟩
  split
  · exact ⟨Nat.zero_le _, Nat.zero_le _⟩
  split
  · exact ⟨Nat.zero_le _, Nat.zero_le _⟩
  · exact ⟨h.1, by show (allS _).1.out.length ≤ _; omega⟩
theorem parse_args {s : Bs} (h : s.length ≤ 9223372036854775806) : (parseE s).1.args.length ≤ 9223372036854775807 := by have := parseE_len s; omega
theorem parse_out {s : Bs} (h : s.length ≤ 9223372036854775806) : (parseE s).1.out.length ≤ 9223372036854775807 := by have := parseE_len s; omega
theorem note_behind {s nt : Bs} (h1 : ∀ j (hj : j < s.length), ¬ s[j] = 59) (h2 : ∀ j (hj : j < nt.length), ¬ nt[j] = 10) (h3 : nt.length ≤ 100) : noteS (s ++ [32, 59] ++ nt) = (s, nt, true, 0) := by
  have e : s ++ [32, 59] ++ nt = s ++ 32 :: 59 :: nt := by simp
  rw [e]
  have hlen : (s ++ 32 :: 59 :: nt).length = s.length + 2 + nt.length := by simp; omega
  have at0 : (s ++ 32 :: 59 :: nt)[s.length + 1]'(by omega) = 59 := by
    rw [List.getElem_append_right (by omega)]; simp
  rw [note_at (i := s.length + 1) (by omega) at0]
  · have e1 : (((s.length + 1 : Nat) : Int) + 1).toNat = s.length + 2 := by omega
    have e2 : (((s.length + 1 : Nat) : Int) - 1).toNat = s.length := by omega
    have e3 : (s ++ 32 :: 59 :: nt).drop (s.length + 2) = nt := by
      rw [List.drop_append]
      simp
    have e4 : (s ++ 32 :: 59 :: nt).take s.length = s := by simp
    have e5 : bt (s ++ 32 :: 59 :: nt) (((s.length + 1 : Nat) : Int) - 1) = 32 := by
      rw [show ((s.length + 1 : Nat) : Int) - 1 = ((s.length : Nat) : Int) by omega, bt_nat (by omega), List.getElem_append_right (by omega)]
      simp
    rw [e1, e2, e3, e4, e5, if_neg]
    have e6 : Lib.indexByte nt 10 = -1 := idx_none h2
    rw [e6]
    rintro ((h | h) | h | h)
    · omega
    · exact h rfl
    · omega
    · omega
  · intro j hj
    by_cases hjs : j < s.length
    · rw [List.getElem_append_left hjs]; exact h1 j hjs
    · obtain rfl : j = s.length := by omega
      rw [List.getElem_append_right (by omega)]
      simp
theorem notes_law {s nt : Bs} (h1 : ∀ j (hj : j < s.length), ¬ s[j] = 59) (h2 : ∀ j (hj : j < nt.length), ¬ nt[j] = 10) (h3 : nt.length ≤ 100) :
    (parseE (s ++ [32, 59] ++ nt)).2 = (parseE s).2 ∧ ((parseE s).2 = 0 → ({ (parseE s).1 with noted := false, note := [] } : Evt) = { (parseE (s ++ [32, 59] ++ nt)).1 with noted := false, note := [] }) := by
  have e1 := note_behind h1 h2 h3
  have e2 : noteS s = (s, [], false, 0) := note_none (i := s.length) (Nat.le_refl _) h1
  unfold parseE
  rw [e1, e2]
  dsimp only
  simp only [not_true, if_false]
  split
  · exact ⟨rfl, fun h => rfl⟩
  · split
    · exact ⟨rfl, fun h => rfl⟩
    · exact ⟨rfl, fun h => rfl⟩
/-! `incognito/incognitoref10.invoked` -/
set_option maxRecDepth 100000 in
set_option maxHeartbeats 4000000 in
theorem c_invoked10 (l : List Bs) (A : Option Addr) (c : Nat) (w0 : World) (G : Heap) (hG : Sub G w0) (hR : Rd Knd.s G A l) (hls : ∀ x ∈ l, x.length ≤ 4294967280) (hn : 3 ≤ l.length) (hlm : l.length ≤ 4294967281):
  Calls Tryd.prog 52 #[.slice A l.length c] w0 (Ret w0 G (fun v G' => ∃ x A1 c1, v = .tuple #[.agg (evtCells x A1 c1 none 0).toArray, .int .i64 (invF (l.drop 3))] ∧ x.args.length ≤ c1 ∧ Rd kVal G' A1 x.args ∧ x.out = [] ∧ (invF (l.drop 3) = 0 → x = invE (l.drop 3)))) := by
 refine enter Tryd.func52 rfl Tryd.ntmps52 rfl ?_
 intro Q hQ a HE
 have HS := St.start0 hG
 refine sr fun K hK => ?_
 refine o_allocZ HE rfl HS ?_; clear HE HS; intro B2 w a HS HE
 refine rn 1 HE HS ?_; clear HE HS; intro a w HE HS
 apply hK; clear hK K
 refine sr fun K hK => ?_
 refine o_allocZ HE rfl HS ?_; clear HE HS; intro B4 w a HS HE
 apply hK; clear hK K
 refine wp_seq_k (fun K4 hK3 => ?_)
 refine sr fun K hK => ?_
 refine rn 4 HE HS ?_; clear HE HS; intro a w HE HS
 refine cutG 6 20 (.bool ((decide ((l.length : Int) < 4)) || (decide (((modelS (l.getD 3 [])).1) = 0)))) HE HS ?_ ?_
 ·refine bsp HE (t := 14) rfl (fun hb5 => ?_) (fun hb5 => ?_)
  ·skip
   refine rn 6 HE HS ?_; clear HE HS; intro a w HE HS
   exact ⟨HS, HE.cutT (by rw [hb5]; rfl)⟩
  ·have hk6 := nm hb5
   refine rn 1 HE HS ?_; clear HE HS; intro a w HE HS
   refine op_on HE rfl rfl hb5 ?_
   have hi7 : (3 : Int).toNat < l.length := by omega
   obtain ⟨eb7, eo7, hA7, el7⟩ := Rd.at hR (List.getElem?_eq_getElem hi7); cases hA7
   rw [show l[(3 : Int).toNat] = (l.getD 3 []) from getD_get (i := 3) hi7 _] at el7
   have el7 := kof_open (enc := fun l => str l) el7
   refine o_ixL HE rfl rfl rfl T.l29 ⟨by omega, by omega⟩ ?_; clear HE; intro a HE
   refine op_on HE rfl rfl hb5 ?_
   refine o_ldI HE rfl HS rfl T.s9 el7 (j := 0) rfl rfl ?_; clear HE; intro a HE
   refine op_on HE rfl rfl hb5 ?_
   refine o_callP HE rfl HS rfl rfl T.g93 (c_Model9 (l.getD 3 []) _ _ HS.sub) ?_
   clear HE HS; rintro _ w a HS rfl HE
   refine rn 2 HE HS ?_; clear HE HS; intro a w HE HS
   exact ⟨HS, HE.cutT (by rw [hb5]; rfl)⟩
 clear HE HS; intro a w HE HS
 apply hK; clear hK K
 refine cond HE rfl (fun h9r => ?_) (fun h9r => ?_)
 ·have h9 := nm h9r
  refine sr fun K hK => ?_
  refine rn 3 HE HS ?_; clear HE HS; intro a w HE HS
  apply hK; clear hK K
  refine rt hQ HE HS ?_
  have he : invF (l.drop 3) = 2 := by
   rcases (Decidable.em (l.length < 4)) with h_9 | h_9
   ·exact inv_0 (by omega)
   ·exact inv_m (getD_at (by omega)) (by rcases h9 with h | h; exfalso; omega; exact h)
  rw [he]
  exact ⟨⟨0, ⟨0, 0, []⟩, 0, 0, ⟨0, 0, []⟩, 0, [], [], false, []⟩, _, _, rfl, Nat.zero_le _, .nil, rfl, fun h => absurd h (by decide)⟩
 ·have h9 := nm h9r
  refine wp_skip ?_
  refine hK3 _ _ ?_; clear hK3
  refine sr fun K hK => ?_
  refine rn 1 HE HS ?_; clear HE HS; intro a w HE HS
  have hi11 : (3 : Int).toNat < l.length := by omega
  obtain ⟨eb11, eo11, hA11, el11⟩ := Rd.at hR (List.getElem?_eq_getElem hi11); cases hA11
  rw [show l[(3 : Int).toNat] = (l.getD 3 []) from getD_get (i := 3) hi11 _] at el11
  have el11 := kof_open (enc := fun l => str l) el11
  refine o_ixL HE rfl rfl rfl T.l29 ⟨by omega, by omega⟩ ?_; clear HE; intro a HE
  refine o_ldI HE rfl HS rfl T.s9 el11 (j := 0) rfl rfl ?_; clear HE; intro a HE
  refine o_callP HE rfl HS rfl rfl T.g93 (c_Model9 (l.getD 3 []) _ _ HS.sub) ?_
  clear HE HS; rintro _ w a HS rfl HE
  refine rn 2 HE HS ?_; clear HE HS; intro a w HE HS
  apply hK; clear hK K
  refine wp_seq_k (fun K14 hK13 => ?_)
  refine sr fun K hK => ?_
  refine rn 3 HE HS ?_; clear HE HS; intro a w HE HS
  apply hK; clear hK K
  refine cond HE rfl (fun h16r => ?_) (fun h16r => ?_)
  ·have h16 := nm h16r
   refine sr fun K hK => ?_
   refine rn 3 HE HS ?_; clear HE HS; intro a w HE HS
   apply hK; clear hK K
   refine rt hQ HE HS ?_
   have g3 := getD_at (l := l) (i := 3) (by omega)
   have hm : ¬ (modelS (l.getD 3 [])).1 = 0 := h9.2
   have he : invF (l.drop 3) = 2 := inv_1 g3 hm (by omega)
   rw [he]
   exact ⟨⟨0, ⟨0, 0, []⟩, 0, (modelS (l.getD 3 [])).1, (⟨0, 0, []⟩ : Val), 0, [], [], false, []⟩, _, _, rfl, Nat.zero_le _, .nil, rfl, fun h => absurd h (by first | decide | assumption)⟩
  ·have h16 := nm h16r
   refine wp_skip ?_
   refine hK13 _ _ ?_; clear hK13
   refine sr fun K hK => ?_
   refine rn 1 HE HS ?_; clear HE HS; intro a w HE HS
   have hi18 : (4 : Int).toNat < l.length := by omega
   obtain ⟨eb18, eo18, hA18, el18⟩ := Rd.at hR (List.getElem?_eq_getElem hi18); cases hA18
   rw [show l[(4 : Int).toNat] = (l.getD 4 []) from getD_get (i := 4) hi18 _] at el18
   have el18 := kof_open (enc := fun l => str l) el18
   refine o_ixL HE rfl rfl rfl T.l29 ⟨by omega, by omega⟩ ?_; clear HE; intro a HE
   refine o_ldI HE rfl HS rfl T.s9 el18 (j := 0) rfl rfl ?_; clear HE; intro a HE
   have hb4 := hls _ (getD_mem (l := l) (i := 4) (by omega))
   refine o_callP HE rfl HS rfl rfl T.g51 (c_name10 (l.getD 4 []) _ _ HS.sub (by omega)) ?_
   clear HE HS; rintro _ w a HS rfl HE
   refine rn 3 HE HS ?_; clear HE HS; intro a w HE HS
   refine o_allocZ HE rfl HS ?_; clear HE HS; intro B5 w a HS HE
   refine rn 2 HE HS ?_; clear HE HS; intro a w HE HS
   apply hK; clear hK K
   refine wp_seq_k (fun K21 hK20 => ?_)
   refine sr fun K hK => ?_
   refine rn 2 HE HS ?_; clear HE HS; intro a w HE HS
   apply hK; clear hK K
   refine cond HE rfl (fun h23r => ?_) (fun h23r => ?_)
   ·have h23 := nm h23r
    refine sr fun K hK => ?_
    refine rn 4 HE HS ?_; clear HE HS; intro a w HE HS
    apply hK; clear hK K
    refine rt hQ HE HS ?_
    have g3 := getD_at (l := l) (i := 3) (by omega)
    have hm : ¬ (modelS (l.getD 3 [])).1 = 0 := h9.2
    have g4 := getD_at (l := l) (i := 4) (by omega)
    have he : invF (l.drop 3) = nameE (l.getD 4 []) := inv_k g3 hm g4 h23
    rw [he]
    exact ⟨⟨0, ⟨0, 0, []⟩, 0, (modelS (l.getD 3 [])).1, (⟨0, 0, []⟩ : Val), 0, [], [], false, []⟩, _, _, rfl, Nat.zero_le _, .nil, rfl, fun h_9 => absurd h_9 h23⟩
   ·have h23 := nm h23r
    refine wp_skip ?_
    refine hK20 _ _ ?_; clear hK20
    refine sr fun K hK => ?_
    have hvw4 : (parseV (l.getD 4 [])).1.Wf := parse_wf (by omega)
    refine rn 3 HE HS ?_; clear HE HS; intro a w HE HS
    apply hK; clear hK K
    refine wp_seq_k (fun K27 hK26 => ?_)
    refine wp_seq_k (fun K29 hK28 => ?_)
    obtain ⟨eb30, eo30, hc30⟩ : ∃ eb eo, ((decide ((l.length : Int) < 6)) = false → ((some ⟨eb11, eo11, none⟩) : Option Addr) = some ⟨eb, eo, none⟩ ∧ ElAt Knd.s G eb (eo + (5 : Int).toNat * 1) (l.getD 5 [])) := by
     by_cases hg : (decide ((l.length : Int) < 6)) = false
     ·have hg2 := hg; simp only [decide_eq_true_eq, decide_eq_false_iff_not] at hg2; have hi : (5 : Int).toNat < l.length := by omega
      obtain ⟨eb, eo, hA, el⟩ := Rd.at hR (List.getElem?_eq_getElem hi)
      exact ⟨eb, eo, fun _ => ⟨hA, by rw [show l[(5 : Int).toNat] = (l.getD 5 []) from getD_get (i := 5) hi _] at el; exact el⟩⟩
     ·exact ⟨0, 0, fun h => absurd h hg⟩
    refine drawnW [fun v _ => v = .slice (some ⟨eb11, eo11, none⟩) l.length c, fun v _ => v = .int .i64 (l.length : Int), fun v _ => v = .bool (decide ((l.length : Int) < 6)), fun v _ => v = .bool (decide ((l.length : Int) < 6)), fun v _ => (decide ((l.length : Int) < 6)) = false → v = .pointer (some ⟨B4, 5, none⟩), fun v _ => (decide ((l.length : Int) < 6)) = false → v = .int .i64 ((modelS (l.getD 3 [])).1), fun v _ => (decide ((l.length : Int) < 6)) = false → v = .slice (some ⟨eb11, eo11, none⟩) l.length c, fun v _ => (decide ((l.length : Int) < 6)) = false → v = .pointer (some ⟨eb30, eo30 + (5 : Int).toNat * 1, none⟩), fun v _ => (decide ((l.length : Int) < 6)) = false → v = str (l.getD 5 []), fun v _ => (decide ((l.length : Int) < 6)) = false → v = .int .i64 ((opS (l.getD 5 [])).1), fun v G' => (decide ((l.length : Int) < 6)) = false → ∃ A c, v = .agg #[.slice A (doms (findS ((modelS (l.getD 3 [])).1) ((opS (l.getD 5 [])).1)).1.ins).length c, .int .i64 (findS ((modelS (l.getD 3 [])).1) ((opS (l.getD 5 [])).1)).1.out, .bool (findS ((modelS (l.getD 3 [])).1) ((opS (l.getD 5 [])).1)).1.may, .bool (findS ((modelS (l.getD 3 [])).1) ((opS (l.getD 5 [])).1)).2] ∧ (doms (findS ((modelS (l.getD 3 [])).1) ((opS (l.getD 5 [])).1)).1.ins).length ≤ c ∧ Rd (Knd.int .i64) G' A (doms (findS ((modelS (l.getD 3 [])).1) ((opS (l.getD 5 [])).1)).1.ins), fun v _ => (decide ((l.length : Int) < 6)) = false → v = .bool ((findS ((modelS (l.getD 3 [])).1) ((opS (l.getD 5 [])).1)).2), fun v _ => (decide ((l.length : Int) < 6)) = false → v = .bool (!((findS ((modelS (l.getD 3 [])).1) ((opS (l.getD 5 [])).1)).2)), fun v _ => v = .bool ((decide ((l.length : Int) < 6)) || (!((findS ((modelS (l.getD 3 [])).1) ((opS (l.getD 5 [])).1)).2)))] T.mix rfl HE HS rfl ⟨fun _ _ _ _ h => h, fun _ _ _ _ h => h, fun _ _ _ _ h => h, fun _ _ _ _ h => h, fun _ _ _ _ h => h, fun _ _ _ _ h => h, fun _ _ _ _ h => h, fun _ _ _ _ h => h, fun _ _ _ _ h => h, fun _ _ _ _ h => h, fun _ _ _ h hx hb => (let ⟨A2, c2, h1, h2, h3⟩ := (hx hb); ⟨A2, c2, h1, h2, h3.le h⟩), fun _ _ _ _ h => h, fun _ _ _ _ h => h, fun _ _ _ _ h => h, trivial⟩ ⟨?_, ?_, ?_, ?_, ?_, ?_, ?_, ?_, ?_, ?_, ?_, ?_, ?_, ?_, trivial⟩ ?_
    ·intro a w G1 hl HS HE hp
     refine o_move HE rfl rfl ?_; clear HE; intro a HE
     exact ⟨_, _, _, Heap.le.refl _, HS, rfl, HE.get _ _ rfl, HE.defers, rfl⟩
    ·intro a w G1 hl HS HE hp
     obtain ⟨_, e0, rfl⟩ := hp 0 44 _ rfl rfl rfl; replace HE := HE.add e0
     refine o_lenL HE rfl rfl Tryd.underlying29 ?_; clear HE; intro a HE
     exact ⟨_, _, _, Heap.le.refl _, HS, rfl, HE.get _ _ rfl, HE.defers, rfl⟩
    ·intro a w G1 hl HS HE hp
     obtain ⟨_, e1, rfl⟩ := hp 1 45 _ rfl rfl rfl; replace HE := HE.add e1
     refine o_lss HE rfl rfl rfl ?_; clear HE; intro a HE
     exact ⟨_, _, _, Heap.le.refl _, HS, rfl, HE.get _ _ rfl, HE.defers, rfl⟩
    ·intro a w G1 hl HS HE hp
     obtain ⟨_, e2, rfl⟩ := hp 2 46 _ rfl rfl rfl; replace HE := HE.add e2
     refine o_move HE rfl rfl ?_; clear HE; intro a HE
     exact ⟨_, _, _, Heap.le.refl _, HS, rfl, HE.get _ _ rfl, HE.defers, rfl⟩
    ·intro a w G1 hl HS HE hp
     obtain ⟨_, eg, rfl⟩ := hp 3 47 _ rfl rfl rfl; replace HE := HE.add eg
     refine (Bool.eq_false_or_eq_true (decide ((l.length : Int) < 6))).elim (fun hb => ?_) (fun hb => ?_)
     ·skip
      refine g_off HE rfl rfl rfl hb ?_; clear HE; intro a HE
      exact ⟨_, _, _, Heap.le.refl _, HS, rfl, HE.get _ _ rfl, HE.defers, fun h => absurd (hb.symm.trans h) (by decide)⟩
     ·skip
      refine op_on HE rfl rfl hb ?_
      refine o_fld HE rfl rfl T.f44_3 ?_; clear HE; intro a HE
      exact ⟨_, _, _, Heap.le.refl _, HS, rfl, HE.get _ _ rfl, HE.defers, fun _ => rfl⟩
    ·intro a w G1 hl HS HE hp
     obtain ⟨_, eg, rfl⟩ := hp 3 47 _ rfl rfl rfl; replace HE := HE.add eg
     refine (Bool.eq_false_or_eq_true (decide ((l.length : Int) < 6))).elim (fun hb => ?_) (fun hb => ?_)
     ·skip
      refine g_off HE rfl rfl rfl hb ?_; clear HE; intro a HE
      exact ⟨_, _, _, Heap.le.refl _, HS, rfl, HE.get _ _ rfl, HE.defers, fun h => absurd (hb.symm.trans h) (by decide)⟩
     ·skip
      obtain ⟨_, e4, h4v⟩ := hp 4 48 _ rfl rfl rfl; cases h4v hb; replace HE := HE.add e4
      refine op_on HE rfl rfl hb ?_
      refine o_ld HE rfl HS rfl T.s3 (.there (.here .here)) rfl ?_; clear HE; intro a HE
      exact ⟨_, _, _, Heap.le.refl _, HS, rfl, HE.get _ _ rfl, HE.defers, fun _ => rfl⟩
    ·intro a w G1 hl HS HE hp
     obtain ⟨_, eg, rfl⟩ := hp 3 47 _ rfl rfl rfl; replace HE := HE.add eg
     refine (Bool.eq_false_or_eq_true (decide ((l.length : Int) < 6))).elim (fun hb => ?_) (fun hb => ?_)
     ·skip
      refine g_off HE rfl rfl rfl hb ?_; clear HE; intro a HE
      exact ⟨_, _, _, Heap.le.refl _, HS, rfl, HE.get _ _ rfl, HE.defers, fun h => absurd (hb.symm.trans h) (by decide)⟩
     ·skip
      refine op_on HE rfl rfl hb ?_
      refine o_move HE rfl rfl ?_; clear HE; intro a HE
      exact ⟨_, _, _, Heap.le.refl _, HS, rfl, HE.get _ _ rfl, HE.defers, fun _ => rfl⟩
    ·intro a w G1 hl HS HE hp
     obtain ⟨_, eg, rfl⟩ := hp 3 47 _ rfl rfl rfl; replace HE := HE.add eg
     refine (Bool.eq_false_or_eq_true (decide ((l.length : Int) < 6))).elim (fun hb => ?_) (fun hb => ?_)
     ·skip
      refine g_off HE rfl rfl rfl hb ?_; clear HE; intro a HE
      exact ⟨_, _, _, Heap.le.refl _, HS, rfl, HE.get _ _ rfl, HE.defers, fun h => absurd (hb.symm.trans h) (by decide)⟩
     ·skip
      obtain ⟨_, e6, h6v⟩ := hp 6 50 _ rfl rfl rfl; cases h6v hb; replace HE := HE.add e6
      refine op_on HE rfl rfl hb ?_
      have hbk := hb; simp only [decide_eq_true_eq, decide_eq_false_iff_not] at hbk
      obtain ⟨hA30, el30⟩ := hc30 hb; cases hA30
      refine o_ixL HE rfl rfl rfl T.l29 ⟨by omega, by omega⟩ ?_; clear HE; intro a HE
      exact ⟨_, _, _, Heap.le.refl _, HS, rfl, HE.get _ _ rfl, HE.defers, fun _ => rfl⟩
    ·intro a w G1 hl HS HE hp
     obtain ⟨_, eg, rfl⟩ := hp 3 47 _ rfl rfl rfl; replace HE := HE.add eg
     refine (Bool.eq_false_or_eq_true (decide ((l.length : Int) < 6))).elim (fun hb => ?_) (fun hb => ?_)
     ·skip
      refine g_off HE rfl rfl rfl hb ?_; clear HE; intro a HE
      exact ⟨_, _, _, Heap.le.refl _, HS, rfl, HE.get _ _ rfl, HE.defers, fun h => absurd (hb.symm.trans h) (by decide)⟩
     ·skip
      obtain ⟨_, e7, h7v⟩ := hp 7 51 _ rfl rfl rfl; cases h7v hb; replace HE := HE.add e7
      refine op_on HE rfl rfl hb ?_
      obtain ⟨_, el30⟩ := hc30 hb
      have el30 := kof_open (enc := fun l => str l) el30
      refine o_ldI HE rfl HS rfl T.s9 (el30.le hl) (j := 0) rfl rfl ?_; clear HE; intro a HE
      exact ⟨_, _, _, Heap.le.refl _, HS, rfl, HE.get _ _ rfl, HE.defers, fun _ => rfl⟩
    ·intro a w G1 hl HS HE hp
     obtain ⟨_, eg, rfl⟩ := hp 3 47 _ rfl rfl rfl; replace HE := HE.add eg
     refine (Bool.eq_false_or_eq_true (decide ((l.length : Int) < 6))).elim (fun hb => ?_) (fun hb => ?_)
     ·skip
      refine g_off HE rfl rfl rfl hb ?_; clear HE; intro a HE
      exact ⟨_, _, _, Heap.le.refl _, HS, rfl, HE.get _ _ rfl, HE.defers, fun h => absurd (hb.symm.trans h) (by decide)⟩
     ·skip
      obtain ⟨_, e8, h8v⟩ := hp 8 52 _ rfl rfl rfl; cases h8v hb; replace HE := HE.add e8
      refine op_on HE rfl rfl hb ?_
      refine o_callP HE rfl HS rfl rfl T.g95 (c_Op9 (l.getD 5 []) _ _ HS.sub) ?_
      clear HE HS; rintro _ w a HS rfl HE
      exact ⟨_, _, _, Heap.le.refl _, HS, rfl, HE.get _ _ rfl, HE.defers, fun _ => rfl⟩
    ·intro a w G1 hl HS HE hp
     obtain ⟨_, eg, rfl⟩ := hp 3 47 _ rfl rfl rfl; replace HE := HE.add eg
     refine (Bool.eq_false_or_eq_true (decide ((l.length : Int) < 6))).elim (fun hb => ?_) (fun hb => ?_)
     ·skip
      refine g_off HE rfl rfl rfl hb ?_; clear HE; intro a HE
      exact ⟨_, _, _, Heap.le.refl _, HS, rfl, HE.get _ _ rfl, HE.defers, fun h => absurd (hb.symm.trans h) (by decide)⟩
     ·skip
      obtain ⟨_, e5, h5v⟩ := hp 5 49 _ rfl rfl rfl; cases h5v hb; replace HE := HE.add e5
      obtain ⟨_, e9, h9v⟩ := hp 9 53 _ rfl rfl rfl; cases h9v hb; replace HE := HE.add e9
      refine op_on HE rfl rfl hb ?_
      refine o_call HE rfl HS rfl rfl T.g94 (c_Find9 ((modelS (l.getD 3 [])).1) ((opS (l.getD 5 [])).1) _ _ HS.sub) ?_; clear HE HS; rintro _ G2 w a HS hle2 ⟨A2, c2, rfl, hc2, hR2⟩ HE
      exact ⟨_, G2, _, hle2, HS, rfl, HE.get _ _ rfl, HE.defers, fun _ => ⟨_, _, rfl, hc2, hR2⟩⟩
    ·intro a w G1 hl HS HE hp
     obtain ⟨_, eg, rfl⟩ := hp 3 47 _ rfl rfl rfl; replace HE := HE.add eg
     refine (Bool.eq_false_or_eq_true (decide ((l.length : Int) < 6))).elim (fun hb => ?_) (fun hb => ?_)
     ·skip
      refine g_off HE rfl rfl rfl hb ?_; clear HE; intro a HE
      exact ⟨_, _, _, Heap.le.refl _, HS, rfl, HE.get _ _ rfl, HE.defers, fun h => absurd (hb.symm.trans h) (by decide)⟩
     ·skip
      obtain ⟨_, e10, h10v⟩ := hp 10 54 _ rfl rfl rfl; obtain ⟨vA10, vc10, rfl, hcp10, hQ10⟩ := h10v hb; replace HE := HE.add e10
      refine op_on HE rfl rfl hb ?_
      refine o_field (n := 1) HE rfl rfl T.F142_3 rfl (.inl ⟨T.s4, rfl⟩) ?_; clear HE; intro a HE
      exact ⟨_, _, _, Heap.le.refl _, HS, rfl, HE.get _ _ rfl, HE.defers, fun _ => rfl⟩
    ·intro a w G1 hl HS HE hp
     obtain ⟨_, eg, rfl⟩ := hp 3 47 _ rfl rfl rfl; replace HE := HE.add eg
     refine (Bool.eq_false_or_eq_true (decide ((l.length : Int) < 6))).elim (fun hb => ?_) (fun hb => ?_)
     ·skip
      refine g_off HE rfl rfl rfl hb ?_; clear HE; intro a HE
      exact ⟨_, _, _, Heap.le.refl _, HS, rfl, HE.get _ _ rfl, HE.defers, fun h => absurd (hb.symm.trans h) (by decide)⟩
     ·skip
      obtain ⟨_, e11, h11v⟩ := hp 11 55 _ rfl rfl rfl; cases h11v hb; replace HE := HE.add e11
      refine op_on HE rfl rfl hb ?_
      refine o_not HE rfl rfl ?_; clear HE; intro a HE
      exact ⟨_, _, _, Heap.le.refl _, HS, rfl, HE.get _ _ rfl, HE.defers, fun _ => rfl⟩
    ·intro a w G1 hl HS HE hp
     obtain ⟨_, e3, rfl⟩ := hp 3 47 _ rfl rfl rfl; replace HE := HE.add e3
     refine (Bool.eq_false_or_eq_true (decide ((l.length : Int) < 6))).elim (fun hb => ?_) (fun hb => ?_)
     ·skip
      refine o_pick_t HE rfl rfl hb rfl ?_; clear HE; intro a HE
      exact ⟨_, _, _, Heap.le.refl _, HS, rfl, HE.get _ _ rfl, HE.defers, by rw [hb]; rfl⟩
     ·skip
      obtain ⟨_, e12, h12v⟩ := hp 12 56 _ rfl rfl rfl; cases h12v hb; replace HE := HE.add e12
      refine o_pick_f HE rfl rfl hb rfl ?_; clear HE; intro a HE
      exact ⟨_, _, _, Heap.le.refl _, HS, rfl, HE.get _ _ rfl, HE.defers, by rw [hb]; rfl⟩
    clear HE HS; intro a w G31 hle32 HS HE hp
    replace hR := hR.le hle32
    obtain ⟨_, e13, rfl⟩ := hp 13 57 _ rfl rfl; replace HE := HE.add e13
    clear hp
    refine hK28 _ _ ?_; clear hK28
    refine cond HE rfl (fun h33r => ?_) (fun h33r => ?_)
    ·have h33 := nm h33r
     refine sr fun K hK => ?_
     refine rn 3 HE HS ?_; clear HE HS; intro a w HE HS
     apply hK; clear hK K
     refine rt hQ HE HS ?_
     have g3 := getD_at (l := l) (i := 3) (by omega)
     have hm : ¬ (modelS (l.getD 3 [])).1 = 0 := h9.2
     have g4 := getD_at (l := l) (i := 4) (by omega)
     have hk : nameE (l.getD 4 []) = 0 := by simpa using h23
     have he : invF (l.drop 3) = 2 := by
      rcases (Decidable.em (l.length < 6)) with h_9 | h_9
      ·exact inv_2 g3 hm g4 hk (by omega)
      ·exact inv_o g3 hm g4 hk (getD_at (by omega)) (by rcases h33 with h | h; exfalso; omega; exact h)
     rw [he]
     exact ⟨⟨0, ⟨0, 0, []⟩, 0, (modelS (l.getD 3 [])).1, ((parseV (l.getD 4 [])).1), 0, [], [], false, []⟩, _, _, rfl, Nat.zero_le _, .nil, rfl, fun h => absurd h (by first | decide | assumption)⟩
    ·have h33 := nm h33r
     refine wp_skip ?_
     refine hK26 _ _ ?_; clear hK26
     refine sr fun K hK => ?_
     refine rn 1 HE HS ?_; clear HE HS; intro a w HE HS
     have hi35 : (5 : Int).toNat < l.length := by omega
     obtain ⟨eb35, eo35, hA35, el35⟩ := Rd.at hR (List.getElem?_eq_getElem hi35); cases hA35
     rw [show l[(5 : Int).toNat] = (l.getD 5 []) from getD_get (i := 5) hi35 _] at el35
     have el35 := kof_open (enc := fun l => str l) el35
     refine o_ixL HE rfl rfl rfl T.l29 ⟨by omega, by omega⟩ ?_; clear HE; intro a HE
     refine o_ldI HE rfl HS rfl T.s9 el35 (j := 0) rfl rfl ?_; clear HE; intro a HE
     refine o_callP HE rfl HS rfl rfl T.g95 (c_Op9 (l.getD 5 []) _ _ HS.sub) ?_
     clear HE HS; rintro _ w a HS rfl HE
     refine rn 2 HE HS ?_; clear HE HS; intro a w HE HS
     apply hK; clear hK K
     refine sr fun K hK => ?_
     refine rn 4 HE HS ?_; clear HE HS; intro a w HE HS
     refine o_call HE rfl HS rfl rfl T.g94 (c_Find9 ((modelS (l.getD 3 [])).1) ((opS (l.getD 5 [])).1) _ _ HS.sub) ?_
     clear HE HS; rintro _ G37 w a HS hle37 ⟨vA37, vc37, rfl, hcp37, hR37⟩ HE
     replace hR := hR.le hle37
     refine rn 2 HE HS ?_; clear HE HS; intro a w HE HS
     apply hK; clear hK K
     refine wp_seq_k (fun K40 hK39 => ?_)
     refine sr fun K hK => ?_
     refine rn 1 HE HS ?_; clear HE HS; intro a w HE HS
     apply hK; clear hK K
     refine wp_block ?_
     replace HS := HS.drop (M' := [_, _]) (sub_drop (sub_keep (sub_keep sub_nil)))
     replace HS := HS.nilChunk
     have oH43 : X.Own kVal 41 G37 none 0 ([] : List Val) [] := X.Own.nil
     have hdl : (doms (findS (modelS (l.getD 3 [])).1 (opS (l.getD 5 [])).1).1.ins).length ≤ 2 := by unfold doms; rw [List.length_map]; exact find_len _ _
     refine loop (fun (y : Nat × List Val) a' w' => ∃ (oAB410_1 : Option Addr) (ocB410_1 : Nat) (oCB410_1 : Chunk), ∃ GL44, Heap.le G37 GL44 ∧ St w0 G [] GL44 w' [oCB410_1, [(B4, Cells 44 [(0, .int .i64 0), (1, .int .i64 0), (2, .int .i64 0), (3, str []), (4, .int .i64 0), (5, .int .i64 ((modelS (l.getD 3 [])).1)), (6, .int .i64 ((parseV (l.getD 4 [])).1.k)), (7, .int .i64 ((parseV (l.getD 4 [])).1.n)), (8, str ((parseV (l.getD 4 [])).1.s)), (9, .int .i64 ((opS (l.getD 5 [])).1)), (10, .slice oAB410_1 ((y.2).length) ocB410_1), (11, .slice none 0 0), (12, .bool false), (13, str [])])], [(B2, Cells 44 [(0, .int .i64 0), (1, .int .i64 0), (2, .int .i64 0), (3, str []), (4, .int .i64 0), (5, .int .i64 0), (6, .int .i64 0), (7, .int .i64 0), (8, str []), (9, .int .i64 0), (10, .slice none 0 0), (11, .slice none 0 0), (12, .bool false), (13, str [])])]] ∧ Env a' 117 [] [(0, .slice (some ⟨eb11, eo11, none⟩) l.length c), (2, .pointer (some ⟨B2, 0, none⟩)), (4, .pointer (some ⟨B4, 0, none⟩)), (7, .slice vA37 ((doms (findS ((modelS (l.getD 3 [])).1) ((opS (l.getD 5 [])).1)).1.ins).length) vc37), (8, .int .i64 ((y.1 : Nat) : Int))] ∧ X.Own kVal 41 GL44 oAB410_1 ocB410_1 (y.2) oCB410_1 ∧ (y.1 ≤ (doms (findS (modelS (l.getD 3 [])).1 (opS (l.getD 5 [])).1).1.ins).length ∧ y.2.length ≤ y.1 ∧ argsL (doms (findS (modelS (l.getD 3 [])).1 (opS (l.getD 5 [])).1).1.ins) (l.drop 6) 0 = (y.2 ++ (argsL ((doms (findS (modelS (l.getD 3 [])).1 (opS (l.getD 5 [])).1).1.ins).drop y.1) (l.drop (6 + y.1)) 0).1, (argsL ((doms (findS (modelS (l.getD 3 [])).1 (opS (l.getD 5 [])).1).1.ins).drop y.1) (l.drop (6 + y.1)) 0).2))) (fun (y : Nat × List Val) => (doms (findS (modelS (l.getD 3 [])).1 (opS (l.getD 5 [])).1).1.ins).length - y.1) (0, []) ⟨_, _, _, _, Heap.le.refl _, HS, HE.cut ⟨rfl, rfl, rfl, rfl, rfl, trivial⟩, X.Own.nil (K := kVal), ⟨Nat.zero_le _, Nat.le_refl _, rfl⟩⟩ ?_
     clear HE HS; intro y a w ⟨oAB410_1, ocB410_1, oCB410_1, GL44, hle45, HS, HE, oHB410_1, ⟨hy1, hy2, hy3⟩⟩
     replace hR := hR.le hle45
     replace hR37 := hR37.le hle45
     refine wp_seq_k (fun K47 hK46 => ?_)
     refine sr fun K hK => ?_
     refine rn 4 HE HS ?_; clear HE HS; intro a w HE HS
     apply hK; clear hK K
     refine cond HE rfl (fun h49r => ?_) (fun h49r => ?_)
     ·have h49 := nm h49r
      refine wp_skip ?_
      refine hK46 _ _ ?_; clear hK46
      refine wp_seq_k (fun K51 hK50 => ?_)
      refine wp_block ?_
      refine wp_seq_k (fun K53 hK52 => ?_)
      refine sr fun K hK => ?_
      refine rn 5 HE HS ?_; clear HE HS; intro a w HE HS
      apply hK; clear hK K
      refine cond HE rfl (fun h55r => ?_) (fun h55r => ?_)
      ·have h55 := nm h55r
       refine sr fun K hK => ?_
       refine rn 3 HE HS ?_; clear HE HS; intro a w HE HS
       apply hK; clear hK K
       have hcphR58 := oHB410_1.cap
       obtain ⟨G57, hle59, HS', hR58⟩ := X.Own.still HS .here oHB410_1; clear HS; have HS := HS'; clear HS'
       replace hR := hR.le hle59
       replace hR37 := hR37.le hle59
       replace oHB410_1 := oHB410_1.le hle59
       refine rt hQ HE HS ?_
       have g3 := getD_at (l := l) (i := 3) (by omega)
       have hm : ¬ (modelS (l.getD 3 [])).1 = 0 := h9.2
       have g4 := getD_at (l := l) (i := 4) (by omega)
       have hk : nameE (l.getD 4 []) = 0 := by simpa using h23
       have g5 := getD_at (l := l) (i := 5) (by omega)
       have ho : (findS (modelS (l.getD 3 [])).1 (opS (l.getD 5 [])).1).2 = true := by simpa using h33.2
       have he : invF (l.drop 3) = 2 := inv_e1 g3 hm g4 hk g5 ho rfl hy3 (by omega) (by omega)
       rw [he]
       exact ⟨⟨0, ⟨0, 0, []⟩, 0, (modelS (l.getD 3 [])).1, ((parseV (l.getD 4 [])).1), (opS (l.getD 5 [])).1, y.2, [], false, []⟩, _, _, rfl, hcphR58, hR58, rfl, fun h => absurd h (by first | decide | assumption)⟩
      ·have h55 := nm h55r
       refine wp_skip ?_
       refine hK52 _ _ ?_; clear hK52
       refine sr fun K hK => ?_
       refine rn 3 HE HS ?_; clear HE HS; intro a w HE HS
       have hi60 : (6 + ((y.1 : Nat) : Int)).toNat < l.length := by omega
       obtain ⟨eb60, eo60, hA60, el60⟩ := Rd.at hR (List.getElem?_eq_getElem hi60); cases hA60
       rw [show l[(6 + ((y.1 : Nat) : Int)).toNat] = (l.getD (6 + ((y.1 : Nat) : Int)).toNat []) from getD_get (i := (6 + ((y.1 : Nat) : Int)).toNat) hi60 _] at el60
       have el60 := kof_open (enc := fun l => str l) el60
       refine o_ixL HE rfl rfl rfl T.l29 ⟨by omega, by omega⟩ ?_; clear HE; intro a HE
       refine o_ldI HE rfl HS rfl T.s9 el60 (j := 0) rfl rfl ?_; clear HE; intro a HE
       have hb6 := hls _ (getD_mem (l := l) (i := (6 + ((y.1 : Nat) : Int)).toNat) (by omega))
       refine o_callP HE rfl HS rfl rfl T.g53 (c_ParseV (l.getD (6 + ((y.1 : Nat) : Int)).toNat []) _ _ HS.sub (by first | omega | (simp; done) | (simp; omega))) ?_
       clear HE HS; rintro _ w a HS rfl HE
       refine rn 3 HE HS ?_; clear HE HS; intro a w HE HS
       refine o_allocZ HE rfl HS ?_; clear HE HS; intro B9 w a HS HE
       refine rn 2 HE HS ?_; clear HE HS; intro a w HE HS
       apply hK; clear hK K
       refine wp_seq_k (fun K63 hK62 => ?_)
       refine sr fun K hK => ?_
       refine rn 2 HE HS ?_; clear HE HS; intro a w HE HS
       apply hK; clear hK K
       refine cond HE rfl (fun h65r => ?_) (fun h65r => ?_)
       ·have h65 := nm h65r
        refine sr fun K hK => ?_
        refine rn 4 HE HS ?_; clear HE HS; intro a w HE HS
        apply hK; clear hK K
        have hcphR68 := oHB410_1.cap
        obtain ⟨G67, hle69, HS', hR68⟩ := X.Own.still HS (.there .here) oHB410_1; clear HS; have HS := HS'; clear HS'
        replace hR := hR.le hle69
        replace hR37 := hR37.le hle69
        replace oHB410_1 := oHB410_1.le hle69
        refine rt hQ HE HS ?_
        have g3 := getD_at (l := l) (i := 3) (by omega)
        have hm : ¬ (modelS (l.getD 3 [])).1 = 0 := h9.2
        have g4 := getD_at (l := l) (i := 4) (by omega)
        have hk : nameE (l.getD 4 []) = 0 := by simpa using h23
        have g5 := getD_at (l := l) (i := 5) (by omega)
        have ho : (findS (modelS (l.getD 3 [])).1 (opS (l.getD 5 [])).1).2 = true := by simpa using h33.2
        have g6 : l[6 + y.1]? = some (l.getD (6 + ((y.1 : Nat) : Int)).toNat []) := by rw [show (6 + ((y.1 : Nat) : Int)).toNat = 6 + y.1 by omega]; exact getD_at (by omega)
        have he : invF (l.drop 3) = (parseV (l.getD (6 + ((y.1 : Nat) : Int)).toNat [])).2 := inv_e2 g3 hm g4 hk g5 ho rfl hy3 (by omega) g6 h65
        rw [he]
        exact ⟨⟨0, ⟨0, 0, []⟩, 0, (modelS (l.getD 3 [])).1, ((parseV (l.getD 4 [])).1), (opS (l.getD 5 [])).1, y.2, [], false, []⟩, _, _, rfl, hcphR68, hR68, rfl, fun h_9 => absurd h_9 h65⟩
       ·have h65 := nm h65r
        refine wp_skip ?_
        refine hK62 _ _ ?_; clear hK62
        refine wp_seq_k (fun K71 hK70 => ?_)
        refine wp_seq_k (fun K73 hK72 => ?_)
        have hi74 : ((y.1 : Nat) : Int).toNat < (doms (findS ((modelS (l.getD 3 [])).1) ((opS (l.getD 5 [])).1)).1.ins).length := by omega
        obtain ⟨eb74, eo74, hA74, el74⟩ := Rd.at hR37 (List.getElem?_eq_getElem hi74); cases hA74
        rw [show (doms (findS ((modelS (l.getD 3 [])).1) ((opS (l.getD 5 [])).1)).1.ins)[((y.1 : Nat) : Int).toNat] = ((doms (findS ((modelS (l.getD 3 [])).1) ((opS (l.getD 5 [])).1)).1.ins).getD y.1 0) from getD_get (i := y.1) hi74 _] at el74
        have el74 := kof_open el74
        have hvw6 : (parseV (l.getD (6 + ((y.1 : Nat) : Int)).toNat [])).1.Wf := parse_wf (by omega)
        refine drawnP [fun v => v = .slice (some ⟨eb74, eo74, none⟩) ((doms (findS ((modelS (l.getD 3 [])).1) ((opS (l.getD 5 [])).1)).1.ins).length) vc37, fun v => v = .int .i64 ((y.1 : Nat) : Int), fun v => v = .pointer (some ⟨eb74, eo74 + ((y.1 : Nat) : Int).toNat * 1, none⟩), fun v => v = .int .i64 ((doms (findS ((modelS (l.getD 3 [])).1) ((opS (l.getD 5 [])).1)).1.ins).getD y.1 0), fun v => v = .agg #[.int .i64 ((parseV (l.getD (6 + ((y.1 : Nat) : Int)).toNat [])).1.k), .int .i64 ((parseV (l.getD (6 + ((y.1 : Nat) : Int)).toNat [])).1.n), str ((parseV (l.getD (6 + ((y.1 : Nat) : Int)).toNat [])).1.s)], fun v => v = .bool (takesB ((doms (findS ((modelS (l.getD 3 [])).1) ((opS (l.getD 5 [])).1)).1.ins).getD y.1 0) ((parseV (l.getD (6 + ((y.1 : Nat) : Int)).toNat [])).1)), fun v => v = .bool (!(takesB ((doms (findS ((modelS (l.getD 3 [])).1) ((opS (l.getD 5 [])).1)).1.ins).getD y.1 0) ((parseV (l.getD (6 + ((y.1 : Nat) : Int)).toNat [])).1)))] T.mix rfl HE HS rfl ⟨?_, ?_, ?_, ?_, ?_, ?_, ?_, trivial⟩ ?_
        ·intro a w G1 hl HS HE hp
         refine o_move HE rfl rfl ?_; clear HE; intro a HE
         exact ⟨_, _, HS, rfl, HE.get _ _ rfl, HE.defers, rfl⟩
        ·intro a w G1 hl HS HE hp
         refine o_move HE rfl rfl ?_; clear HE; intro a HE
         exact ⟨_, _, HS, rfl, HE.get _ _ rfl, HE.defers, rfl⟩
        ·intro a w G1 hl HS HE hp
         obtain ⟨_, e0, rfl⟩ := hp 0 95 _ rfl rfl rfl; replace HE := HE.add e0
         obtain ⟨_, e1, rfl⟩ := hp 1 96 _ rfl rfl rfl; replace HE := HE.add e1
         refine o_ixL HE rfl rfl rfl T.l114 ⟨by omega, by omega⟩ ?_; clear HE; intro a HE
         exact ⟨_, _, HS, rfl, HE.get _ _ rfl, HE.defers, rfl⟩
        ·intro a w G1 hl HS HE hp
         obtain ⟨_, e2, rfl⟩ := hp 2 97 _ rfl rfl rfl; replace HE := HE.add e2
         refine o_ldI HE rfl HS rfl T.s3 (el74.le hl) (j := 0) rfl rfl ?_; clear HE; intro a HE
         exact ⟨_, _, HS, rfl, HE.get _ _ rfl, HE.defers, rfl⟩
        ·intro a w G1 hl HS HE hp
         refine o_ldA HE rfl HS rfl T.a41 (.here .here) rfl ?_; clear HE; intro a HE
         exact ⟨_, _, HS, rfl, HE.get _ _ rfl, HE.defers, rfl⟩
        ·intro a w G1 hl HS HE hp
         obtain ⟨_, e3, rfl⟩ := hp 3 98 _ rfl rfl rfl; replace HE := HE.add e3
         obtain ⟨_, e4, rfl⟩ := hp 4 99 _ rfl rfl rfl; replace HE := HE.add e4
         refine o_callP HE rfl HS rfl rfl T.g96 (c_Takes9 ((doms (findS ((modelS (l.getD 3 [])).1) ((opS (l.getD 5 [])).1)).1.ins).getD y.1 0) ((parseV (l.getD (6 + ((y.1 : Nat) : Int)).toNat [])).1) _ _ HS.sub (by first | assumption | exact parse_wf (by omega) | (constructor <;> first | assumption | (simp only [I64]; omega) | (simp; omega)))) ?_
         clear HE HS; rintro _ w a HS rfl HE
         exact ⟨_, _, HS, rfl, HE.get _ _ rfl, HE.defers, rfl⟩
        ·intro a w G1 hl HS HE hp
         obtain ⟨_, e5, rfl⟩ := hp 5 100 _ rfl rfl rfl; replace HE := HE.add e5
         refine o_not HE rfl rfl ?_; clear HE; intro a HE
         exact ⟨_, _, HS, rfl, HE.get _ _ rfl, HE.defers, rfl⟩
        clear HE HS; intro a w HS HE hp
        obtain ⟨_, e6, rfl⟩ := hp 6 101 _ rfl rfl; replace HE := HE.add e6
        clear hp
        refine hK72 _ _ ?_; clear hK72
        refine cond HE rfl (fun h75r => ?_) (fun h75r => ?_)
        ·have h75 := nm h75r
         refine sr fun K hK => ?_
         refine rn 3 HE HS ?_; clear HE HS; intro a w HE HS
         apply hK; clear hK K
         have hcphR78 := oHB410_1.cap
         obtain ⟨G77, hle79, HS', hR78⟩ := X.Own.still HS (.there .here) oHB410_1; clear HS; have HS := HS'; clear HS'
         replace hR := hR.le hle79
         replace hR37 := hR37.le hle79
         replace oHB410_1 := oHB410_1.le hle79
         refine rt hQ HE HS ?_
         have g3 := getD_at (l := l) (i := 3) (by omega)
         have hm : ¬ (modelS (l.getD 3 [])).1 = 0 := h9.2
         have g4 := getD_at (l := l) (i := 4) (by omega)
         have hk : nameE (l.getD 4 []) = 0 := by simpa using h23
         have g5 := getD_at (l := l) (i := 5) (by omega)
         have ho : (findS (modelS (l.getD 3 [])).1 (opS (l.getD 5 [])).1).2 = true := by simpa using h33.2
         have g6 : l[6 + y.1]? = some (l.getD (6 + ((y.1 : Nat) : Int)).toNat []) := by rw [show (6 + ((y.1 : Nat) : Int)).toNat = 6 + y.1 by omega]; exact getD_at (by omega)
         have hv0 : (parseV (l.getD (6 + ((y.1 : Nat) : Int)).toNat [])).2 = 0 := by simpa using h65
         have he : invF (l.drop 3) = 2 := inv_e3 g3 hm g4 hk g5 ho rfl hy3 (by omega) g6 hv0 (getD_int (by omega)) (by simpa using h75)
         rw [he]
         exact ⟨⟨0, ⟨0, 0, []⟩, 0, (modelS (l.getD 3 [])).1, ((parseV (l.getD 4 [])).1), (opS (l.getD 5 [])).1, y.2, [], false, []⟩, _, _, rfl, hcphR78, hR78, rfl, fun h => absurd h (by first | decide | assumption)⟩
        ·have h75 := nm h75r
         refine wp_skip ?_
         refine hK70 _ _ ?_; clear hK70
         refine wp_region_lit ?_
         refine rn 3 HE HS ?_; clear HE HS; intro a w HE HS
         refine o_buildSl (cs := #[.int .i64 ((parseV (l.getD (6 + ((y.1 : Nat) : Int)).toNat [])).1.k), .int .i64 ((parseV (l.getD (6 + ((y.1 : Nat) : Int)).toNat [])).1.n), str ((parseV (l.getD (6 + ((y.1 : Nat) : Int)).toNat [])).1.s)]) [(0, _), (1, _), (2, _)] HE rfl HS rfl T.l42 (by kernel_rfl) ⟨rfl, rfl, rfl, trivial⟩ ?_; clear HE HS; intro B106 w a HS HE
         refine o_appendL (K := kVal) (ys := [(parseV (l.getD (6 + ((y.1 : Nat) : Int)).toNat [])).1]) (n := 3) HE rfl HS (.there (.there .here)) oHB410_1 rfl rfl T.p42 (.here .here) rfl ⟨rfl, rfl⟩ rfl rfl (by (simp; omega)) (by (simp; omega)) ?_
         clear HE HS; intro oA80 oc80 oC80 w a HS oH80 HE
         refine rn 2 HE HS ?_; clear HE HS; intro a w HE HS
         refine hK50 _ _ ?_; clear hK50
         refine wp_region_lit ?_
         refine rn 3 HE HS ?_; clear HE HS; intro a w HE HS
         replace HS := HS.drop (M' := [_, _, _]) (sub_keep (sub_drop (sub_drop (sub_keep (sub_keep sub_nil)))))
         have g6 : l[6 + y.1]? = some (l.getD (6 + ((y.1 : Nat) : Int)).toNat []) := by rw [show (6 + ((y.1 : Nat) : Int)).toNat = 6 + y.1 by omega]; exact getD_at (by omega)
         have hnx := inv_next hy3 (by omega) g6 (by simpa using h65) (getD_int (by omega)) (by simpa using h75)
         exact ⟨(y.1 + 1, y.2 ++ [(parseV (l.getD (6 + ((y.1 : Nat) : Int)).toNat [])).1]), ⟨_, _, _, _, hle45, HS, HE.cut ⟨rfl, rfl, rfl, rfl, rfl, trivial⟩, oH80, ⟨by show y.1 + 1 ≤ _; omega, by simp; omega, hnx⟩⟩, by show (doms (findS (modelS (l.getD 3 [])).1 (opS (l.getD 5 [])).1).1.ins).length - (y.1 + 1) < _; omega⟩
     ·have h49 := nm h49r
      refine wp_exit ?_
      refine hK39 _ _ ?_; clear hK39
      refine wp_seq_k (fun K82 hK81 => ?_)
      refine sr fun K hK => ?_
      refine rn 6 HE HS ?_; clear HE HS; intro a w HE HS
      apply hK; clear hK K
      refine cond HE rfl (fun h84r => ?_) (fun h84r => ?_)
      ·have h84 := nm h84r
       refine sr fun K hK => ?_
       refine rn 3 HE HS ?_; clear HE HS; intro a w HE HS
       apply hK; clear hK K
       have hcphR87 := oHB410_1.cap
       obtain ⟨G86, hle88, HS', hR87⟩ := X.Own.still HS .here oHB410_1; clear HS; have HS := HS'; clear HS'
       replace hR := hR.le hle88
       replace hR37 := hR37.le hle88
       replace oHB410_1 := oHB410_1.le hle88
       refine rt hQ HE HS ?_
       have g3 := getD_at (l := l) (i := 3) (by omega)
       have hm : ¬ (modelS (l.getD 3 [])).1 = 0 := h9.2
       have g4 := getD_at (l := l) (i := 4) (by omega)
       have hk : nameE (l.getD 4 []) = 0 := by simpa using h23
       have g5 := getD_at (l := l) (i := 5) (by omega)
       have ho : (findS (modelS (l.getD 3 [])).1 (opS (l.getD 5 [])).1).2 = true := by simpa using h33.2
       have hy9 : y.1 = (doms (findS (modelS (l.getD 3 [])).1 (opS (l.getD 5 [])).1).1.ins).length := by omega
       have hd := inv_done g3 hm g4 hk g5 ho rfl hy3 (by omega)
       have he : invF (l.drop 3) = 2 := by
        unfold invF
        rw [hd]
        show (if 0 < (l.drop (6 + y.1)).length then _ else _) = (2 : Int)
        rw [List.length_drop, if_pos (by omega)]
        rfl
       rw [he]
       exact ⟨⟨0, ⟨0, 0, []⟩, 0, (modelS (l.getD 3 [])).1, ((parseV (l.getD 4 [])).1), (opS (l.getD 5 [])).1, y.2, [], false, []⟩, _, _, rfl, hcphR87, hR87, rfl, fun h => absurd h (by first | decide | assumption)⟩
      ·have h84 := nm h84r
       refine wp_skip ?_
       refine hK81 _ _ ?_; clear hK81
       refine sr fun K hK => ?_
       refine rn 3 HE HS ?_; clear HE HS; intro a w HE HS
       apply hK; clear hK K
       have hcphR91 := oHB410_1.cap
       obtain ⟨G90, hle92, HS', hR91⟩ := X.Own.still HS .here oHB410_1; clear HS; have HS := HS'; clear HS'
       replace hR := hR.le hle92
       replace hR37 := hR37.le hle92
       replace oHB410_1 := oHB410_1.le hle92
       refine rt hQ HE HS ?_
       have g3 := getD_at (l := l) (i := 3) (by omega)
       have hm : ¬ (modelS (l.getD 3 [])).1 = 0 := h9.2
       have g4 := getD_at (l := l) (i := 4) (by omega)
       have hk : nameE (l.getD 4 []) = 0 := by simpa using h23
       have g5 := getD_at (l := l) (i := 5) (by omega)
       have ho : (findS (modelS (l.getD 3 [])).1 (opS (l.getD 5 [])).1).2 = true := by simpa using h33.2
       have hy9 : y.1 = (doms (findS (modelS (l.getD 3 [])).1 (opS (l.getD 5 [])).1).1.ins).length := by omega
       have hd := inv_done g3 hm g4 hk g5 ho rfl hy3 (by omega)
       have he : invF (l.drop 3) = 0 := by
        unfold invF
        rw [hd]
        show (if 0 < (l.drop (6 + y.1)).length then _ else _) = (0 : Int)
        rw [List.length_drop, if_neg (by omega)]
       rw [he]
       exact ⟨⟨0, ⟨0, 0, []⟩, 0, (modelS (l.getD 3 [])).1, ((parseV (l.getD 4 [])).1), (opS (l.getD 5 [])).1, y.2, [], false, []⟩, _, _, rfl, hcphR91, hR91, rfl, fun _ => by unfold invE; rw [hd]⟩

/-! `incognito/incognitoref10.Parse` -/
set_option maxRecDepth 100000 in
set_option maxHeartbeats 4000000 in
theorem c_ParseE10 (s : Bs) (w0 : World) (G : Heap) (hG : Sub G w0) (hl : s.length ≤ 4294967280):
  Calls Tryd.prog 23 #[str s] w0 (Ret w0 G (fun v G' => ∃ A1 c1 A2 c2, v = .tuple #[.agg (evtCells (parseE s).1 A1 c1 A2 c2).toArray, .int .i64 (parseE s).2] ∧ (parseE s).1.args.length ≤ c1 ∧ Rd kVal G' A1 (parseE s).1.args ∧ (parseE s).1.out.length ≤ c2 ∧ Rd kVal G' A2 (parseE s).1.out)) := by
 refine enter Tryd.func23 rfl Tryd.ntmps23 rfl ?_
 intro Q hQ a HE
 have HS := St.start0 hG
 refine sr fun K hK => ?_
 refine o_allocZ HE rfl HS ?_; clear HE HS; intro B2 w a HS HE
 refine rn 1 HE HS ?_; clear HE HS; intro a w HE HS
 apply hK; clear hK K
 refine sr fun K hK => ?_
 refine o_build (cs := #[.int .i64 0, .int .i64 0, .int .i64 0, str [], .int .i64 0, .int .i64 0, .int .i64 0, .int .i64 0, str [], .int .i64 0, .slice none 0 0, .slice none 0 0, .bool false, str []]) HE rfl rfl (by kernel_rfl) ?_; clear HE; intro a HE
 refine o_allocZ HE rfl HS ?_; clear HE HS; intro B4 w a HS HE
 refine rn 1 HE HS ?_; clear HE HS; intro a w HE HS
 apply hK; clear hK K
 refine sr fun K hK => ?_
 refine rn 1 HE HS ?_; clear HE HS; intro a w HE HS
 refine o_callP HE rfl HS rfl rfl T.g48 (c_Note8 s _ _ HS.sub (by first | omega | (simp; done) | (simp; omega) | (have := cutA_len s 59; have := cutB_len s 59; omega))) ?_
 clear HE HS; rintro _ w a HS rfl HE
 refine o_allocZ HE rfl HS ?_; clear HE HS; intro B5 w a HS HE
 refine rn 1 HE HS ?_; clear HE HS; intro a w HE HS
 apply hK; clear hK K
 refine sr fun K hK => ?_
 have hnl := note_len s
 refine rn 2 HE HS ?_; clear HE HS; intro a w HE HS
 refine o_call HE rfl HS rfl rfl T.g49 (c_Words8 ((noteS s).1) _ _ HS.sub (by first | omega | (simp; done) | (simp; omega) | (have := cutA_len s 59; have := cutB_len s 59; omega))) ?_
 clear HE HS; rintro _ G4 w a HS hle4 ⟨vA4, vc4, rfl, hcp4, hR4⟩ HE
 refine rn 5 HE HS ?_; clear HE HS; intro a w HE HS
 apply hK; clear hK K
 refine wp_seq_k (fun K7 hK6 => ?_)
 refine sr fun K hK => ?_
 refine rn 4 HE HS ?_; clear HE HS; intro a w HE HS
 refine cutG 3 30 (.bool ((!(decide ((noteS s).2.2.2 = 0))) || (!(decide ((wordsS ((noteS s).1)).2 = 0))))) HE HS ?_ ?_
 ·refine bsp HE (t := 27) rfl (fun hb8 => ?_) (fun hb8 => ?_)
  ·skip
   refine rn 3 HE HS ?_; clear HE HS; intro a w HE HS
   exact ⟨HS, HE.cutT (by rw [hb8]; rfl)⟩
  ·have hk9 := nm hb8
   refine rn 3 HE HS ?_; clear HE HS; intro a w HE HS
   exact ⟨HS, HE.cutT (by rw [hb8]; rfl)⟩
 clear HE HS; intro a w HE HS
 apply hK; clear hK K
 refine cond HE rfl (fun h11r => ?_) (fun h11r => ?_)
 ·have h11 := nm h11r
  refine sr fun K hK => ?_
  refine rn 3 HE HS ?_; clear HE HS; intro a w HE HS
  apply hK; clear hK K
  refine rt hQ HE HS ?_
  have he : parseE s = (E0, 2) := parseE_bad (by simpa using h11)
  rw [he]
  exact ⟨_, _, _, _, rfl, Nat.zero_le _, .nil, Nat.zero_le _, .nil⟩
 ·have h11 := nm h11r
  refine wp_skip ?_
  refine hK6 _ _ ?_; clear hK6
  refine sr fun K hK => ?_
  have hn1 : (noteS s).2.2.2 = 0 := by simpa using h11.1
  have hn2 : (wordsS (noteS s).1).2 = 0 := by simpa using h11.2
  have hpos := words_pos hn2
  have hwl := wordsS_len (noteS s).1
  have hlsw : ∀ x ∈ (wordsS (noteS s).1).1, x.length ≤ 4294967280 := fun x hx => by have := words_mem hx; omega
  have g0 := getD_at (l := (wordsS (noteS s).1).1) (i := 0) (by omega)
  have hb0 := hlsw _ (getD_mem (l := (wordsS (noteS s).1).1) (i := 0) (by omega))
  refine rn 1 HE HS ?_; clear HE HS; intro a w HE HS
  have hi13 : (0 : Int).toNat < ((wordsS ((noteS s).1)).1).length := by omega
  obtain ⟨eb13, eo13, hA13, el13⟩ := Rd.at hR4 (List.getElem?_eq_getElem hi13); cases hA13
  rw [show ((wordsS ((noteS s).1)).1)[(0 : Int).toNat] = (((wordsS ((noteS s).1)).1).getD 0 []) from getD_get (i := 0) hi13 _] at el13
  have el13 := kof_open (enc := fun l => str l) el13
  refine o_ixL HE rfl rfl rfl T.l29 ⟨by omega, by omega⟩ ?_; clear HE; intro a HE
  refine o_ldI HE rfl HS rfl T.s9 el13 (j := 0) rfl rfl ?_; clear HE; intro a HE
  refine o_callP HE rfl HS rfl rfl T.g50 (c_Count (((wordsS ((noteS s).1)).1).getD 0 []) 9223372036854775807 _ _ HS.sub (by first | omega | (simp; done) | (simp; omega))) ?_
  clear HE HS; rintro _ w a HS rfl HE
  refine rn 5 HE HS ?_; clear HE HS; intro a w HE HS
  apply hK; clear hK K
  refine wp_seq_k (fun K16 hK15 => ?_)
  refine sr fun K hK => ?_
  refine rn 2 HE HS ?_; clear HE HS; intro a w HE HS
  apply hK; clear hK K
  refine cond HE rfl (fun h18r => ?_) (fun h18r => ?_)
  ·have h18 := nm h18r
   refine sr fun K hK => ?_
   refine rn 4 HE HS ?_; clear HE HS; intro a w HE HS
   apply hK; clear hK K
   refine rt hQ HE HS ?_
   have he : parseE s = (E0, erv (countS (((wordsS ((noteS s).1)).1).getD 0 []) 9223372036854775807)) := parseE_err' hn1 hn2 (all_t g0 h18) (h18)
   rw [he]
   exact ⟨_, _, _, _, rfl, Nat.zero_le _, .nil, Nat.zero_le _, .nil⟩
  ·have h18 := nm h18r
   refine wp_skip ?_
   refine hK15 _ _ ?_; clear hK15
   refine wp_seq_k (fun K21 hK20 => ?_)
   refine sr fun K hK => ?_
   refine rn 3 HE HS ?_; clear HE HS; intro a w HE HS
   apply hK; clear hK K
   refine cond HE rfl (fun h23r => ?_) (fun h23r => ?_)
   ·have h23 := nm h23r
    refine sr fun K hK => ?_
    refine rn 3 HE HS ?_; clear HE HS; intro a w HE HS
    apply hK; clear hK K
    refine rt hQ HE HS ?_
    have hc0 : erv (C9 ((wordsS (noteS s).1).1.getD 0 [])) = 0 := by simpa [C9] using h18
    have he : parseE s = (E0, 2) := parseE_err' hn1 hn2 (all_1 g0 hc0 (by omega)) (by decide)
    rw [he]
    exact ⟨_, _, _, _, rfl, Nat.zero_le _, .nil, Nat.zero_le _, .nil⟩
   ·have h23 := nm h23r
    refine wp_skip ?_
    refine hK20 _ _ ?_; clear hK20
    refine sr fun K hK => ?_
    refine rn 1 HE HS ?_; clear HE HS; intro a w HE HS
    have hi25 : (1 : Int).toNat < ((wordsS ((noteS s).1)).1).length := by omega
    obtain ⟨eb25, eo25, hA25, el25⟩ := Rd.at hR4 (List.getElem?_eq_getElem hi25); cases hA25
    rw [show ((wordsS ((noteS s).1)).1)[(1 : Int).toNat] = (((wordsS ((noteS s).1)).1).getD 1 []) from getD_get (i := 1) hi25 _] at el25
    have el25 := kof_open (enc := fun l => str l) el25
    refine o_ixL HE rfl rfl rfl T.l29 ⟨by omega, by omega⟩ ?_; clear HE; intro a HE
    have hb1 := hlsw _ (getD_mem (l := (wordsS (noteS s).1).1) (i := 1) (by omega))
    refine o_ldI HE rfl HS rfl T.s9 el25 (j := 0) rfl rfl ?_; clear HE; intro a HE
    refine o_callP HE rfl HS rfl rfl T.g51 (c_name10 (((wordsS ((noteS s).1)).1).getD 1 []) _ _ HS.sub (by omega)) ?_
    clear HE HS; rintro _ w a HS rfl HE
    refine rn 3 HE HS ?_; clear HE HS; intro a w HE HS
    refine o_allocZ HE rfl HS ?_; clear HE HS; intro B10 w a HS HE
    refine rn 2 HE HS ?_; clear HE HS; intro a w HE HS
    apply hK; clear hK K
    refine wp_seq_k (fun K28 hK27 => ?_)
    refine sr fun K hK => ?_
    refine rn 2 HE HS ?_; clear HE HS; intro a w HE HS
    apply hK; clear hK K
    refine cond HE rfl (fun h30r => ?_) (fun h30r => ?_)
    ·have h30 := nm h30r
     refine sr fun K hK => ?_
     refine rn 4 HE HS ?_; clear HE HS; intro a w HE HS
     apply hK; clear hK K
     refine rt hQ HE HS ?_
     have hc0 : erv (C9 ((wordsS (noteS s).1).1.getD 0 [])) = 0 := by simpa [C9] using h18
     have g1 := getD_at (l := (wordsS (noteS s).1).1) (i := 1) (by omega)
     have he : parseE s = (E0, nameE (((wordsS ((noteS s).1)).1).getD 1 [])) := parseE_err' hn1 hn2 (all_c g0 hc0 g1 h30) (h30)
     rw [he]
     exact ⟨_, _, _, _, rfl, Nat.zero_le _, .nil, Nat.zero_le _, .nil⟩
    ·have h30 := nm h30r
     refine wp_skip ?_
     refine hK27 _ _ ?_; clear hK27
     refine wp_seq_k (fun K33 hK32 => ?_)
     refine sr fun K hK => ?_
     refine rn 3 HE HS ?_; clear HE HS; intro a w HE HS
     apply hK; clear hK K
     refine cond HE rfl (fun h35r => ?_) (fun h35r => ?_)
     ·have h35 := nm h35r
      refine sr fun K hK => ?_
      refine rn 3 HE HS ?_; clear HE HS; intro a w HE HS
      apply hK; clear hK K
      refine rt hQ HE HS ?_
      have hc0 : erv (C9 ((wordsS (noteS s).1).1.getD 0 [])) = 0 := by simpa [C9] using h18
      have g1 := getD_at (l := (wordsS (noteS s).1).1) (i := 1) (by omega)
      have hc1 : nameE ((wordsS (noteS s).1).1.getD 1 []) = 0 := by simpa using h30
      have he : parseE s = (E0, 2) := parseE_err' hn1 hn2 (all_2 g0 hc0 g1 hc1 (by omega)) (by decide)
      rw [he]
      exact ⟨_, _, _, _, rfl, Nat.zero_le _, .nil, Nat.zero_le _, .nil⟩
     ·have h35 := nm h35r
      refine wp_skip ?_
      refine hK32 _ _ ?_; clear hK32
      refine sr fun K hK => ?_
      refine o_allocZ HE rfl HS ?_; clear HE HS; intro B11 w a HS HE
      apply hK; clear hK K
      refine wp_seq_k (fun K39 hK38 => ?_)
      refine sr fun K hK => ?_
      refine rn 1 HE HS ?_; clear HE HS; intro a w HE HS
      have hi40 : (2 : Int).toNat < ((wordsS ((noteS s).1)).1).length := by omega
      obtain ⟨eb40, eo40, hA40, el40⟩ := Rd.at hR4 (List.getElem?_eq_getElem hi40); cases hA40
      rw [show ((wordsS ((noteS s).1)).1)[(2 : Int).toNat] = (((wordsS ((noteS s).1)).1).getD 2 []) from getD_get (i := 2) hi40 _] at el40
      have el40 := kof_open (enc := fun l => str l) el40
      refine o_ixL HE rfl rfl rfl T.l29 ⟨by omega, by omega⟩ ?_; clear HE; intro a HE
      refine o_ldI HE rfl HS rfl T.s9 el40 (j := 0) rfl rfl ?_; clear HE; intro a HE
      apply hK; clear hK K
      refine wp_block ?_
      refine sr fun K hK => ?_
      refine rn 2 HE HS ?_; clear HE HS; intro a w HE HS
      apply hK; clear hK K
      refine cond HE rfl (fun h43r => ?_) (fun h43r => ?_)
      ·have h43 := nm h43r
       refine sr fun K hK => ?_
       refine rn 1 HE HS ?_; clear HE HS; intro a w HE HS
       refine o_call HE rfl HS rfl rfl T.g52 (c_invoked10 ((wordsS ((noteS s).1)).1) _ _ _ _ HS.sub hR4 hlsw (by omega) (by omega)) ?_
       clear HE HS; rintro _ G44 w a HS hle44 ⟨ev44, vA44, vc44, rfl, hap44, hA44, hxo44, hxe44⟩ HE
       replace hR4 := hR4.le hle44
       refine rn 5 HE HS ?_; clear HE HS; intro a w HE HS
       apply hK; clear hK K
       refine wp_region_lit ?_
       refine rn 2 HE HS ?_; clear HE HS; intro a w HE HS
       refine hK38 _ _ ?_; clear hK38
       refine wp_seq_k (fun K47 hK46 => ?_)
       refine sr fun K hK => ?_
       refine rn 2 HE HS ?_; clear HE HS; intro a w HE HS
       apply hK; clear hK K
       refine cond HE rfl (fun h49r => ?_) (fun h49r => ?_)
       ·have h49 := nm h49r
        refine sr fun K hK => ?_
        refine rn 4 HE HS ?_; clear HE HS; intro a w HE HS
        apply hK; clear hK K
        refine rt hQ HE HS ?_
        have hc0 : erv (C9 ((wordsS (noteS s).1).1.getD 0 [])) = 0 := by simpa [C9] using h18
        have g1 := getD_at (l := (wordsS (noteS s).1).1) (i := 1) (by omega)
        have hc1 : nameE ((wordsS (noteS s).1).1.getD 1 []) = 0 := by simpa using h30
        have g2 := getD_at (l := (wordsS (noteS s).1).1) (i := 2) (by omega)
        have he : parseE s = (E0, invF (((wordsS ((noteS s).1)).1).drop 3)) := parseE_err' hn1 hn2 ((all_inv g0 hc0 g1 hc1 g2 h43).1) (h49)
        rw [he]
        exact ⟨_, _, _, _, rfl, Nat.zero_le _, .nil, Nat.zero_le _, .nil⟩
       ·have h49 := nm h49r
        refine wp_skip ?_
        refine hK46 _ _ ?_; clear hK46
        refine wp_seq_k (fun K52 hK51 => ?_)
        replace HE := HE.cut (L' := [(0, str s), (2, .pointer (some ⟨B2, 0, none⟩)), (3, .int .i64 0), (4, .pointer (some ⟨B4, 0, none⟩)), (5, .pointer (some ⟨B5, 0, none⟩)), (6, .slice (some ⟨eb13, eo13, none⟩) ((wordsS ((noteS s).1)).1.length) vc4), (7, .bool (decide ((wordsS ((noteS s).1)).2 = 0))), (8, .int .i64 (okv (countS (((wordsS ((noteS s).1)).1).getD 0 []) 9223372036854775807))), (9, .int .i64 (invF (((wordsS ((noteS s).1)).1).drop 3))), (10, .pointer (some ⟨B10, 0, none⟩)), (11, .pointer (some ⟨B11, 0, none⟩)), (15, .agg #[.int .i64 0, .int .i64 0, .int .i64 0, str [], .int .i64 0, .int .i64 0, .int .i64 0, .int .i64 0, str [], .int .i64 0, .slice none 0 0, .slice none 0 0, .bool false, str []]), (16, str s), (17, .agg #[str ((noteS s).1), str ((noteS s).2.1), .bool ((noteS s).2.2.1), .bool (decide ((noteS s).2.2.2 = 0))]), (18, .tuple #[.slice (some ⟨eb13, eo13, none⟩) ((wordsS ((noteS s).1)).1.length) vc4, .bool (decide ((wordsS ((noteS s).1)).2 = 0))]), (19, .pointer (some ⟨B5, 0, none⟩)), (20, str ((noteS s).1)), (21, .tuple #[.slice (some ⟨eb13, eo13, none⟩) ((wordsS ((noteS s).1)).1.length) vc4, .bool (decide ((wordsS ((noteS s).1)).2 = 0))]), (22, .slice (some ⟨eb13, eo13, none⟩) ((wordsS ((noteS s).1)).1.length) vc4), (23, .bool (decide ((wordsS ((noteS s).1)).2 = 0))), (24, .pointer (some ⟨B5, 3, none⟩)), (25, .bool (decide ((noteS s).2.2.2 = 0))), (26, .bool (!(decide ((noteS s).2.2.2 = 0)))), (27, .bool (!(decide ((noteS s).2.2.2 = 0)))), (30, .bool ((!(decide ((noteS s).2.2.2 = 0))) || (!(decide ((wordsS ((noteS s).1)).2 = 0))))), (32, .tuple #[.int .i64 (okv (countS (((wordsS ((noteS s).1)).1).getD 0 []) 9223372036854775807)), .int .i64 (erv (countS (((wordsS ((noteS s).1)).1).getD 0 []) 9223372036854775807))]), (33, .slice (some ⟨eb13, eo13, none⟩) ((wordsS ((noteS s).1)).1.length) vc4), (34, .pointer (some ⟨eb13, eo13 + (0 : Int).toNat * 1, none⟩)), (35, str (((wordsS ((noteS s).1)).1).getD 0 [])), (36, .tuple #[.int .i64 (okv (countS (((wordsS ((noteS s).1)).1).getD 0 []) 9223372036854775807)), .int .i64 (erv (countS (((wordsS ((noteS s).1)).1).getD 0 []) 9223372036854775807))]), (37, .int .i64 (okv (countS (((wordsS ((noteS s).1)).1).getD 0 []) 9223372036854775807))), (38, .int .i64 (erv (countS (((wordsS ((noteS s).1)).1).getD 0 []) 9223372036854775807))), (39, .int .i64 (erv (countS (((wordsS ((noteS s).1)).1).getD 0 []) 9223372036854775807))), (40, .bool (!decide ((erv (countS (((wordsS ((noteS s).1)).1).getD 0 []) 9223372036854775807)) = 0))), (43, .slice (some ⟨eb13, eo13, none⟩) ((wordsS ((noteS s).1)).1.length) vc4), (44, .int .i64 ((wordsS ((noteS s).1)).1.length : Int)), (45, .bool (decide (((wordsS ((noteS s).1)).1.length : Int) < 2))), (47, .tuple #[.agg #[.int .i64 ((parseV (((wordsS ((noteS s).1)).1).getD 1 [])).1.k), .int .i64 ((parseV (((wordsS ((noteS s).1)).1).getD 1 [])).1.n), str ((parseV (((wordsS ((noteS s).1)).1).getD 1 [])).1.s)], .int .i64 (nameE (((wordsS ((noteS s).1)).1).getD 1 []))]), (48, .slice (some ⟨eb13, eo13, none⟩) ((wordsS ((noteS s).1)).1.length) vc4), (49, .pointer (some ⟨eb13, eo13 + (1 : Int).toNat * 1, none⟩)), (50, str (((wordsS ((noteS s).1)).1).getD 1 [])), (51, .tuple #[.agg #[.int .i64 ((parseV (((wordsS ((noteS s).1)).1).getD 1 [])).1.k), .int .i64 ((parseV (((wordsS ((noteS s).1)).1).getD 1 [])).1.n), str ((parseV (((wordsS ((noteS s).1)).1).getD 1 [])).1.s)], .int .i64 (nameE (((wordsS ((noteS s).1)).1).getD 1 []))]), (52, .agg #[.int .i64 ((parseV (((wordsS ((noteS s).1)).1).getD 1 [])).1.k), .int .i64 ((parseV (((wordsS ((noteS s).1)).1).getD 1 [])).1.n), str ((parseV (((wordsS ((noteS s).1)).1).getD 1 [])).1.s)]), (53, .int .i64 (nameE (((wordsS ((noteS s).1)).1).getD 1 []))), (54, .int .i64 (nameE (((wordsS ((noteS s).1)).1).getD 1 []))), (55, .bool (!decide ((nameE (((wordsS ((noteS s).1)).1).getD 1 [])) = 0))), (58, .slice (some ⟨eb13, eo13, none⟩) ((wordsS ((noteS s).1)).1.length) vc4), (59, .int .i64 ((wordsS ((noteS s).1)).1.length : Int)), (60, .bool (decide (((wordsS ((noteS s).1)).1.length : Int) < 3))), (62, .slice (some ⟨eb13, eo13, none⟩) ((wordsS ((noteS s).1)).1.length) vc4), (63, .pointer (some ⟨eb13, eo13 + (2 : Int).toNat * 1, none⟩)), (64, str (((wordsS ((noteS s).1)).1).getD 2 [])), (65, .bool ((((wordsS ((noteS s).1)).1).getD 2 []) == [105, 110, 118, 111, 107, 101])), (66, .bool ((((wordsS ((noteS s).1)).1).getD 2 []) == [105, 110, 118, 111, 107, 101])), (67, .tuple #[.agg #[.int .i64 ev44.time, .int .i64 ev44.client.k, .int .i64 ev44.client.n, str ev44.client.s, .int .i64 ev44.type, .int .i64 ev44.model, .int .i64 ev44.key.k, .int .i64 ev44.key.n, str ev44.key.s, .int .i64 ev44.op, .slice vA44 ev44.args.length vc44, .slice none ev44.out.length 0, .bool ev44.noted, str ev44.note], .int .i64 (invF (((wordsS ((noteS s).1)).1).drop 3))]), (68, .slice (some ⟨eb13, eo13, none⟩) ((wordsS ((noteS s).1)).1.length) vc4), (69, .tuple #[.agg #[.int .i64 ev44.time, .int .i64 ev44.client.k, .int .i64 ev44.client.n, str ev44.client.s, .int .i64 ev44.type, .int .i64 ev44.model, .int .i64 ev44.key.k, .int .i64 ev44.key.n, str ev44.key.s, .int .i64 ev44.op, .slice vA44 ev44.args.length vc44, .slice none ev44.out.length 0, .bool ev44.noted, str ev44.note], .int .i64 (invF (((wordsS ((noteS s).1)).1).drop 3))]), (70, .agg #[.int .i64 ev44.time, .int .i64 ev44.client.k, .int .i64 ev44.client.n, str ev44.client.s, .int .i64 ev44.type, .int .i64 ev44.model, .int .i64 ev44.key.k, .int .i64 ev44.key.n, str ev44.key.s, .int .i64 ev44.op, .slice vA44 ev44.args.length vc44, .slice none ev44.out.length 0, .bool ev44.noted, str ev44.note]), (71, .int .i64 (invF (((wordsS ((noteS s).1)).1).drop 3))), (72, .pointer (some ⟨B11, 4, none⟩)), (113, .int .i64 (invF (((wordsS ((noteS s).1)).1).drop 3))), (114, .bool (!decide ((invF (((wordsS ((noteS s).1)).1).drop 3)) = 0)))]) ⟨rfl, rfl, rfl, rfl, rfl, rfl, rfl, rfl, rfl, rfl, rfl, rfl, rfl, rfl, rfl, rfl, rfl, rfl, rfl, rfl, rfl, rfl, rfl, rfl, rfl, rfl, rfl, rfl, rfl, rfl, rfl, rfl, rfl, rfl, rfl, rfl, rfl, rfl, rfl, rfl, rfl, rfl, rfl, rfl, rfl, rfl, rfl, rfl, rfl, rfl, rfl, rfl, rfl, rfl, rfl, rfl, rfl, rfl, rfl, rfl, rfl, rfl, trivial⟩
        refine drawnF (fun f G' w => Heap.le G44 G' ∧ St w0 G [] G' w [[(B11, Cells 44 [(0, bif f 7 then .int .i64 (okv (countS (((wordsS ((noteS s).1)).1).getD 0 []) 9223372036854775807)) else .int .i64 ev44.time), (1, bif f 9 then .int .i64 ((parseV (((wordsS ((noteS s).1)).1).getD 1 [])).1.k) else .int .i64 ev44.client.k), (2, bif f 9 then .int .i64 ((parseV (((wordsS ((noteS s).1)).1).getD 1 [])).1.n) else .int .i64 ev44.client.n), (3, bif f 9 then str ((parseV (((wordsS ((noteS s).1)).1).getD 1 [])).1.s) else str ev44.client.s), (4, .int .i64 1), (5, .int .i64 ev44.model), (6, .int .i64 ev44.key.k), (7, .int .i64 ev44.key.n), (8, str ev44.key.s), (9, .int .i64 ev44.op), (10, .slice vA44 ev44.args.length vc44), (11, .slice none ev44.out.length 0), (12, bif f 11 then .bool ((noteS s).2.2.1) else .bool ev44.noted), (13, bif f 13 then str ((noteS s).2.1) else str ev44.note)])], [(B10, Cells 41 [(0, .int .i64 ((parseV (((wordsS ((noteS s).1)).1).getD 1 [])).1.k)), (1, .int .i64 ((parseV (((wordsS ((noteS s).1)).1).getD 1 [])).1.n)), (2, str ((parseV (((wordsS ((noteS s).1)).1).getD 1 [])).1.s))])], [(B5, Cells 97 [(0, str ((noteS s).1)), (1, str ((noteS s).2.1)), (2, .bool ((noteS s).2.2.1)), (3, .bool (decide ((noteS s).2.2.2 = 0)))])], [(B4, Cells 44 [(0, .int .i64 0), (1, .int .i64 0), (2, .int .i64 0), (3, str []), (4, .int .i64 0), (5, .int .i64 0), (6, .int .i64 0), (7, .int .i64 0), (8, str []), (9, .int .i64 0), (10, .slice none 0 0), (11, .slice none 0 0), (12, .bool false), (13, str [])])], [(B2, Cells 44 [(0, .int .i64 0), (1, .int .i64 0), (2, .int .i64 0), (3, str []), (4, .int .i64 0), (5, .int .i64 0), (6, .int .i64 0), (7, .int .i64 0), (8, str []), (9, .int .i64 0), (10, .slice none 0 0), (11, .slice none 0 0), (12, .bool false), (13, str [])])]]) [fun v _ => v = .int .i64 (okv (countS (((wordsS ((noteS s).1)).1).getD 0 []) 9223372036854775807)), fun v _ => v = .agg #[.int .i64 ((parseV (((wordsS ((noteS s).1)).1).getD 1 [])).1.k), .int .i64 ((parseV (((wordsS ((noteS s).1)).1).getD 1 [])).1.n), str ((parseV (((wordsS ((noteS s).1)).1).getD 1 [])).1.s)], fun v _ => v = .pointer (some ⟨B5, 2, none⟩), fun v _ => v = .bool ((noteS s).2.2.1), fun v _ => v = .pointer (some ⟨B5, 1, none⟩), fun v _ => v = str ((noteS s).2.1), fun v _ => v = .pointer (some ⟨B11, 0, none⟩), fun _ _ => True, fun v _ => v = .pointer (some ⟨B11, 1, none⟩), fun _ _ => True, fun v _ => v = .pointer (some ⟨B11, 12, none⟩), fun _ _ => True, fun v _ => v = .pointer (some ⟨B11, 13, none⟩), fun _ _ => True] [] T.mix rfl HE ⟨Heap.le.refl _, HS.drew⟩ rfl (by simp) (AllM.get ⟨fun _ _ _ _ h => h, fun _ _ _ _ h => h, fun _ _ _ _ h => h, fun _ _ _ _ h => h, fun _ _ _ _ h => h, fun _ _ _ _ h => h, fun _ _ _ _ h => h, fun _ _ _ _ h => h, fun _ _ _ _ h => h, fun _ _ _ _ h => h, fun _ _ _ _ h => h, fun _ _ _ _ h => h, fun _ _ _ _ h => h, fun _ _ _ _ h => h, trivial⟩) ⟨?_, ?_, ?_, ?_, ?_, ?_, ?_, ?_, ?_, ?_, ?_, ?_, ?_, ?_, trivial⟩ ?_
        ·intro a w G1 f hcl hfi hon hW HE hp hO; obtain ⟨hl, HS⟩ := hW
         refine o_move HE rfl rfl ?_; clear HE; intro a HE
         exact ⟨_, _, Heap.le.refl _, ⟨hl, HS⟩, fun d hd => (by cases hd; exact HE.get _ _ rfl), HE.defers, rfl⟩
        ·intro a w G1 f hcl hfi hon hW HE hp hO; obtain ⟨hl, HS⟩ := hW
         refine o_ldA HE rfl HS rfl T.a41 (.there (.here .here)) rfl ?_; clear HE; intro a HE
         exact ⟨_, _, Heap.le.refl _, ⟨hl, HS⟩, fun d hd => (by cases hd; exact HE.get _ _ rfl), HE.defers, rfl⟩
        ·intro a w G1 f hcl hfi hon hW HE hp hO; obtain ⟨hl, HS⟩ := hW
         refine o_fld HE rfl rfl T.f97_2 ?_; clear HE; intro a HE
         exact ⟨_, _, Heap.le.refl _, ⟨hl, HS⟩, fun d hd => (by cases hd; exact HE.get _ _ rfl), HE.defers, rfl⟩
        ·intro a w G1 f hcl hfi hon hW HE hp hO; obtain ⟨hl, HS⟩ := hW
         obtain ⟨_, e2, rfl⟩ := hp 2 119 _ (hon 2 rfl) rfl rfl; replace HE := HE.add e2
         refine o_ld HE rfl HS rfl T.s4 (.there (.there (.here .here))) rfl ?_; clear HE; intro a HE
         exact ⟨_, _, Heap.le.refl _, ⟨hl, HS⟩, fun d hd => (by cases hd; exact HE.get _ _ rfl), HE.defers, rfl⟩
        ·intro a w G1 f hcl hfi hon hW HE hp hO; obtain ⟨hl, HS⟩ := hW
         refine o_fld HE rfl rfl T.f97_1 ?_; clear HE; intro a HE
         exact ⟨_, _, Heap.le.refl _, ⟨hl, HS⟩, fun d hd => (by cases hd; exact HE.get _ _ rfl), HE.defers, rfl⟩
        ·intro a w G1 f hcl hfi hon hW HE hp hO; obtain ⟨hl, HS⟩ := hW
         obtain ⟨_, e4, rfl⟩ := hp 4 121 _ (hon 4 rfl) rfl rfl; replace HE := HE.add e4
         refine o_ld HE rfl HS rfl T.s9 (.there (.there (.here .here))) rfl ?_; clear HE; intro a HE
         exact ⟨_, _, Heap.le.refl _, ⟨hl, HS⟩, fun d hd => (by cases hd; exact HE.get _ _ rfl), HE.defers, rfl⟩
        ·intro a w G1 f hcl hfi hon hW HE hp hO; obtain ⟨hl, HS⟩ := hW
         refine o_fld HE rfl rfl T.f44_0 ?_; clear HE; intro a HE
         exact ⟨_, _, Heap.le.refl _, ⟨hl, HS⟩, fun d hd => (by cases hd; exact HE.get _ _ rfl), HE.defers, rfl⟩
        ·intro a w G1 f hcl hfi hon hW HE hp hO; obtain ⟨hl, HS⟩ := hW
         obtain ⟨_, e6, rfl⟩ := hp 6 123 _ (hon 6 rfl) rfl rfl; replace HE := HE.add e6
         obtain ⟨_, e0, rfl⟩ := hp 0 117 _ (hon 0 rfl) rfl rfl; replace HE := HE.add e0
         refine o_st HE HS rfl rfl rfl T.s2 (.here .here) rfl ?_; clear HS; intro w HS
         replace HS := HS.conv (L2 := [(0, _), (1, _), (2, _), (3, _), (4, _), (5, _), (6, _), (7, _), (8, _), (9, _), (10, _), (11, _), (12, _), (13, _)]) (.here .here) ⟨rfl, rfl, rfl, rfl, rfl, rfl, rfl, rfl, rfl, rfl, rfl, rfl, rfl, rfl, trivial⟩
         exact ⟨.bool true, _, Heap.le.refl _, ⟨hl, HS⟩, fun d hd => (by cases hd), HE.defers, trivial⟩
        ·intro a w G1 f hcl hfi hon hW HE hp hO; obtain ⟨hl, HS⟩ := hW
         refine o_fld HE rfl rfl T.f44_1 ?_; clear HE; intro a HE
         exact ⟨_, _, Heap.le.refl _, ⟨hl, HS⟩, fun d hd => (by cases hd; exact HE.get _ _ rfl), HE.defers, rfl⟩
        ·intro a w G1 f hcl hfi hon hW HE hp hO; obtain ⟨hl, HS⟩ := hW
         obtain ⟨_, e8, rfl⟩ := hp 8 124 _ (hon 8 rfl) rfl rfl; replace HE := HE.add e8
         obtain ⟨_, e1, rfl⟩ := hp 1 118 _ (hon 1 rfl) rfl rfl; replace HE := HE.add e1
         refine o_stA HE HS rfl rfl rfl T.a41 (.here .here) rfl ?_; clear HS; intro w HS
         replace HS := HS.conv (L2 := [(0, _), (1, _), (2, _), (3, _), (4, _), (5, _), (6, _), (7, _), (8, _), (9, _), (10, _), (11, _), (12, _), (13, _)]) (.here .here) ⟨rfl, rfl, rfl, rfl, rfl, rfl, rfl, rfl, rfl, rfl, rfl, rfl, rfl, rfl, trivial⟩
         exact ⟨.bool true, _, Heap.le.refl _, ⟨hl, HS⟩, fun d hd => (by cases hd), HE.defers, trivial⟩
        ·intro a w G1 f hcl hfi hon hW HE hp hO; obtain ⟨hl, HS⟩ := hW
         refine o_fld HE rfl rfl T.f44_8 ?_; clear HE; intro a HE
         exact ⟨_, _, Heap.le.refl _, ⟨hl, HS⟩, fun d hd => (by cases hd; exact HE.get _ _ rfl), HE.defers, rfl⟩
        ·intro a w G1 f hcl hfi hon hW HE hp hO; obtain ⟨hl, HS⟩ := hW
         obtain ⟨_, e10, rfl⟩ := hp 10 125 _ (hon 10 rfl) rfl rfl; replace HE := HE.add e10
         obtain ⟨_, e3, rfl⟩ := hp 3 120 _ (hon 3 rfl) rfl rfl; replace HE := HE.add e3
         refine o_st HE HS rfl rfl rfl T.s4 (.here .here) rfl ?_; clear HS; intro w HS
         replace HS := HS.conv (L2 := [(0, _), (1, _), (2, _), (3, _), (4, _), (5, _), (6, _), (7, _), (8, _), (9, _), (10, _), (11, _), (12, _), (13, _)]) (.here .here) ⟨rfl, rfl, rfl, rfl, rfl, rfl, rfl, rfl, rfl, rfl, rfl, rfl, rfl, rfl, trivial⟩
         exact ⟨.bool true, _, Heap.le.refl _, ⟨hl, HS⟩, fun d hd => (by cases hd), HE.defers, trivial⟩
        ·intro a w G1 f hcl hfi hon hW HE hp hO; obtain ⟨hl, HS⟩ := hW
         refine o_fld HE rfl rfl T.f44_9 ?_; clear HE; intro a HE
         exact ⟨_, _, Heap.le.refl _, ⟨hl, HS⟩, fun d hd => (by cases hd; exact HE.get _ _ rfl), HE.defers, rfl⟩
        ·intro a w G1 f hcl hfi hon hW HE hp hO; obtain ⟨hl, HS⟩ := hW
         obtain ⟨_, e12, rfl⟩ := hp 12 126 _ (hon 12 rfl) rfl rfl; replace HE := HE.add e12
         obtain ⟨_, e5, rfl⟩ := hp 5 122 _ (hon 5 rfl) rfl rfl; replace HE := HE.add e5
         refine o_st HE HS rfl rfl rfl T.s9 (.here .here) rfl ?_; clear HS; intro w HS
         replace HS := HS.conv (L2 := [(0, _), (1, _), (2, _), (3, _), (4, _), (5, _), (6, _), (7, _), (8, _), (9, _), (10, _), (11, _), (12, _), (13, _)]) (.here .here) ⟨rfl, rfl, rfl, rfl, rfl, rfl, rfl, rfl, rfl, rfl, rfl, rfl, rfl, rfl, trivial⟩
         exact ⟨.bool true, _, Heap.le.refl _, ⟨hl, HS⟩, fun d hd => (by cases hd), HE.defers, trivial⟩
        clear HE HS; intro a w G53 f hle54 hall HW HE hp; obtain ⟨_, HS⟩ := HW
        have hfw7 := hall 7 (by decide)
        have hfw9 := hall 9 (by decide)
        have hfw11 := hall 11 (by decide)
        have hfw13 := hall 13 (by decide)
        simp only [hfw7, hfw9, hfw11, hfw13, cond_true] at HS
        replace hR4 := hR4.le hle54
        replace hA44 := hA44.le hle54
        clear hp hall
        refine hK51 _ _ ?_; clear hK51
        refine sr fun K hK => ?_
        refine rn 3 HE HS ?_; clear HE HS; intro a w HE HS
        apply hK; clear hK K
        refine rt hQ HE HS ?_
        have hc0 : erv (C9 ((wordsS (noteS s).1).1.getD 0 [])) = 0 := by simpa [C9] using h18
        have g1 := getD_at (l := (wordsS (noteS s).1).1) (i := 1) (by omega)
        have hc1 : nameE ((wordsS (noteS s).1).1.getD 1 []) = 0 := by simpa using h30
        have g2 := getD_at (l := (wordsS (noteS s).1).1) (i := 2) (by omega)
        have hf0 : invF ((wordsS (noteS s).1).1.drop 3) = 0 := by simpa using h49
        have hev := hxe44 hf0
        subst hev
        have he : parseE s = ({ { invE ((wordsS (noteS s).1).1.drop 3) with time := okv (C9 ((wordsS (noteS s).1).1.getD 0 [])), client := (parseV ((wordsS (noteS s).1).1.getD 1 [])).1, type := 1 } with noted := (noteS s).2.2.1, note := (noteS s).2.1 }, 0) := parseE_yes' hn1 hn2 ((all_inv g0 hc0 g1 hc1 g2 h43).1.trans hf0) ((all_inv g0 hc0 g1 hc1 g2 h43).2)
        rw [he]
        exact ⟨_, _, _, _, rfl, hap44, hA44, Nat.zero_le _, .nil⟩
      ·have h43 := nm h43r
       refine sr fun K hK => ?_
       refine rn 2 HE HS ?_; clear HE HS; intro a w HE HS
       apply hK; clear hK K
       refine cond HE rfl (fun h57r => ?_) (fun h57r => ?_)
       ·have h57 := nm h57r
        refine sr fun K hK => ?_
        refine rn 2 HE HS ?_; clear HE HS; intro a w HE HS
        apply hK; clear hK K
        refine sr fun K hK => ?_
        refine rn 1 HE HS ?_; clear HE HS; intro a w HE HS
        apply hK; clear hK K
        refine wp_block ?_
        replace HS := HS.nilChunk
        have oH61 : X.Own kVal 41 G4 none 0 ([] : List Val) [] := X.Own.nil
        refine loop (fun (y : Nat × Int × List Val) a' w' => ∃ (oAB1111_1 : Option Addr) (ocB1111_1 : Nat) (oCB1111_1 : Chunk), ∃ GL62, Heap.le G4 GL62 ∧ St w0 G [] GL62 w' [oCB1111_1, [(B11, Cells 44 [(0, .int .i64 0), (1, .int .i64 0), (2, .int .i64 0), (3, str []), (4, .int .i64 2), (5, .int .i64 0), (6, .int .i64 0), (7, .int .i64 0), (8, str []), (9, .int .i64 0), (10, .slice none 0 0), (11, .slice oAB1111_1 ((y.2.2).length) ocB1111_1), (12, .bool false), (13, str [])])], [(B10, Cells 41 [(0, .int .i64 ((parseV (((wordsS ((noteS s).1)).1).getD 1 [])).1.k)), (1, .int .i64 ((parseV (((wordsS ((noteS s).1)).1).getD 1 [])).1.n)), (2, str ((parseV (((wordsS ((noteS s).1)).1).getD 1 [])).1.s))])], [(B5, Cells 97 [(0, str ((noteS s).1)), (1, str ((noteS s).2.1)), (2, .bool ((noteS s).2.2.1)), (3, .bool (decide ((noteS s).2.2.2 = 0)))])], [(B4, Cells 44 [(0, .int .i64 0), (1, .int .i64 0), (2, .int .i64 0), (3, str []), (4, .int .i64 0), (5, .int .i64 0), (6, .int .i64 0), (7, .int .i64 0), (8, str []), (9, .int .i64 0), (10, .slice none 0 0), (11, .slice none 0 0), (12, .bool false), (13, str [])])], [(B2, Cells 44 [(0, .int .i64 0), (1, .int .i64 0), (2, .int .i64 0), (3, str []), (4, .int .i64 0), (5, .int .i64 0), (6, .int .i64 0), (7, .int .i64 0), (8, str []), (9, .int .i64 0), (10, .slice none 0 0), (11, .slice none 0 0), (12, .bool false), (13, str [])])]] ∧ Env a' 128 [] [(2, .pointer (some ⟨B2, 0, none⟩)), (4, .pointer (some ⟨B4, 0, none⟩)), (5, .pointer (some ⟨B5, 0, none⟩)), (6, .slice (some ⟨eb13, eo13, none⟩) ((wordsS ((noteS s).1)).1.length) vc4), (8, .int .i64 (okv (countS (((wordsS ((noteS s).1)).1).getD 0 []) 9223372036854775807))), (9, .int .i64 y.2.1), (10, .pointer (some ⟨B10, 0, none⟩)), (11, .pointer (some ⟨B11, 0, none⟩)), (12, .int .i64 ((y.1 : Nat) : Int))] ∧ X.Own kVal 41 GL62 oAB1111_1 ocB1111_1 (y.2.2) oCB1111_1 ∧ (3 ≤ y.1 ∧ y.1 ≤ (wordsS (noteS s).1).1.length ∧ y.2.2.length ≤ y.1 ∧ outL ((wordsS (noteS s).1).1.drop 3) 0 = (y.2.2 ++ (outL ((wordsS (noteS s).1).1.drop y.1) y.2.1).1, (outL ((wordsS (noteS s).1).1.drop y.1) y.2.1).2))) (fun (y : Nat × Int × List Val) => (wordsS (noteS s).1).1.length - y.1) (3, nameE (((wordsS ((noteS s).1)).1).getD 1 []), []) ⟨_, _, _, _, Heap.le.refl _, HS, HE.cut ⟨rfl, rfl, rfl, rfl, rfl, rfl, rfl, rfl, rfl, trivial⟩, X.Own.nil (K := kVal), ⟨Nat.le_refl _, by dsimp only; omega, Nat.zero_le _, by have hc9 : nameE (((wordsS ((noteS s).1)).1).getD 1 []) = 0 := (by simpa using h30); dsimp only; rw [hc9]; rfl⟩⟩ ?_
        clear HE HS; intro y a w ⟨oAB1111_1, ocB1111_1, oCB1111_1, GL62, hle63, HS, HE, oHB1111_1, ⟨hy1, hy2, hy3, hy4⟩⟩
        replace hR4 := hR4.le hle63
        refine wp_seq_k (fun K65 hK64 => ?_)
        refine sr fun K hK => ?_
        refine rn 5 HE HS ?_; clear HE HS; intro a w HE HS
        refine cutG 3 83 (.bool ((decide (((y.1 : Nat) : Int) < ((wordsS ((noteS s).1)).1.length : Int))) && (decide (y.2.1 = 0)))) HE HS ?_ ?_
        ·refine bsp HE (t := 80) rfl (fun hb66 => ?_) (fun hb66 => ?_)
         ·have hk67 := nm hb66
          refine rn 3 HE HS ?_; clear HE HS; intro a w HE HS
          exact ⟨HS, HE.cutT (by rw [hb66]; rfl)⟩
         ·skip
          refine rn 3 HE HS ?_; clear HE HS; intro a w HE HS
          exact ⟨HS, HE.cutT (by rw [hb66]; rfl)⟩
        clear HE HS; intro a w HE HS
        apply hK; clear hK K
        refine cond HE rfl (fun h69r => ?_) (fun h69r => ?_)
        ·have h69 := nm h69r
         refine wp_skip ?_
         refine hK64 _ _ ?_; clear hK64
         refine wp_seq_k (fun K71 hK70 => ?_)
         refine wp_block ?_
         refine sr fun K hK => ?_
         refine rn 2 HE HS ?_; clear HE HS; intro a w HE HS
         have hi72 : ((y.1 : Nat) : Int).toNat < ((wordsS ((noteS s).1)).1).length := by omega
         obtain ⟨eb72, eo72, hA72, el72⟩ := Rd.at hR4 (List.getElem?_eq_getElem hi72); cases hA72
         rw [show ((wordsS ((noteS s).1)).1)[((y.1 : Nat) : Int).toNat] = (((wordsS ((noteS s).1)).1).getD y.1 []) from getD_get (i := y.1) hi72 _] at el72
         have el72 := kof_open (enc := fun l => str l) el72
         refine o_ixL HE rfl rfl rfl T.l29 ⟨by omega, by omega⟩ ?_; clear HE; intro a HE
         refine o_ldI HE rfl HS rfl T.s9 el72 (j := 0) rfl rfl ?_; clear HE; intro a HE
         have hb9 := hlsw _ (getD_mem (l := (wordsS (noteS s).1).1) (i := y.1) (by omega))
         refine o_callP HE rfl HS rfl rfl T.g53 (c_ParseV (((wordsS ((noteS s).1)).1).getD y.1 []) _ _ HS.sub (by first | omega | (simp; done) | (simp; omega))) ?_
         clear HE HS; rintro _ w a HS rfl HE
         refine rn 3 HE HS ?_; clear HE HS; intro a w HE HS
         refine o_allocZ HE rfl HS ?_; clear HE HS; intro B13 w a HS HE
         refine rn 2 HE HS ?_; clear HE HS; intro a w HE HS
         apply hK; clear hK K
         refine sr fun K hK => ?_
         refine rn 3 HE HS ?_; clear HE HS; intro a w HE HS
         refine o_buildSl (cs := #[.int .i64 ((parseV (((wordsS ((noteS s).1)).1).getD y.1 [])).1.k), .int .i64 ((parseV (((wordsS ((noteS s).1)).1).getD y.1 [])).1.n), str ((parseV (((wordsS ((noteS s).1)).1).getD y.1 [])).1.s)]) [(0, _), (1, _), (2, _)] HE rfl HS rfl T.l42 (by kernel_rfl) ⟨rfl, rfl, rfl, trivial⟩ ?_; clear HE HS; intro B97 w a HS HE
         refine o_appendL (K := kVal) (ys := [(parseV (((wordsS ((noteS s).1)).1).getD y.1 [])).1]) (n := 3) HE rfl HS (.there (.there .here)) oHB1111_1 rfl rfl T.p42 (.here .here) rfl ⟨rfl, rfl⟩ rfl rfl (by (simp; omega)) (by (simp; omega)) ?_
         clear HE HS; intro oA74 oc74 oC74 w a HS oH74 HE
         refine rn 2 HE HS ?_; clear HE HS; intro a w HE HS
         apply hK; clear hK K
         refine wp_region_lit ?_
         refine rn 2 HE HS ?_; clear HE HS; intro a w HE HS
         refine hK70 _ _ ?_; clear hK70
         refine wp_region_lit ?_
         refine rn 3 HE HS ?_; clear HE HS; intro a w HE HS
         replace HS := HS.drop (M' := [_, _, _, _, _, _]) (sub_keep (sub_drop (sub_drop (sub_keep (sub_keep (sub_keep (sub_keep (sub_keep sub_nil))))))))
         have g9 : (wordsS (noteS s).1).1[y.1]? = some ((wordsS (noteS s).1).1.getD y.1 []) := getD_at (by omega)
         have hnx := outL_app g9 (by have h_9 := hy4; rw [show y.2.1 = 0 by omega] at h_9; exact h_9)
         exact ⟨(y.1 + 1, (parseV (((wordsS ((noteS s).1)).1).getD y.1 [])).2, y.2.2 ++ [(parseV (((wordsS ((noteS s).1)).1).getD y.1 [])).1]), ⟨_, _, _, _, hle63, HS, HE.cut ⟨rfl, rfl, rfl, rfl, rfl, rfl, rfl, rfl, rfl, trivial⟩, oH74, ⟨by dsimp only; omega, by dsimp only; omega, by simp; omega, hnx⟩⟩, by show (wordsS (noteS s).1).1.length - (y.1 + 1) < _; omega⟩
        ·have h69 := nm h69r
         refine wp_exit ?_
         refine hK38 _ _ ?_; clear hK38
         refine wp_seq_k (fun K77 hK76 => ?_)
         refine sr fun K hK => ?_
         refine rn 2 HE HS ?_; clear HE HS; intro a w HE HS
         apply hK; clear hK K
         refine cond HE rfl (fun h79r => ?_) (fun h79r => ?_)
         ·have h79 := nm h79r
          refine sr fun K hK => ?_
          refine rn 4 HE HS ?_; clear HE HS; intro a w HE HS
          apply hK; clear hK K
          refine rt hQ HE HS ?_
          have hc0 : erv (C9 ((wordsS (noteS s).1).1.getD 0 [])) = 0 := by simpa [C9] using h18
          have g1 := getD_at (l := (wordsS (noteS s).1).1) (i := 1) (by omega)
          have hc1 : nameE ((wordsS (noteS s).1).1.getD 1 []) = 0 := by simpa using h30
          have g2 := getD_at (l := (wordsS (noteS s).1).1) (i := 2) (by omega)
          have hend : outL ((wordsS (noteS s).1).1.drop y.1) y.2.1 = ([], (wordsS (noteS s).1).1.drop y.1, y.2.1) := outL_end (fun hh => by rcases h69 with h_9 | h_9; exact hh.2 (drop_end (by omega)); exact h_9 hh.1)
          have hoo := hy4
          rw [hend] at hoo
          have hcode : (allS (wordsS (noteS s).1).1).2.2 = y.2.1 := by
           rw [(all_ok g0 hc0 g1 hc1 g2 h57).1, hoo]
           dsimp only
           split
           ·exact faultS_stuck h79
           ·rfl
          have he : parseE s = (E0, y.2.1) := parseE_err' hn1 hn2 (hcode) (h79)
          rw [he]
          exact ⟨_, _, _, _, rfl, Nat.zero_le _, .nil, Nat.zero_le _, .nil⟩
         ·have h79 := nm h79r
          refine wp_skip ?_
          refine hK76 _ _ ?_; clear hK76
          refine wp_seq_k (fun K82 hK81 => ?_)
          replace HE := HE.cut (L' := [(2, .pointer (some ⟨B2, 0, none⟩)), (4, .pointer (some ⟨B4, 0, none⟩)), (5, .pointer (some ⟨B5, 0, none⟩)), (6, .slice (some ⟨eb13, eo13, none⟩) ((wordsS ((noteS s).1)).1.length) vc4), (8, .int .i64 (okv (countS (((wordsS ((noteS s).1)).1).getD 0 []) 9223372036854775807))), (9, .int .i64 y.2.1), (10, .pointer (some ⟨B10, 0, none⟩)), (11, .pointer (some ⟨B11, 0, none⟩)), (12, .int .i64 ((y.1 : Nat) : Int)), (76, .int .i64 ((y.1 : Nat) : Int)), (77, .slice (some ⟨eb13, eo13, none⟩) ((wordsS ((noteS s).1)).1.length) vc4), (78, .int .i64 ((wordsS ((noteS s).1)).1.length : Int)), (79, .bool (decide (((y.1 : Nat) : Int) < ((wordsS ((noteS s).1)).1.length : Int)))), (80, .bool (decide (((y.1 : Nat) : Int) < ((wordsS ((noteS s).1)).1.length : Int)))), (83, .bool ((decide (((y.1 : Nat) : Int) < ((wordsS ((noteS s).1)).1.length : Int))) && (decide (y.2.1 = 0)))), (113, .int .i64 y.2.1), (114, .bool (!decide (y.2.1 = 0)))]) ⟨rfl, rfl, rfl, rfl, rfl, rfl, rfl, rfl, rfl, rfl, rfl, rfl, rfl, rfl, rfl, rfl, rfl, trivial⟩
          refine drawnF (fun f G' w => Heap.le GL62 G' ∧ St w0 G [] G' w [oCB1111_1, [(B11, Cells 44 [(0, bif f 7 then .int .i64 (okv (countS (((wordsS ((noteS s).1)).1).getD 0 []) 9223372036854775807)) else .int .i64 0), (1, bif f 9 then .int .i64 ((parseV (((wordsS ((noteS s).1)).1).getD 1 [])).1.k) else .int .i64 0), (2, bif f 9 then .int .i64 ((parseV (((wordsS ((noteS s).1)).1).getD 1 [])).1.n) else .int .i64 0), (3, bif f 9 then str ((parseV (((wordsS ((noteS s).1)).1).getD 1 [])).1.s) else str []), (4, .int .i64 2), (5, .int .i64 0), (6, .int .i64 0), (7, .int .i64 0), (8, str []), (9, .int .i64 0), (10, .slice none 0 0), (11, .slice oAB1111_1 ((y.2.2).length) ocB1111_1), (12, bif f 11 then .bool ((noteS s).2.2.1) else .bool false), (13, bif f 13 then str ((noteS s).2.1) else str [])])], [(B10, Cells 41 [(0, .int .i64 ((parseV (((wordsS ((noteS s).1)).1).getD 1 [])).1.k)), (1, .int .i64 ((parseV (((wordsS ((noteS s).1)).1).getD 1 [])).1.n)), (2, str ((parseV (((wordsS ((noteS s).1)).1).getD 1 [])).1.s))])], [(B5, Cells 97 [(0, str ((noteS s).1)), (1, str ((noteS s).2.1)), (2, .bool ((noteS s).2.2.1)), (3, .bool (decide ((noteS s).2.2.2 = 0)))])], [(B4, Cells 44 [(0, .int .i64 0), (1, .int .i64 0), (2, .int .i64 0), (3, str []), (4, .int .i64 0), (5, .int .i64 0), (6, .int .i64 0), (7, .int .i64 0), (8, str []), (9, .int .i64 0), (10, .slice none 0 0), (11, .slice none 0 0), (12, .bool false), (13, str [])])], [(B2, Cells 44 [(0, .int .i64 0), (1, .int .i64 0), (2, .int .i64 0), (3, str []), (4, .int .i64 0), (5, .int .i64 0), (6, .int .i64 0), (7, .int .i64 0), (8, str []), (9, .int .i64 0), (10, .slice none 0 0), (11, .slice none 0 0), (12, .bool false), (13, str [])])]]) [fun v _ => v = .int .i64 (okv (countS (((wordsS ((noteS s).1)).1).getD 0 []) 9223372036854775807)), fun v _ => v = .agg #[.int .i64 ((parseV (((wordsS ((noteS s).1)).1).getD 1 [])).1.k), .int .i64 ((parseV (((wordsS ((noteS s).1)).1).getD 1 [])).1.n), str ((parseV (((wordsS ((noteS s).1)).1).getD 1 [])).1.s)], fun v _ => v = .pointer (some ⟨B5, 2, none⟩), fun v _ => v = .bool ((noteS s).2.2.1), fun v _ => v = .pointer (some ⟨B5, 1, none⟩), fun v _ => v = str ((noteS s).2.1), fun v _ => v = .pointer (some ⟨B11, 0, none⟩), fun _ _ => True, fun v _ => v = .pointer (some ⟨B11, 1, none⟩), fun _ _ => True, fun v _ => v = .pointer (some ⟨B11, 12, none⟩), fun _ _ => True, fun v _ => v = .pointer (some ⟨B11, 13, none⟩), fun _ _ => True] [] T.mix rfl HE ⟨Heap.le.refl _, HS.drew⟩ rfl (by simp) (AllM.get ⟨fun _ _ _ _ h => h, fun _ _ _ _ h => h, fun _ _ _ _ h => h, fun _ _ _ _ h => h, fun _ _ _ _ h => h, fun _ _ _ _ h => h, fun _ _ _ _ h => h, fun _ _ _ _ h => h, fun _ _ _ _ h => h, fun _ _ _ _ h => h, fun _ _ _ _ h => h, fun _ _ _ _ h => h, fun _ _ _ _ h => h, fun _ _ _ _ h => h, trivial⟩) ⟨?_, ?_, ?_, ?_, ?_, ?_, ?_, ?_, ?_, ?_, ?_, ?_, ?_, ?_, trivial⟩ ?_
          ·intro a w G1 f hcl hfi hon hW HE hp hO; obtain ⟨hl, HS⟩ := hW
           refine o_move HE rfl rfl ?_; clear HE; intro a HE
           exact ⟨_, _, Heap.le.refl _, ⟨hl, HS⟩, fun d hd => (by cases hd; exact HE.get _ _ rfl), HE.defers, rfl⟩
          ·intro a w G1 f hcl hfi hon hW HE hp hO; obtain ⟨hl, HS⟩ := hW
           refine o_ldA HE rfl HS rfl T.a41 (.there (.there (.here .here))) rfl ?_; clear HE; intro a HE
           exact ⟨_, _, Heap.le.refl _, ⟨hl, HS⟩, fun d hd => (by cases hd; exact HE.get _ _ rfl), HE.defers, rfl⟩
          ·intro a w G1 f hcl hfi hon hW HE hp hO; obtain ⟨hl, HS⟩ := hW
           refine o_fld HE rfl rfl T.f97_2 ?_; clear HE; intro a HE
           exact ⟨_, _, Heap.le.refl _, ⟨hl, HS⟩, fun d hd => (by cases hd; exact HE.get _ _ rfl), HE.defers, rfl⟩
          ·intro a w G1 f hcl hfi hon hW HE hp hO; obtain ⟨hl, HS⟩ := hW
           obtain ⟨_, e2, rfl⟩ := hp 2 119 _ (hon 2 rfl) rfl rfl; replace HE := HE.add e2
           refine o_ld HE rfl HS rfl T.s4 (.there (.there (.there (.here .here)))) rfl ?_; clear HE; intro a HE
           exact ⟨_, _, Heap.le.refl _, ⟨hl, HS⟩, fun d hd => (by cases hd; exact HE.get _ _ rfl), HE.defers, rfl⟩
          ·intro a w G1 f hcl hfi hon hW HE hp hO; obtain ⟨hl, HS⟩ := hW
           refine o_fld HE rfl rfl T.f97_1 ?_; clear HE; intro a HE
           exact ⟨_, _, Heap.le.refl _, ⟨hl, HS⟩, fun d hd => (by cases hd; exact HE.get _ _ rfl), HE.defers, rfl⟩
          ·intro a w G1 f hcl hfi hon hW HE hp hO; obtain ⟨hl, HS⟩ := hW
           obtain ⟨_, e4, rfl⟩ := hp 4 121 _ (hon 4 rfl) rfl rfl; replace HE := HE.add e4
           refine o_ld HE rfl HS rfl T.s9 (.there (.there (.there (.here .here)))) rfl ?_; clear HE; intro a HE
           exact ⟨_, _, Heap.le.refl _, ⟨hl, HS⟩, fun d hd => (by cases hd; exact HE.get _ _ rfl), HE.defers, rfl⟩
          ·intro a w G1 f hcl hfi hon hW HE hp hO; obtain ⟨hl, HS⟩ := hW
           refine o_fld HE rfl rfl T.f44_0 ?_; clear HE; intro a HE
           exact ⟨_, _, Heap.le.refl _, ⟨hl, HS⟩, fun d hd => (by cases hd; exact HE.get _ _ rfl), HE.defers, rfl⟩
          ·intro a w G1 f hcl hfi hon hW HE hp hO; obtain ⟨hl, HS⟩ := hW
           obtain ⟨_, e6, rfl⟩ := hp 6 123 _ (hon 6 rfl) rfl rfl; replace HE := HE.add e6
           obtain ⟨_, e0, rfl⟩ := hp 0 117 _ (hon 0 rfl) rfl rfl; replace HE := HE.add e0
           refine o_st HE HS rfl rfl rfl T.s2 (.there (.here .here)) rfl ?_; clear HS; intro w HS
           replace HS := HS.conv (L2 := [(0, _), (1, _), (2, _), (3, _), (4, _), (5, _), (6, _), (7, _), (8, _), (9, _), (10, _), (11, _), (12, _), (13, _)]) (.there (.here .here)) ⟨rfl, rfl, rfl, rfl, rfl, rfl, rfl, rfl, rfl, rfl, rfl, rfl, rfl, rfl, trivial⟩
           exact ⟨.bool true, _, Heap.le.refl _, ⟨hl, HS⟩, fun d hd => (by cases hd), HE.defers, trivial⟩
          ·intro a w G1 f hcl hfi hon hW HE hp hO; obtain ⟨hl, HS⟩ := hW
           refine o_fld HE rfl rfl T.f44_1 ?_; clear HE; intro a HE
           exact ⟨_, _, Heap.le.refl _, ⟨hl, HS⟩, fun d hd => (by cases hd; exact HE.get _ _ rfl), HE.defers, rfl⟩
          ·intro a w G1 f hcl hfi hon hW HE hp hO; obtain ⟨hl, HS⟩ := hW
           obtain ⟨_, e8, rfl⟩ := hp 8 124 _ (hon 8 rfl) rfl rfl; replace HE := HE.add e8
           obtain ⟨_, e1, rfl⟩ := hp 1 118 _ (hon 1 rfl) rfl rfl; replace HE := HE.add e1
           refine o_stA HE HS rfl rfl rfl T.a41 (.there (.here .here)) rfl ?_; clear HS; intro w HS
           replace HS := HS.conv (L2 := [(0, _), (1, _), (2, _), (3, _), (4, _), (5, _), (6, _), (7, _), (8, _), (9, _), (10, _), (11, _), (12, _), (13, _)]) (.there (.here .here)) ⟨rfl, rfl, rfl, rfl, rfl, rfl, rfl, rfl, rfl, rfl, rfl, rfl, rfl, rfl, trivial⟩
           exact ⟨.bool true, _, Heap.le.refl _, ⟨hl, HS⟩, fun d hd => (by cases hd), HE.defers, trivial⟩
          ·intro a w G1 f hcl hfi hon hW HE hp hO; obtain ⟨hl, HS⟩ := hW
           refine o_fld HE rfl rfl T.f44_8 ?_; clear HE; intro a HE
           exact ⟨_, _, Heap.le.refl _, ⟨hl, HS⟩, fun d hd => (by cases hd; exact HE.get _ _ rfl), HE.defers, rfl⟩
          ·intro a w G1 f hcl hfi hon hW HE hp hO; obtain ⟨hl, HS⟩ := hW
           obtain ⟨_, e10, rfl⟩ := hp 10 125 _ (hon 10 rfl) rfl rfl; replace HE := HE.add e10
           obtain ⟨_, e3, rfl⟩ := hp 3 120 _ (hon 3 rfl) rfl rfl; replace HE := HE.add e3
           refine o_st HE HS rfl rfl rfl T.s4 (.there (.here .here)) rfl ?_; clear HS; intro w HS
           replace HS := HS.conv (L2 := [(0, _), (1, _), (2, _), (3, _), (4, _), (5, _), (6, _), (7, _), (8, _), (9, _), (10, _), (11, _), (12, _), (13, _)]) (.there (.here .here)) ⟨rfl, rfl, rfl, rfl, rfl, rfl, rfl, rfl, rfl, rfl, rfl, rfl, rfl, rfl, trivial⟩
           exact ⟨.bool true, _, Heap.le.refl _, ⟨hl, HS⟩, fun d hd => (by cases hd), HE.defers, trivial⟩
          ·intro a w G1 f hcl hfi hon hW HE hp hO; obtain ⟨hl, HS⟩ := hW
           refine o_fld HE rfl rfl T.f44_9 ?_; clear HE; intro a HE
           exact ⟨_, _, Heap.le.refl _, ⟨hl, HS⟩, fun d hd => (by cases hd; exact HE.get _ _ rfl), HE.defers, rfl⟩
          ·intro a w G1 f hcl hfi hon hW HE hp hO; obtain ⟨hl, HS⟩ := hW
           obtain ⟨_, e12, rfl⟩ := hp 12 126 _ (hon 12 rfl) rfl rfl; replace HE := HE.add e12
           obtain ⟨_, e5, rfl⟩ := hp 5 122 _ (hon 5 rfl) rfl rfl; replace HE := HE.add e5
           refine o_st HE HS rfl rfl rfl T.s9 (.there (.here .here)) rfl ?_; clear HS; intro w HS
           replace HS := HS.conv (L2 := [(0, _), (1, _), (2, _), (3, _), (4, _), (5, _), (6, _), (7, _), (8, _), (9, _), (10, _), (11, _), (12, _), (13, _)]) (.there (.here .here)) ⟨rfl, rfl, rfl, rfl, rfl, rfl, rfl, rfl, rfl, rfl, rfl, rfl, rfl, rfl, trivial⟩
           exact ⟨.bool true, _, Heap.le.refl _, ⟨hl, HS⟩, fun d hd => (by cases hd), HE.defers, trivial⟩
          clear HE HS; intro a w G83 f hle84 hall HW HE hp; obtain ⟨_, HS⟩ := HW
          have hfw7 := hall 7 (by decide)
          have hfw9 := hall 9 (by decide)
          have hfw11 := hall 11 (by decide)
          have hfw13 := hall 13 (by decide)
          simp only [hfw7, hfw9, hfw11, hfw13, cond_true] at HS
          replace hR4 := hR4.le hle84
          replace oHB1111_1 := oHB1111_1.le hle84
          clear hp hall
          refine hK81 _ _ ?_; clear hK81
          refine sr fun K hK => ?_
          refine rn 3 HE HS ?_; clear HE HS; intro a w HE HS
          apply hK; clear hK K
          have hcphR87 := oHB1111_1.cap
          obtain ⟨G86, hle88, HS', hR87⟩ := X.Own.still HS .here oHB1111_1; clear HS; have HS := HS'; clear HS'
          replace hR4 := hR4.le hle88
          replace oHB1111_1 := oHB1111_1.le hle88
          refine rt hQ HE HS ?_
          have hc0 : erv (C9 ((wordsS (noteS s).1).1.getD 0 [])) = 0 := by simpa [C9] using h18
          have g1 := getD_at (l := (wordsS (noteS s).1).1) (i := 1) (by omega)
          have hc1 : nameE ((wordsS (noteS s).1).1.getD 1 []) = 0 := by simpa using h30
          have g2 := getD_at (l := (wordsS (noteS s).1).1) (i := 2) (by omega)
          have hend : outL ((wordsS (noteS s).1).1.drop y.1) y.2.1 = ([], (wordsS (noteS s).1).1.drop y.1, y.2.1) := outL_end (fun hh => by rcases h69 with h_9 | h_9; exact hh.2 (drop_end (by omega)); exact h_9 hh.1)
          have hoo := hy4
          rw [hend] at hoo
          have hy0 : y.2.1 = 0 := by simpa using h79
          have hy9 : (wordsS (noteS s).1).1.length ≤ y.1 := by rcases h69 with h_9 | h_9 <;> omega
          rw [hy0, drop_end hy9] at hoo
          have hcode : (allS (wordsS (noteS s).1).1).2.2 = 0 := by rw [(all_ok g0 hc0 g1 hc1 g2 h57).1, hoo]; rfl
          have hev : (allS (wordsS (noteS s).1).1).1 = (⟨okv (C9 ((wordsS (noteS s).1).1.getD 0 [])), (parseV ((wordsS (noteS s).1).1.getD 1 [])).1, 2, 0, ⟨0, 0, []⟩, 0, [], y.2.2, false, []⟩ : Evt) := by rw [(all_ok g0 hc0 g1 hc1 g2 h57).2, hoo]; simp
          have he : parseE s = ({ (⟨okv (C9 ((wordsS (noteS s).1).1.getD 0 [])), (parseV ((wordsS (noteS s).1).1.getD 1 [])).1, 2, 0, ⟨0, 0, []⟩, 0, [], y.2.2, false, []⟩ : Evt) with noted := (noteS s).2.2.1, note := (noteS s).2.1 }, 0) := parseE_yes' hn1 hn2 (hcode) (hev)
          rw [he]
          exact ⟨_, _, _, _, rfl, Nat.zero_le _, .nil, hcphR87, hR87⟩
       ·have h57 := nm h57r
        refine wp_seq_k (fun K90 hK89 => ?_)
        refine sr fun K hK => ?_
        refine rn 2 HE HS ?_; clear HE HS; intro a w HE HS
        apply hK; clear hK K
        refine cond HE rfl (fun h92r => ?_) (fun h92r => ?_)
        ·have h92 := nm h92r
         refine wp_skip ?_
         refine hK89 _ _ ?_; clear hK89
         refine cond HE rfl (fun h93r => ?_) (fun h93r => ?_)
         ·have h93 := nm h93r
          refine sr fun K hK => ?_
          refine rn 2 HE HS ?_; clear HE HS; intro a w HE HS
          apply hK; clear hK K
          refine wp_seq_k (fun K96 hK95 => ?_)
          refine sr fun K hK => ?_
          refine rn 1 HE HS ?_; clear HE HS; intro a w HE HS
          refine o_ixL HE rfl rfl rfl T.l29 ⟨by omega, by omega⟩ ?_; clear HE; intro a HE
          refine o_ldI HE rfl HS rfl T.s9 el40 (j := 0) rfl rfl ?_; clear HE; intro a HE
          refine rn 1 HE HS ?_; clear HE HS; intro a w HE HS
          apply hK; clear hK K
          refine cond HE rfl (fun h98r => ?_) (fun h98r => ?_)
          ·have h98 := nm h98r
           refine wp_region_lit ?_
           refine rn 2 HE HS ?_; clear HE HS; intro a w HE HS
           refine hK95 _ _ ?_; clear hK95
           refine sr fun K hK => ?_
           refine rn 3 HE HS ?_; clear HE HS; intro a w HE HS
           apply hK; clear hK K
           refine cond HE rfl (fun h100r => ?_) (fun h100r => ?_)
           ·have h100 := nm h100r
            refine wp_region_lit ?_
            refine rn 1 HE HS ?_; clear HE HS; intro a w HE HS
            refine hK38 _ _ ?_; clear hK38
            refine wp_seq_k (fun K102 hK101 => ?_)
            refine sr fun K hK => ?_
            refine rn 2 HE HS ?_; clear HE HS; intro a w HE HS
            apply hK; clear hK K
            refine cond HE rfl (fun h104r => ?_) (fun h104r => ?_)
            ·have h104 := nm h104r
             refine sr fun K hK => ?_
             refine rn 4 HE HS ?_; clear HE HS; intro a w HE HS
             apply hK; clear hK K
             refine rt hQ HE HS ?_
             exact absurd (h92.symm.trans h98) (by decide)
            ·exact absurd h104r (by decide)
           ·have h100 := nm h100r
            refine wp_skip ?_
            refine hK38 _ _ ?_; clear hK38
            refine wp_seq_k (fun K107 hK106 => ?_)
            refine sr fun K hK => ?_
            refine rn 2 HE HS ?_; clear HE HS; intro a w HE HS
            apply hK; clear hK K
            refine cond HE rfl (fun h109r => ?_) (fun h109r => ?_)
            ·exact absurd (h30r.symm.trans h109r) (by decide)
            ·have h109 := nm h109r
             refine wp_skip ?_
             refine hK106 _ _ ?_; clear hK106
             refine wp_seq_k (fun K111 hK110 => ?_)
             replace HE := HE.cut (L' := [(0, str s), (2, .pointer (some ⟨B2, 0, none⟩)), (3, .int .i64 0), (4, .pointer (some ⟨B4, 0, none⟩)), (5, .pointer (some ⟨B5, 0, none⟩)), (6, .slice (some ⟨eb13, eo13, none⟩) ((wordsS ((noteS s).1)).1.length) vc4), (7, .bool (decide ((wordsS ((noteS s).1)).2 = 0))), (8, .int .i64 (okv (countS (((wordsS ((noteS s).1)).1).getD 0 []) 9223372036854775807))), (9, .int .i64 (nameE (((wordsS ((noteS s).1)).1).getD 1 []))), (10, .pointer (some ⟨B10, 0, none⟩)), (11, .pointer (some ⟨B11, 0, none⟩)), (15, .agg #[.int .i64 0, .int .i64 0, .int .i64 0, str [], .int .i64 0, .int .i64 0, .int .i64 0, .int .i64 0, str [], .int .i64 0, .slice none 0 0, .slice none 0 0, .bool false, str []]), (16, str s), (17, .agg #[str ((noteS s).1), str ((noteS s).2.1), .bool ((noteS s).2.2.1), .bool (decide ((noteS s).2.2.2 = 0))]), (18, .tuple #[.slice (some ⟨eb13, eo13, none⟩) ((wordsS ((noteS s).1)).1.length) vc4, .bool (decide ((wordsS ((noteS s).1)).2 = 0))]), (19, .pointer (some ⟨B5, 0, none⟩)), (20, str ((noteS s).1)), (21, .tuple #[.slice (some ⟨eb13, eo13, none⟩) ((wordsS ((noteS s).1)).1.length) vc4, .bool (decide ((wordsS ((noteS s).1)).2 = 0))]), (22, .slice (some ⟨eb13, eo13, none⟩) ((wordsS ((noteS s).1)).1.length) vc4), (23, .bool (decide ((wordsS ((noteS s).1)).2 = 0))), (24, .pointer (some ⟨B5, 3, none⟩)), (25, .bool (decide ((noteS s).2.2.2 = 0))), (26, .bool (!(decide ((noteS s).2.2.2 = 0)))), (27, .bool (!(decide ((noteS s).2.2.2 = 0)))), (30, .bool ((!(decide ((noteS s).2.2.2 = 0))) || (!(decide ((wordsS ((noteS s).1)).2 = 0))))), (32, .tuple #[.int .i64 (okv (countS (((wordsS ((noteS s).1)).1).getD 0 []) 9223372036854775807)), .int .i64 (erv (countS (((wordsS ((noteS s).1)).1).getD 0 []) 9223372036854775807))]), (33, .slice (some ⟨eb13, eo13, none⟩) ((wordsS ((noteS s).1)).1.length) vc4), (34, .pointer (some ⟨eb13, eo13 + (0 : Int).toNat * 1, none⟩)), (35, str (((wordsS ((noteS s).1)).1).getD 0 [])), (36, .tuple #[.int .i64 (okv (countS (((wordsS ((noteS s).1)).1).getD 0 []) 9223372036854775807)), .int .i64 (erv (countS (((wordsS ((noteS s).1)).1).getD 0 []) 9223372036854775807))]), (37, .int .i64 (okv (countS (((wordsS ((noteS s).1)).1).getD 0 []) 9223372036854775807))), (38, .int .i64 (erv (countS (((wordsS ((noteS s).1)).1).getD 0 []) 9223372036854775807))), (39, .int .i64 (erv (countS (((wordsS ((noteS s).1)).1).getD 0 []) 9223372036854775807))), (40, .bool (!decide ((erv (countS (((wordsS ((noteS s).1)).1).getD 0 []) 9223372036854775807)) = 0))), (43, .slice (some ⟨eb13, eo13, none⟩) ((wordsS ((noteS s).1)).1.length) vc4), (44, .int .i64 ((wordsS ((noteS s).1)).1.length : Int)), (45, .bool (decide (((wordsS ((noteS s).1)).1.length : Int) < 2))), (47, .tuple #[.agg #[.int .i64 ((parseV (((wordsS ((noteS s).1)).1).getD 1 [])).1.k), .int .i64 ((parseV (((wordsS ((noteS s).1)).1).getD 1 [])).1.n), str ((parseV (((wordsS ((noteS s).1)).1).getD 1 [])).1.s)], .int .i64 (nameE (((wordsS ((noteS s).1)).1).getD 1 []))]), (48, .slice (some ⟨eb13, eo13, none⟩) ((wordsS ((noteS s).1)).1.length) vc4), (49, .pointer (some ⟨eb13, eo13 + (1 : Int).toNat * 1, none⟩)), (50, str (((wordsS ((noteS s).1)).1).getD 1 [])), (51, .tuple #[.agg #[.int .i64 ((parseV (((wordsS ((noteS s).1)).1).getD 1 [])).1.k), .int .i64 ((parseV (((wordsS ((noteS s).1)).1).getD 1 [])).1.n), str ((parseV (((wordsS ((noteS s).1)).1).getD 1 [])).1.s)], .int .i64 (nameE (((wordsS ((noteS s).1)).1).getD 1 []))]), (52, .agg #[.int .i64 ((parseV (((wordsS ((noteS s).1)).1).getD 1 [])).1.k), .int .i64 ((parseV (((wordsS ((noteS s).1)).1).getD 1 [])).1.n), str ((parseV (((wordsS ((noteS s).1)).1).getD 1 [])).1.s)]), (53, .int .i64 (nameE (((wordsS ((noteS s).1)).1).getD 1 []))), (54, .int .i64 (nameE (((wordsS ((noteS s).1)).1).getD 1 []))), (55, .bool (!decide ((nameE (((wordsS ((noteS s).1)).1).getD 1 [])) = 0))), (58, .slice (some ⟨eb13, eo13, none⟩) ((wordsS ((noteS s).1)).1.length) vc4), (59, .int .i64 ((wordsS ((noteS s).1)).1.length : Int)), (60, .bool (decide (((wordsS ((noteS s).1)).1.length : Int) < 3))), (62, .slice (some ⟨eb13, eo13, none⟩) ((wordsS ((noteS s).1)).1.length) vc4), (63, .pointer (some ⟨eb13, eo13 + (2 : Int).toNat * 1, none⟩)), (64, str (((wordsS ((noteS s).1)).1).getD 2 [])), (65, .bool ((((wordsS ((noteS s).1)).1).getD 2 []) == [105, 110, 118, 111, 107, 101])), (66, .bool ((((wordsS ((noteS s).1)).1).getD 2 []) == [105, 110, 118, 111, 107, 101])), (73, .bool ((((wordsS ((noteS s).1)).1).getD 2 []) == [111, 107])), (74, .bool ((((wordsS ((noteS s).1)).1).getD 2 []) == [111, 107])), (101, .bool ((((wordsS ((noteS s).1)).1).getD 2 []) == [102, 97, 105, 108])), (102, .bool ((((wordsS ((noteS s).1)).1).getD 2 []) == [102, 97, 105, 108])), (104, .pointer (some ⟨B11, 4, none⟩)), (105, .slice (some ⟨eb13, eo13, none⟩) ((wordsS ((noteS s).1)).1.length) vc4), (106, .pointer (some ⟨eb13, eo13 + (2 : Int).toNat * 1, none⟩)), (107, str (((wordsS ((noteS s).1)).1).getD 2 [])), (108, .bool ((((wordsS ((noteS s).1)).1).getD 2 []) == [105, 110, 102, 111])), (109, .pointer (some ⟨B11, 4, none⟩)), (110, .slice (some ⟨eb13, eo13, none⟩) ((wordsS ((noteS s).1)).1.length) vc4), (111, .int .i64 ((wordsS ((noteS s).1)).1.length : Int)), (112, .bool (decide (3 < ((wordsS ((noteS s).1)).1.length : Int)))), (113, .int .i64 (nameE (((wordsS ((noteS s).1)).1).getD 1 []))), (114, .bool (!decide ((nameE (((wordsS ((noteS s).1)).1).getD 1 [])) = 0)))]) ⟨rfl, rfl, rfl, rfl, rfl, rfl, rfl, rfl, rfl, rfl, rfl, rfl, rfl, rfl, rfl, rfl, rfl, rfl, rfl, rfl, rfl, rfl, rfl, rfl, rfl, rfl, rfl, rfl, rfl, rfl, rfl, rfl, rfl, rfl, rfl, rfl, rfl, rfl, rfl, rfl, rfl, rfl, rfl, rfl, rfl, rfl, rfl, rfl, rfl, rfl, rfl, rfl, rfl, rfl, rfl, rfl, rfl, rfl, rfl, rfl, rfl, rfl, rfl, rfl, rfl, rfl, rfl, rfl, rfl, trivial⟩
             refine drawnF (fun f G' w => Heap.le G4 G' ∧ St w0 G [] G' w [[(B11, Cells 44 [(0, bif f 7 then .int .i64 (okv (countS (((wordsS ((noteS s).1)).1).getD 0 []) 9223372036854775807)) else .int .i64 0), (1, bif f 9 then .int .i64 ((parseV (((wordsS ((noteS s).1)).1).getD 1 [])).1.k) else .int .i64 0), (2, bif f 9 then .int .i64 ((parseV (((wordsS ((noteS s).1)).1).getD 1 [])).1.n) else .int .i64 0), (3, bif f 9 then str ((parseV (((wordsS ((noteS s).1)).1).getD 1 [])).1.s) else str []), (4, .int .i64 4), (5, .int .i64 0), (6, .int .i64 0), (7, .int .i64 0), (8, str []), (9, .int .i64 0), (10, .slice none 0 0), (11, .slice none 0 0), (12, bif f 11 then .bool ((noteS s).2.2.1) else .bool false), (13, bif f 13 then str ((noteS s).2.1) else str [])])], [(B10, Cells 41 [(0, .int .i64 ((parseV (((wordsS ((noteS s).1)).1).getD 1 [])).1.k)), (1, .int .i64 ((parseV (((wordsS ((noteS s).1)).1).getD 1 [])).1.n)), (2, str ((parseV (((wordsS ((noteS s).1)).1).getD 1 [])).1.s))])], [(B5, Cells 97 [(0, str ((noteS s).1)), (1, str ((noteS s).2.1)), (2, .bool ((noteS s).2.2.1)), (3, .bool (decide ((noteS s).2.2.2 = 0)))])], [(B4, Cells 44 [(0, .int .i64 0), (1, .int .i64 0), (2, .int .i64 0), (3, str []), (4, .int .i64 0), (5, .int .i64 0), (6, .int .i64 0), (7, .int .i64 0), (8, str []), (9, .int .i64 0), (10, .slice none 0 0), (11, .slice none 0 0), (12, .bool false), (13, str [])])], [(B2, Cells 44 [(0, .int .i64 0), (1, .int .i64 0), (2, .int .i64 0), (3, str []), (4, .int .i64 0), (5, .int .i64 0), (6, .int .i64 0), (7, .int .i64 0), (8, str []), (9, .int .i64 0), (10, .slice none 0 0), (11, .slice none 0 0), (12, .bool false), (13, str [])])]]) [fun v _ => v = .int .i64 (okv (countS (((wordsS ((noteS s).1)).1).getD 0 []) 9223372036854775807)), fun v _ => v = .agg #[.int .i64 ((parseV (((wordsS ((noteS s).1)).1).getD 1 [])).1.k), .int .i64 ((parseV (((wordsS ((noteS s).1)).1).getD 1 [])).1.n), str ((parseV (((wordsS ((noteS s).1)).1).getD 1 [])).1.s)], fun v _ => v = .pointer (some ⟨B5, 2, none⟩), fun v _ => v = .bool ((noteS s).2.2.1), fun v _ => v = .pointer (some ⟨B5, 1, none⟩), fun v _ => v = str ((noteS s).2.1), fun v _ => v = .pointer (some ⟨B11, 0, none⟩), fun _ _ => True, fun v _ => v = .pointer (some ⟨B11, 1, none⟩), fun _ _ => True, fun v _ => v = .pointer (some ⟨B11, 12, none⟩), fun _ _ => True, fun v _ => v = .pointer (some ⟨B11, 13, none⟩), fun _ _ => True] [] T.mix rfl HE ⟨Heap.le.refl _, HS.drew⟩ rfl (by simp) (AllM.get ⟨fun _ _ _ _ h => h, fun _ _ _ _ h => h, fun _ _ _ _ h => h, fun _ _ _ _ h => h, fun _ _ _ _ h => h, fun _ _ _ _ h => h, fun _ _ _ _ h => h, fun _ _ _ _ h => h, fun _ _ _ _ h => h, fun _ _ _ _ h => h, fun _ _ _ _ h => h, fun _ _ _ _ h => h, fun _ _ _ _ h => h, fun _ _ _ _ h => h, trivial⟩) ⟨?_, ?_, ?_, ?_, ?_, ?_, ?_, ?_, ?_, ?_, ?_, ?_, ?_, ?_, trivial⟩ ?_
             ·intro a w G1 f hcl hfi hon hW HE hp hO; obtain ⟨hl, HS⟩ := hW
              refine o_move HE rfl rfl ?_; clear HE; intro a HE
              exact ⟨_, _, Heap.le.refl _, ⟨hl, HS⟩, fun d hd => (by cases hd; exact HE.get _ _ rfl), HE.defers, rfl⟩
             ·intro a w G1 f hcl hfi hon hW HE hp hO; obtain ⟨hl, HS⟩ := hW
              refine o_ldA HE rfl HS rfl T.a41 (.there (.here .here)) rfl ?_; clear HE; intro a HE
              exact ⟨_, _, Heap.le.refl _, ⟨hl, HS⟩, fun d hd => (by cases hd; exact HE.get _ _ rfl), HE.defers, rfl⟩
             ·intro a w G1 f hcl hfi hon hW HE hp hO; obtain ⟨hl, HS⟩ := hW
              refine o_fld HE rfl rfl T.f97_2 ?_; clear HE; intro a HE
              exact ⟨_, _, Heap.le.refl _, ⟨hl, HS⟩, fun d hd => (by cases hd; exact HE.get _ _ rfl), HE.defers, rfl⟩
             ·intro a w G1 f hcl hfi hon hW HE hp hO; obtain ⟨hl, HS⟩ := hW
              obtain ⟨_, e2, rfl⟩ := hp 2 119 _ (hon 2 rfl) rfl rfl; replace HE := HE.add e2
              refine o_ld HE rfl HS rfl T.s4 (.there (.there (.here .here))) rfl ?_; clear HE; intro a HE
              exact ⟨_, _, Heap.le.refl _, ⟨hl, HS⟩, fun d hd => (by cases hd; exact HE.get _ _ rfl), HE.defers, rfl⟩
             ·intro a w G1 f hcl hfi hon hW HE hp hO; obtain ⟨hl, HS⟩ := hW
              refine o_fld HE rfl rfl T.f97_1 ?_; clear HE; intro a HE
              exact ⟨_, _, Heap.le.refl _, ⟨hl, HS⟩, fun d hd => (by cases hd; exact HE.get _ _ rfl), HE.defers, rfl⟩
             ·intro a w G1 f hcl hfi hon hW HE hp hO; obtain ⟨hl, HS⟩ := hW
              obtain ⟨_, e4, rfl⟩ := hp 4 121 _ (hon 4 rfl) rfl rfl; replace HE := HE.add e4
              refine o_ld HE rfl HS rfl T.s9 (.there (.there (.here .here))) rfl ?_; clear HE; intro a HE
              exact ⟨_, _, Heap.le.refl _, ⟨hl, HS⟩, fun d hd => (by cases hd; exact HE.get _ _ rfl), HE.defers, rfl⟩
             ·intro a w G1 f hcl hfi hon hW HE hp hO; obtain ⟨hl, HS⟩ := hW
              refine o_fld HE rfl rfl T.f44_0 ?_; clear HE; intro a HE
              exact ⟨_, _, Heap.le.refl _, ⟨hl, HS⟩, fun d hd => (by cases hd; exact HE.get _ _ rfl), HE.defers, rfl⟩
             ·intro a w G1 f hcl hfi hon hW HE hp hO; obtain ⟨hl, HS⟩ := hW
              obtain ⟨_, e6, rfl⟩ := hp 6 123 _ (hon 6 rfl) rfl rfl; replace HE := HE.add e6
              obtain ⟨_, e0, rfl⟩ := hp 0 117 _ (hon 0 rfl) rfl rfl; replace HE := HE.add e0
              refine o_st HE HS rfl rfl rfl T.s2 (.here .here) rfl ?_; clear HS; intro w HS
              replace HS := HS.conv (L2 := [(0, _), (1, _), (2, _), (3, _), (4, _), (5, _), (6, _), (7, _), (8, _), (9, _), (10, _), (11, _), (12, _), (13, _)]) (.here .here) ⟨rfl, rfl, rfl, rfl, rfl, rfl, rfl, rfl, rfl, rfl, rfl, rfl, rfl, rfl, trivial⟩
              exact ⟨.bool true, _, Heap.le.refl _, ⟨hl, HS⟩, fun d hd => (by cases hd), HE.defers, trivial⟩
             ·intro a w G1 f hcl hfi hon hW HE hp hO; obtain ⟨hl, HS⟩ := hW
              refine o_fld HE rfl rfl T.f44_1 ?_; clear HE; intro a HE
              exact ⟨_, _, Heap.le.refl _, ⟨hl, HS⟩, fun d hd => (by cases hd; exact HE.get _ _ rfl), HE.defers, rfl⟩
             ·intro a w G1 f hcl hfi hon hW HE hp hO; obtain ⟨hl, HS⟩ := hW
              obtain ⟨_, e8, rfl⟩ := hp 8 124 _ (hon 8 rfl) rfl rfl; replace HE := HE.add e8
              obtain ⟨_, e1, rfl⟩ := hp 1 118 _ (hon 1 rfl) rfl rfl; replace HE := HE.add e1
              refine o_stA HE HS rfl rfl rfl T.a41 (.here .here) rfl ?_; clear HS; intro w HS
              replace HS := HS.conv (L2 := [(0, _), (1, _), (2, _), (3, _), (4, _), (5, _), (6, _), (7, _), (8, _), (9, _), (10, _), (11, _), (12, _), (13, _)]) (.here .here) ⟨rfl, rfl, rfl, rfl, rfl, rfl, rfl, rfl, rfl, rfl, rfl, rfl, rfl, rfl, trivial⟩
              exact ⟨.bool true, _, Heap.le.refl _, ⟨hl, HS⟩, fun d hd => (by cases hd), HE.defers, trivial⟩
             ·intro a w G1 f hcl hfi hon hW HE hp hO; obtain ⟨hl, HS⟩ := hW
              refine o_fld HE rfl rfl T.f44_8 ?_; clear HE; intro a HE
              exact ⟨_, _, Heap.le.refl _, ⟨hl, HS⟩, fun d hd => (by cases hd; exact HE.get _ _ rfl), HE.defers, rfl⟩
             ·intro a w G1 f hcl hfi hon hW HE hp hO; obtain ⟨hl, HS⟩ := hW
              obtain ⟨_, e10, rfl⟩ := hp 10 125 _ (hon 10 rfl) rfl rfl; replace HE := HE.add e10
              obtain ⟨_, e3, rfl⟩ := hp 3 120 _ (hon 3 rfl) rfl rfl; replace HE := HE.add e3
              refine o_st HE HS rfl rfl rfl T.s4 (.here .here) rfl ?_; clear HS; intro w HS
              replace HS := HS.conv (L2 := [(0, _), (1, _), (2, _), (3, _), (4, _), (5, _), (6, _), (7, _), (8, _), (9, _), (10, _), (11, _), (12, _), (13, _)]) (.here .here) ⟨rfl, rfl, rfl, rfl, rfl, rfl, rfl, rfl, rfl, rfl, rfl, rfl, rfl, rfl, trivial⟩
              exact ⟨.bool true, _, Heap.le.refl _, ⟨hl, HS⟩, fun d hd => (by cases hd), HE.defers, trivial⟩
             ·intro a w G1 f hcl hfi hon hW HE hp hO; obtain ⟨hl, HS⟩ := hW
              refine o_fld HE rfl rfl T.f44_9 ?_; clear HE; intro a HE
              exact ⟨_, _, Heap.le.refl _, ⟨hl, HS⟩, fun d hd => (by cases hd; exact HE.get _ _ rfl), HE.defers, rfl⟩
             ·intro a w G1 f hcl hfi hon hW HE hp hO; obtain ⟨hl, HS⟩ := hW
              obtain ⟨_, e12, rfl⟩ := hp 12 126 _ (hon 12 rfl) rfl rfl; replace HE := HE.add e12
              obtain ⟨_, e5, rfl⟩ := hp 5 122 _ (hon 5 rfl) rfl rfl; replace HE := HE.add e5
              refine o_st HE HS rfl rfl rfl T.s9 (.here .here) rfl ?_; clear HS; intro w HS
              replace HS := HS.conv (L2 := [(0, _), (1, _), (2, _), (3, _), (4, _), (5, _), (6, _), (7, _), (8, _), (9, _), (10, _), (11, _), (12, _), (13, _)]) (.here .here) ⟨rfl, rfl, rfl, rfl, rfl, rfl, rfl, rfl, rfl, rfl, rfl, rfl, rfl, rfl, trivial⟩
              exact ⟨.bool true, _, Heap.le.refl _, ⟨hl, HS⟩, fun d hd => (by cases hd), HE.defers, trivial⟩
             clear HE HS; intro a w G112 f hle113 hall HW HE hp; obtain ⟨_, HS⟩ := HW
             have hfw7 := hall 7 (by decide)
             have hfw9 := hall 9 (by decide)
             have hfw11 := hall 11 (by decide)
             have hfw13 := hall 13 (by decide)
             simp only [hfw7, hfw9, hfw11, hfw13, cond_true] at HS
             replace hR4 := hR4.le hle113
             clear hp hall
             refine hK110 _ _ ?_; clear hK110
             refine sr fun K hK => ?_
             refine rn 3 HE HS ?_; clear HE HS; intro a w HE HS
             apply hK; clear hK K
             refine rt hQ HE HS ?_
             exact absurd (h92.symm.trans h98) (by decide)
          ·have h98 := nm h98r
           refine wp_skip ?_
           refine hK95 _ _ ?_; clear hK95
           refine sr fun K hK => ?_
           refine rn 3 HE HS ?_; clear HE HS; intro a w HE HS
           apply hK; clear hK K
           refine cond HE rfl (fun h116r => ?_) (fun h116r => ?_)
           ·have h116 := nm h116r
            refine wp_region_lit ?_
            refine rn 1 HE HS ?_; clear HE HS; intro a w HE HS
            refine hK38 _ _ ?_; clear hK38
            refine wp_seq_k (fun K118 hK117 => ?_)
            refine sr fun K hK => ?_
            refine rn 2 HE HS ?_; clear HE HS; intro a w HE HS
            apply hK; clear hK K
            refine cond HE rfl (fun h120r => ?_) (fun h120r => ?_)
            ·have h120 := nm h120r
             refine sr fun K hK => ?_
             refine rn 4 HE HS ?_; clear HE HS; intro a w HE HS
             apply hK; clear hK K
             refine rt hQ HE HS ?_
             have hc0 : erv (C9 ((wordsS (noteS s).1).1.getD 0 [])) = 0 := by simpa [C9] using h18
             have g1 := getD_at (l := (wordsS (noteS s).1).1) (i := 1) (by omega)
             have hc1 : nameE ((wordsS (noteS s).1).1.getD 1 []) = 0 := by simpa using h30
             have g2 := getD_at (l := (wordsS (noteS s).1).1) (i := 2) (by omega)
             have hcode : (allS (wordsS (noteS s).1).1).2.2 = 2 := by rw [(all_fail g0 hc0 g1 hc1 g2 h92).1, if_pos (by omega)]
             have he : parseE s = (E0, 2) := parseE_err' hn1 hn2 (hcode) (by decide)
             rw [he]
             exact ⟨_, _, _, _, rfl, Nat.zero_le _, .nil, Nat.zero_le _, .nil⟩
            ·exact absurd h120r (by decide)
           ·have h116 := nm h116r
            refine wp_skip ?_
            refine hK38 _ _ ?_; clear hK38
            refine wp_seq_k (fun K123 hK122 => ?_)
            refine sr fun K hK => ?_
            refine rn 2 HE HS ?_; clear HE HS; intro a w HE HS
            apply hK; clear hK K
            refine cond HE rfl (fun h125r => ?_) (fun h125r => ?_)
            ·exact absurd (h30r.symm.trans h125r) (by decide)
            ·have h125 := nm h125r
             refine wp_skip ?_
             refine hK122 _ _ ?_; clear hK122
             refine wp_seq_k (fun K127 hK126 => ?_)
             replace HE := HE.cut (L' := [(0, str s), (2, .pointer (some ⟨B2, 0, none⟩)), (3, .int .i64 0), (4, .pointer (some ⟨B4, 0, none⟩)), (5, .pointer (some ⟨B5, 0, none⟩)), (6, .slice (some ⟨eb13, eo13, none⟩) ((wordsS ((noteS s).1)).1.length) vc4), (7, .bool (decide ((wordsS ((noteS s).1)).2 = 0))), (8, .int .i64 (okv (countS (((wordsS ((noteS s).1)).1).getD 0 []) 9223372036854775807))), (9, .int .i64 (nameE (((wordsS ((noteS s).1)).1).getD 1 []))), (10, .pointer (some ⟨B10, 0, none⟩)), (11, .pointer (some ⟨B11, 0, none⟩)), (15, .agg #[.int .i64 0, .int .i64 0, .int .i64 0, str [], .int .i64 0, .int .i64 0, .int .i64 0, .int .i64 0, str [], .int .i64 0, .slice none 0 0, .slice none 0 0, .bool false, str []]), (16, str s), (17, .agg #[str ((noteS s).1), str ((noteS s).2.1), .bool ((noteS s).2.2.1), .bool (decide ((noteS s).2.2.2 = 0))]), (18, .tuple #[.slice (some ⟨eb13, eo13, none⟩) ((wordsS ((noteS s).1)).1.length) vc4, .bool (decide ((wordsS ((noteS s).1)).2 = 0))]), (19, .pointer (some ⟨B5, 0, none⟩)), (20, str ((noteS s).1)), (21, .tuple #[.slice (some ⟨eb13, eo13, none⟩) ((wordsS ((noteS s).1)).1.length) vc4, .bool (decide ((wordsS ((noteS s).1)).2 = 0))]), (22, .slice (some ⟨eb13, eo13, none⟩) ((wordsS ((noteS s).1)).1.length) vc4), (23, .bool (decide ((wordsS ((noteS s).1)).2 = 0))), (24, .pointer (some ⟨B5, 3, none⟩)), (25, .bool (decide ((noteS s).2.2.2 = 0))), (26, .bool (!(decide ((noteS s).2.2.2 = 0)))), (27, .bool (!(decide ((noteS s).2.2.2 = 0)))), (30, .bool ((!(decide ((noteS s).2.2.2 = 0))) || (!(decide ((wordsS ((noteS s).1)).2 = 0))))), (32, .tuple #[.int .i64 (okv (countS (((wordsS ((noteS s).1)).1).getD 0 []) 9223372036854775807)), .int .i64 (erv (countS (((wordsS ((noteS s).1)).1).getD 0 []) 9223372036854775807))]), (33, .slice (some ⟨eb13, eo13, none⟩) ((wordsS ((noteS s).1)).1.length) vc4), (34, .pointer (some ⟨eb13, eo13 + (0 : Int).toNat * 1, none⟩)), (35, str (((wordsS ((noteS s).1)).1).getD 0 [])), (36, .tuple #[.int .i64 (okv (countS (((wordsS ((noteS s).1)).1).getD 0 []) 9223372036854775807)), .int .i64 (erv (countS (((wordsS ((noteS s).1)).1).getD 0 []) 9223372036854775807))]), (37, .int .i64 (okv (countS (((wordsS ((noteS s).1)).1).getD 0 []) 9223372036854775807))), (38, .int .i64 (erv (countS (((wordsS ((noteS s).1)).1).getD 0 []) 9223372036854775807))), (39, .int .i64 (erv (countS (((wordsS ((noteS s).1)).1).getD 0 []) 9223372036854775807))), (40, .bool (!decide ((erv (countS (((wordsS ((noteS s).1)).1).getD 0 []) 9223372036854775807)) = 0))), (43, .slice (some ⟨eb13, eo13, none⟩) ((wordsS ((noteS s).1)).1.length) vc4), (44, .int .i64 ((wordsS ((noteS s).1)).1.length : Int)), (45, .bool (decide (((wordsS ((noteS s).1)).1.length : Int) < 2))), (47, .tuple #[.agg #[.int .i64 ((parseV (((wordsS ((noteS s).1)).1).getD 1 [])).1.k), .int .i64 ((parseV (((wordsS ((noteS s).1)).1).getD 1 [])).1.n), str ((parseV (((wordsS ((noteS s).1)).1).getD 1 [])).1.s)], .int .i64 (nameE (((wordsS ((noteS s).1)).1).getD 1 []))]), (48, .slice (some ⟨eb13, eo13, none⟩) ((wordsS ((noteS s).1)).1.length) vc4), (49, .pointer (some ⟨eb13, eo13 + (1 : Int).toNat * 1, none⟩)), (50, str (((wordsS ((noteS s).1)).1).getD 1 [])), (51, .tuple #[.agg #[.int .i64 ((parseV (((wordsS ((noteS s).1)).1).getD 1 [])).1.k), .int .i64 ((parseV (((wordsS ((noteS s).1)).1).getD 1 [])).1.n), str ((parseV (((wordsS ((noteS s).1)).1).getD 1 [])).1.s)], .int .i64 (nameE (((wordsS ((noteS s).1)).1).getD 1 []))]), (52, .agg #[.int .i64 ((parseV (((wordsS ((noteS s).1)).1).getD 1 [])).1.k), .int .i64 ((parseV (((wordsS ((noteS s).1)).1).getD 1 [])).1.n), str ((parseV (((wordsS ((noteS s).1)).1).getD 1 [])).1.s)]), (53, .int .i64 (nameE (((wordsS ((noteS s).1)).1).getD 1 []))), (54, .int .i64 (nameE (((wordsS ((noteS s).1)).1).getD 1 []))), (55, .bool (!decide ((nameE (((wordsS ((noteS s).1)).1).getD 1 [])) = 0))), (58, .slice (some ⟨eb13, eo13, none⟩) ((wordsS ((noteS s).1)).1.length) vc4), (59, .int .i64 ((wordsS ((noteS s).1)).1.length : Int)), (60, .bool (decide (((wordsS ((noteS s).1)).1.length : Int) < 3))), (62, .slice (some ⟨eb13, eo13, none⟩) ((wordsS ((noteS s).1)).1.length) vc4), (63, .pointer (some ⟨eb13, eo13 + (2 : Int).toNat * 1, none⟩)), (64, str (((wordsS ((noteS s).1)).1).getD 2 [])), (65, .bool ((((wordsS ((noteS s).1)).1).getD 2 []) == [105, 110, 118, 111, 107, 101])), (66, .bool ((((wordsS ((noteS s).1)).1).getD 2 []) == [105, 110, 118, 111, 107, 101])), (73, .bool ((((wordsS ((noteS s).1)).1).getD 2 []) == [111, 107])), (74, .bool ((((wordsS ((noteS s).1)).1).getD 2 []) == [111, 107])), (101, .bool ((((wordsS ((noteS s).1)).1).getD 2 []) == [102, 97, 105, 108])), (102, .bool ((((wordsS ((noteS s).1)).1).getD 2 []) == [102, 97, 105, 108])), (104, .pointer (some ⟨B11, 4, none⟩)), (105, .slice (some ⟨eb13, eo13, none⟩) ((wordsS ((noteS s).1)).1.length) vc4), (106, .pointer (some ⟨eb13, eo13 + (2 : Int).toNat * 1, none⟩)), (107, str (((wordsS ((noteS s).1)).1).getD 2 [])), (108, .bool ((((wordsS ((noteS s).1)).1).getD 2 []) == [105, 110, 102, 111])), (110, .slice (some ⟨eb13, eo13, none⟩) ((wordsS ((noteS s).1)).1.length) vc4), (111, .int .i64 ((wordsS ((noteS s).1)).1.length : Int)), (112, .bool (decide (3 < ((wordsS ((noteS s).1)).1.length : Int)))), (113, .int .i64 (nameE (((wordsS ((noteS s).1)).1).getD 1 []))), (114, .bool (!decide ((nameE (((wordsS ((noteS s).1)).1).getD 1 [])) = 0)))]) ⟨rfl, rfl, rfl, rfl, rfl, rfl, rfl, rfl, rfl, rfl, rfl, rfl, rfl, rfl, rfl, rfl, rfl, rfl, rfl, rfl, rfl, rfl, rfl, rfl, rfl, rfl, rfl, rfl, rfl, rfl, rfl, rfl, rfl, rfl, rfl, rfl, rfl, rfl, rfl, rfl, rfl, rfl, rfl, rfl, rfl, rfl, rfl, rfl, rfl, rfl, rfl, rfl, rfl, rfl, rfl, rfl, rfl, rfl, rfl, rfl, rfl, rfl, rfl, rfl, rfl, rfl, rfl, rfl, trivial⟩
             refine drawnF (fun f G' w => Heap.le G4 G' ∧ St w0 G [] G' w [[(B11, Cells 44 [(0, bif f 7 then .int .i64 (okv (countS (((wordsS ((noteS s).1)).1).getD 0 []) 9223372036854775807)) else .int .i64 0), (1, bif f 9 then .int .i64 ((parseV (((wordsS ((noteS s).1)).1).getD 1 [])).1.k) else .int .i64 0), (2, bif f 9 then .int .i64 ((parseV (((wordsS ((noteS s).1)).1).getD 1 [])).1.n) else .int .i64 0), (3, bif f 9 then str ((parseV (((wordsS ((noteS s).1)).1).getD 1 [])).1.s) else str []), (4, .int .i64 3), (5, .int .i64 0), (6, .int .i64 0), (7, .int .i64 0), (8, str []), (9, .int .i64 0), (10, .slice none 0 0), (11, .slice none 0 0), (12, bif f 11 then .bool ((noteS s).2.2.1) else .bool false), (13, bif f 13 then str ((noteS s).2.1) else str [])])], [(B10, Cells 41 [(0, .int .i64 ((parseV (((wordsS ((noteS s).1)).1).getD 1 [])).1.k)), (1, .int .i64 ((parseV (((wordsS ((noteS s).1)).1).getD 1 [])).1.n)), (2, str ((parseV (((wordsS ((noteS s).1)).1).getD 1 [])).1.s))])], [(B5, Cells 97 [(0, str ((noteS s).1)), (1, str ((noteS s).2.1)), (2, .bool ((noteS s).2.2.1)), (3, .bool (decide ((noteS s).2.2.2 = 0)))])], [(B4, Cells 44 [(0, .int .i64 0), (1, .int .i64 0), (2, .int .i64 0), (3, str []), (4, .int .i64 0), (5, .int .i64 0), (6, .int .i64 0), (7, .int .i64 0), (8, str []), (9, .int .i64 0), (10, .slice none 0 0), (11, .slice none 0 0), (12, .bool false), (13, str [])])], [(B2, Cells 44 [(0, .int .i64 0), (1, .int .i64 0), (2, .int .i64 0), (3, str []), (4, .int .i64 0), (5, .int .i64 0), (6, .int .i64 0), (7, .int .i64 0), (8, str []), (9, .int .i64 0), (10, .slice none 0 0), (11, .slice none 0 0), (12, .bool false), (13, str [])])]]) [fun v _ => v = .int .i64 (okv (countS (((wordsS ((noteS s).1)).1).getD 0 []) 9223372036854775807)), fun v _ => v = .agg #[.int .i64 ((parseV (((wordsS ((noteS s).1)).1).getD 1 [])).1.k), .int .i64 ((parseV (((wordsS ((noteS s).1)).1).getD 1 [])).1.n), str ((parseV (((wordsS ((noteS s).1)).1).getD 1 [])).1.s)], fun v _ => v = .pointer (some ⟨B5, 2, none⟩), fun v _ => v = .bool ((noteS s).2.2.1), fun v _ => v = .pointer (some ⟨B5, 1, none⟩), fun v _ => v = str ((noteS s).2.1), fun v _ => v = .pointer (some ⟨B11, 0, none⟩), fun _ _ => True, fun v _ => v = .pointer (some ⟨B11, 1, none⟩), fun _ _ => True, fun v _ => v = .pointer (some ⟨B11, 12, none⟩), fun _ _ => True, fun v _ => v = .pointer (some ⟨B11, 13, none⟩), fun _ _ => True] [] T.mix rfl HE ⟨Heap.le.refl _, HS.drew⟩ rfl (by simp) (AllM.get ⟨fun _ _ _ _ h => h, fun _ _ _ _ h => h, fun _ _ _ _ h => h, fun _ _ _ _ h => h, fun _ _ _ _ h => h, fun _ _ _ _ h => h, fun _ _ _ _ h => h, fun _ _ _ _ h => h, fun _ _ _ _ h => h, fun _ _ _ _ h => h, fun _ _ _ _ h => h, fun _ _ _ _ h => h, fun _ _ _ _ h => h, fun _ _ _ _ h => h, trivial⟩) ⟨?_, ?_, ?_, ?_, ?_, ?_, ?_, ?_, ?_, ?_, ?_, ?_, ?_, ?_, trivial⟩ ?_
             ·intro a w G1 f hcl hfi hon hW HE hp hO; obtain ⟨hl, HS⟩ := hW
              refine o_move HE rfl rfl ?_; clear HE; intro a HE
              exact ⟨_, _, Heap.le.refl _, ⟨hl, HS⟩, fun d hd => (by cases hd; exact HE.get _ _ rfl), HE.defers, rfl⟩
             ·intro a w G1 f hcl hfi hon hW HE hp hO; obtain ⟨hl, HS⟩ := hW
              refine o_ldA HE rfl HS rfl T.a41 (.there (.here .here)) rfl ?_; clear HE; intro a HE
              exact ⟨_, _, Heap.le.refl _, ⟨hl, HS⟩, fun d hd => (by cases hd; exact HE.get _ _ rfl), HE.defers, rfl⟩
             ·intro a w G1 f hcl hfi hon hW HE hp hO; obtain ⟨hl, HS⟩ := hW
              refine o_fld HE rfl rfl T.f97_2 ?_; clear HE; intro a HE
              exact ⟨_, _, Heap.le.refl _, ⟨hl, HS⟩, fun d hd => (by cases hd; exact HE.get _ _ rfl), HE.defers, rfl⟩
             ·intro a w G1 f hcl hfi hon hW HE hp hO; obtain ⟨hl, HS⟩ := hW
              obtain ⟨_, e2, rfl⟩ := hp 2 119 _ (hon 2 rfl) rfl rfl; replace HE := HE.add e2
              refine o_ld HE rfl HS rfl T.s4 (.there (.there (.here .here))) rfl ?_; clear HE; intro a HE
              exact ⟨_, _, Heap.le.refl _, ⟨hl, HS⟩, fun d hd => (by cases hd; exact HE.get _ _ rfl), HE.defers, rfl⟩
             ·intro a w G1 f hcl hfi hon hW HE hp hO; obtain ⟨hl, HS⟩ := hW
              refine o_fld HE rfl rfl T.f97_1 ?_; clear HE; intro a HE
              exact ⟨_, _, Heap.le.refl _, ⟨hl, HS⟩, fun d hd => (by cases hd; exact HE.get _ _ rfl), HE.defers, rfl⟩
             ·intro a w G1 f hcl hfi hon hW HE hp hO; obtain ⟨hl, HS⟩ := hW
              obtain ⟨_, e4, rfl⟩ := hp 4 121 _ (hon 4 rfl) rfl rfl; replace HE := HE.add e4
              refine o_ld HE rfl HS rfl T.s9 (.there (.there (.here .here))) rfl ?_; clear HE; intro a HE
              exact ⟨_, _, Heap.le.refl _, ⟨hl, HS⟩, fun d hd => (by cases hd; exact HE.get _ _ rfl), HE.defers, rfl⟩
             ·intro a w G1 f hcl hfi hon hW HE hp hO; obtain ⟨hl, HS⟩ := hW
              refine o_fld HE rfl rfl T.f44_0 ?_; clear HE; intro a HE
              exact ⟨_, _, Heap.le.refl _, ⟨hl, HS⟩, fun d hd => (by cases hd; exact HE.get _ _ rfl), HE.defers, rfl⟩
             ·intro a w G1 f hcl hfi hon hW HE hp hO; obtain ⟨hl, HS⟩ := hW
              obtain ⟨_, e6, rfl⟩ := hp 6 123 _ (hon 6 rfl) rfl rfl; replace HE := HE.add e6
              obtain ⟨_, e0, rfl⟩ := hp 0 117 _ (hon 0 rfl) rfl rfl; replace HE := HE.add e0
              refine o_st HE HS rfl rfl rfl T.s2 (.here .here) rfl ?_; clear HS; intro w HS
              replace HS := HS.conv (L2 := [(0, _), (1, _), (2, _), (3, _), (4, _), (5, _), (6, _), (7, _), (8, _), (9, _), (10, _), (11, _), (12, _), (13, _)]) (.here .here) ⟨rfl, rfl, rfl, rfl, rfl, rfl, rfl, rfl, rfl, rfl, rfl, rfl, rfl, rfl, trivial⟩
              exact ⟨.bool true, _, Heap.le.refl _, ⟨hl, HS⟩, fun d hd => (by cases hd), HE.defers, trivial⟩
             ·intro a w G1 f hcl hfi hon hW HE hp hO; obtain ⟨hl, HS⟩ := hW
              refine o_fld HE rfl rfl T.f44_1 ?_; clear HE; intro a HE
              exact ⟨_, _, Heap.le.refl _, ⟨hl, HS⟩, fun d hd => (by cases hd; exact HE.get _ _ rfl), HE.defers, rfl⟩
             ·intro a w G1 f hcl hfi hon hW HE hp hO; obtain ⟨hl, HS⟩ := hW
              obtain ⟨_, e8, rfl⟩ := hp 8 124 _ (hon 8 rfl) rfl rfl; replace HE := HE.add e8
              obtain ⟨_, e1, rfl⟩ := hp 1 118 _ (hon 1 rfl) rfl rfl; replace HE := HE.add e1
              refine o_stA HE HS rfl rfl rfl T.a41 (.here .here) rfl ?_; clear HS; intro w HS
              replace HS := HS.conv (L2 := [(0, _), (1, _), (2, _), (3, _), (4, _), (5, _), (6, _), (7, _), (8, _), (9, _), (10, _), (11, _), (12, _), (13, _)]) (.here .here) ⟨rfl, rfl, rfl, rfl, rfl, rfl, rfl, rfl, rfl, rfl, rfl, rfl, rfl, rfl, trivial⟩
              exact ⟨.bool true, _, Heap.le.refl _, ⟨hl, HS⟩, fun d hd => (by cases hd), HE.defers, trivial⟩
             ·intro a w G1 f hcl hfi hon hW HE hp hO; obtain ⟨hl, HS⟩ := hW
              refine o_fld HE rfl rfl T.f44_8 ?_; clear HE; intro a HE
              exact ⟨_, _, Heap.le.refl _, ⟨hl, HS⟩, fun d hd => (by cases hd; exact HE.get _ _ rfl), HE.defers, rfl⟩
             ·intro a w G1 f hcl hfi hon hW HE hp hO; obtain ⟨hl, HS⟩ := hW
              obtain ⟨_, e10, rfl⟩ := hp 10 125 _ (hon 10 rfl) rfl rfl; replace HE := HE.add e10
              obtain ⟨_, e3, rfl⟩ := hp 3 120 _ (hon 3 rfl) rfl rfl; replace HE := HE.add e3
              refine o_st HE HS rfl rfl rfl T.s4 (.here .here) rfl ?_; clear HS; intro w HS
              replace HS := HS.conv (L2 := [(0, _), (1, _), (2, _), (3, _), (4, _), (5, _), (6, _), (7, _), (8, _), (9, _), (10, _), (11, _), (12, _), (13, _)]) (.here .here) ⟨rfl, rfl, rfl, rfl, rfl, rfl, rfl, rfl, rfl, rfl, rfl, rfl, rfl, rfl, trivial⟩
              exact ⟨.bool true, _, Heap.le.refl _, ⟨hl, HS⟩, fun d hd => (by cases hd), HE.defers, trivial⟩
             ·intro a w G1 f hcl hfi hon hW HE hp hO; obtain ⟨hl, HS⟩ := hW
              refine o_fld HE rfl rfl T.f44_9 ?_; clear HE; intro a HE
              exact ⟨_, _, Heap.le.refl _, ⟨hl, HS⟩, fun d hd => (by cases hd; exact HE.get _ _ rfl), HE.defers, rfl⟩
             ·intro a w G1 f hcl hfi hon hW HE hp hO; obtain ⟨hl, HS⟩ := hW
              obtain ⟨_, e12, rfl⟩ := hp 12 126 _ (hon 12 rfl) rfl rfl; replace HE := HE.add e12
              obtain ⟨_, e5, rfl⟩ := hp 5 122 _ (hon 5 rfl) rfl rfl; replace HE := HE.add e5
              refine o_st HE HS rfl rfl rfl T.s9 (.here .here) rfl ?_; clear HS; intro w HS
              replace HS := HS.conv (L2 := [(0, _), (1, _), (2, _), (3, _), (4, _), (5, _), (6, _), (7, _), (8, _), (9, _), (10, _), (11, _), (12, _), (13, _)]) (.here .here) ⟨rfl, rfl, rfl, rfl, rfl, rfl, rfl, rfl, rfl, rfl, rfl, rfl, rfl, rfl, trivial⟩
              exact ⟨.bool true, _, Heap.le.refl _, ⟨hl, HS⟩, fun d hd => (by cases hd), HE.defers, trivial⟩
             clear HE HS; intro a w G128 f hle129 hall HW HE hp; obtain ⟨_, HS⟩ := HW
             have hfw7 := hall 7 (by decide)
             have hfw9 := hall 9 (by decide)
             have hfw11 := hall 11 (by decide)
             have hfw13 := hall 13 (by decide)
             simp only [hfw7, hfw9, hfw11, hfw13, cond_true] at HS
             replace hR4 := hR4.le hle129
             clear hp hall
             refine hK126 _ _ ?_; clear hK126
             refine sr fun K hK => ?_
             refine rn 3 HE HS ?_; clear HE HS; intro a w HE HS
             apply hK; clear hK K
             refine rt hQ HE HS ?_
             have hc0 : erv (C9 ((wordsS (noteS s).1).1.getD 0 [])) = 0 := by simpa [C9] using h18
             have g1 := getD_at (l := (wordsS (noteS s).1).1) (i := 1) (by omega)
             have hc1 : nameE ((wordsS (noteS s).1).1.getD 1 []) = 0 := by simpa using h30
             have g2 := getD_at (l := (wordsS (noteS s).1).1) (i := 2) (by omega)
             have hcode : (allS (wordsS (noteS s).1).1).2.2 = 0 := by rw [(all_fail g0 hc0 g1 hc1 g2 h92).1, if_neg (by omega)]
             have he : parseE s = ({ (⟨okv (C9 ((wordsS (noteS s).1).1.getD 0 [])), (parseV ((wordsS (noteS s).1).1.getD 1 [])).1, 3, 0, ⟨0, 0, []⟩, 0, [], [], false, []⟩ : Evt) with noted := (noteS s).2.2.1, note := (noteS s).2.1 }, 0) := parseE_yes' hn1 hn2 (hcode) ((all_fail g0 hc0 g1 hc1 g2 h92).2)
             rw [he]
             exact ⟨_, _, _, _, rfl, Nat.zero_le _, .nil, Nat.zero_le _, .nil⟩
         ·exact absurd (h92r.symm.trans h93r) (by decide)
        ·have h92 := nm h92r
         refine wp_region_lit ?_
         refine rn 2 HE HS ?_; clear HE HS; intro a w HE HS
         refine hK89 _ _ ?_; clear hK89
         refine cond HE rfl (fun h131r => ?_) (fun h131r => ?_)
         ·have h131 := nm h131r
          refine sr fun K hK => ?_
          refine rn 2 HE HS ?_; clear HE HS; intro a w HE HS
          apply hK; clear hK K
          refine wp_seq_k (fun K134 hK133 => ?_)
          refine sr fun K hK => ?_
          refine rn 1 HE HS ?_; clear HE HS; intro a w HE HS
          refine o_ixL HE rfl rfl rfl T.l29 ⟨by omega, by omega⟩ ?_; clear HE; intro a HE
          refine o_ldI HE rfl HS rfl T.s9 el40 (j := 0) rfl rfl ?_; clear HE; intro a HE
          refine rn 1 HE HS ?_; clear HE HS; intro a w HE HS
          apply hK; clear hK K
          refine cond HE rfl (fun h136r => ?_) (fun h136r => ?_)
          ·have h136 := nm h136r
           refine wp_region_lit ?_
           refine rn 2 HE HS ?_; clear HE HS; intro a w HE HS
           refine hK133 _ _ ?_; clear hK133
           refine sr fun K hK => ?_
           refine rn 3 HE HS ?_; clear HE HS; intro a w HE HS
           apply hK; clear hK K
           refine cond HE rfl (fun h138r => ?_) (fun h138r => ?_)
           ·have h138 := nm h138r
            refine wp_region_lit ?_
            refine rn 1 HE HS ?_; clear HE HS; intro a w HE HS
            refine hK38 _ _ ?_; clear hK38
            refine wp_seq_k (fun K140 hK139 => ?_)
            refine sr fun K hK => ?_
            refine rn 2 HE HS ?_; clear HE HS; intro a w HE HS
            apply hK; clear hK K
            refine cond HE rfl (fun h142r => ?_) (fun h142r => ?_)
            ·have h142 := nm h142r
             refine sr fun K hK => ?_
             refine rn 4 HE HS ?_; clear HE HS; intro a w HE HS
             apply hK; clear hK K
             refine rt hQ HE HS ?_
             have hc0 : erv (C9 ((wordsS (noteS s).1).1.getD 0 [])) = 0 := by simpa [C9] using h18
             have g1 := getD_at (l := (wordsS (noteS s).1).1) (i := 1) (by omega)
             have hc1 : nameE ((wordsS (noteS s).1).1.getD 1 []) = 0 := by simpa using h30
             have g2 := getD_at (l := (wordsS (noteS s).1).1) (i := 2) (by omega)
             have hcode : (allS (wordsS (noteS s).1).1).2.2 = 2 := by rw [(all_info g0 hc0 g1 hc1 g2 h131).1, if_pos (by omega)]
             have he : parseE s = (E0, 2) := parseE_err' hn1 hn2 (hcode) (by decide)
             rw [he]
             exact ⟨_, _, _, _, rfl, Nat.zero_le _, .nil, Nat.zero_le _, .nil⟩
            ·exact absurd h142r (by decide)
           ·have h138 := nm h138r
            refine wp_skip ?_
            refine hK38 _ _ ?_; clear hK38
            refine wp_seq_k (fun K145 hK144 => ?_)
            refine sr fun K hK => ?_
            refine rn 2 HE HS ?_; clear HE HS; intro a w HE HS
            apply hK; clear hK K
            refine cond HE rfl (fun h147r => ?_) (fun h147r => ?_)
            ·exact absurd (h30r.symm.trans h147r) (by decide)
            ·have h147 := nm h147r
             refine wp_skip ?_
             refine hK144 _ _ ?_; clear hK144
             refine wp_seq_k (fun K149 hK148 => ?_)
             replace HE := HE.cut (L' := [(0, str s), (2, .pointer (some ⟨B2, 0, none⟩)), (3, .int .i64 0), (4, .pointer (some ⟨B4, 0, none⟩)), (5, .pointer (some ⟨B5, 0, none⟩)), (6, .slice (some ⟨eb13, eo13, none⟩) ((wordsS ((noteS s).1)).1.length) vc4), (7, .bool (decide ((wordsS ((noteS s).1)).2 = 0))), (8, .int .i64 (okv (countS (((wordsS ((noteS s).1)).1).getD 0 []) 9223372036854775807))), (9, .int .i64 (nameE (((wordsS ((noteS s).1)).1).getD 1 []))), (10, .pointer (some ⟨B10, 0, none⟩)), (11, .pointer (some ⟨B11, 0, none⟩)), (15, .agg #[.int .i64 0, .int .i64 0, .int .i64 0, str [], .int .i64 0, .int .i64 0, .int .i64 0, .int .i64 0, str [], .int .i64 0, .slice none 0 0, .slice none 0 0, .bool false, str []]), (16, str s), (17, .agg #[str ((noteS s).1), str ((noteS s).2.1), .bool ((noteS s).2.2.1), .bool (decide ((noteS s).2.2.2 = 0))]), (18, .tuple #[.slice (some ⟨eb13, eo13, none⟩) ((wordsS ((noteS s).1)).1.length) vc4, .bool (decide ((wordsS ((noteS s).1)).2 = 0))]), (19, .pointer (some ⟨B5, 0, none⟩)), (20, str ((noteS s).1)), (21, .tuple #[.slice (some ⟨eb13, eo13, none⟩) ((wordsS ((noteS s).1)).1.length) vc4, .bool (decide ((wordsS ((noteS s).1)).2 = 0))]), (22, .slice (some ⟨eb13, eo13, none⟩) ((wordsS ((noteS s).1)).1.length) vc4), (23, .bool (decide ((wordsS ((noteS s).1)).2 = 0))), (24, .pointer (some ⟨B5, 3, none⟩)), (25, .bool (decide ((noteS s).2.2.2 = 0))), (26, .bool (!(decide ((noteS s).2.2.2 = 0)))), (27, .bool (!(decide ((noteS s).2.2.2 = 0)))), (30, .bool ((!(decide ((noteS s).2.2.2 = 0))) || (!(decide ((wordsS ((noteS s).1)).2 = 0))))), (32, .tuple #[.int .i64 (okv (countS (((wordsS ((noteS s).1)).1).getD 0 []) 9223372036854775807)), .int .i64 (erv (countS (((wordsS ((noteS s).1)).1).getD 0 []) 9223372036854775807))]), (33, .slice (some ⟨eb13, eo13, none⟩) ((wordsS ((noteS s).1)).1.length) vc4), (34, .pointer (some ⟨eb13, eo13 + (0 : Int).toNat * 1, none⟩)), (35, str (((wordsS ((noteS s).1)).1).getD 0 [])), (36, .tuple #[.int .i64 (okv (countS (((wordsS ((noteS s).1)).1).getD 0 []) 9223372036854775807)), .int .i64 (erv (countS (((wordsS ((noteS s).1)).1).getD 0 []) 9223372036854775807))]), (37, .int .i64 (okv (countS (((wordsS ((noteS s).1)).1).getD 0 []) 9223372036854775807))), (38, .int .i64 (erv (countS (((wordsS ((noteS s).1)).1).getD 0 []) 9223372036854775807))), (39, .int .i64 (erv (countS (((wordsS ((noteS s).1)).1).getD 0 []) 9223372036854775807))), (40, .bool (!decide ((erv (countS (((wordsS ((noteS s).1)).1).getD 0 []) 9223372036854775807)) = 0))), (43, .slice (some ⟨eb13, eo13, none⟩) ((wordsS ((noteS s).1)).1.length) vc4), (44, .int .i64 ((wordsS ((noteS s).1)).1.length : Int)), (45, .bool (decide (((wordsS ((noteS s).1)).1.length : Int) < 2))), (47, .tuple #[.agg #[.int .i64 ((parseV (((wordsS ((noteS s).1)).1).getD 1 [])).1.k), .int .i64 ((parseV (((wordsS ((noteS s).1)).1).getD 1 [])).1.n), str ((parseV (((wordsS ((noteS s).1)).1).getD 1 [])).1.s)], .int .i64 (nameE (((wordsS ((noteS s).1)).1).getD 1 []))]), (48, .slice (some ⟨eb13, eo13, none⟩) ((wordsS ((noteS s).1)).1.length) vc4), (49, .pointer (some ⟨eb13, eo13 + (1 : Int).toNat * 1, none⟩)), (50, str (((wordsS ((noteS s).1)).1).getD 1 [])), (51, .tuple #[.agg #[.int .i64 ((parseV (((wordsS ((noteS s).1)).1).getD 1 [])).1.k), .int .i64 ((parseV (((wordsS ((noteS s).1)).1).getD 1 [])).1.n), str ((parseV (((wordsS ((noteS s).1)).1).getD 1 [])).1.s)], .int .i64 (nameE (((wordsS ((noteS s).1)).1).getD 1 []))]), (52, .agg #[.int .i64 ((parseV (((wordsS ((noteS s).1)).1).getD 1 [])).1.k), .int .i64 ((parseV (((wordsS ((noteS s).1)).1).getD 1 [])).1.n), str ((parseV (((wordsS ((noteS s).1)).1).getD 1 [])).1.s)]), (53, .int .i64 (nameE (((wordsS ((noteS s).1)).1).getD 1 []))), (54, .int .i64 (nameE (((wordsS ((noteS s).1)).1).getD 1 []))), (55, .bool (!decide ((nameE (((wordsS ((noteS s).1)).1).getD 1 [])) = 0))), (58, .slice (some ⟨eb13, eo13, none⟩) ((wordsS ((noteS s).1)).1.length) vc4), (59, .int .i64 ((wordsS ((noteS s).1)).1.length : Int)), (60, .bool (decide (((wordsS ((noteS s).1)).1.length : Int) < 3))), (62, .slice (some ⟨eb13, eo13, none⟩) ((wordsS ((noteS s).1)).1.length) vc4), (63, .pointer (some ⟨eb13, eo13 + (2 : Int).toNat * 1, none⟩)), (64, str (((wordsS ((noteS s).1)).1).getD 2 [])), (65, .bool ((((wordsS ((noteS s).1)).1).getD 2 []) == [105, 110, 118, 111, 107, 101])), (66, .bool ((((wordsS ((noteS s).1)).1).getD 2 []) == [105, 110, 118, 111, 107, 101])), (73, .bool ((((wordsS ((noteS s).1)).1).getD 2 []) == [111, 107])), (74, .bool ((((wordsS ((noteS s).1)).1).getD 2 []) == [111, 107])), (101, .bool ((((wordsS ((noteS s).1)).1).getD 2 []) == [105, 110, 102, 111])), (102, .bool ((((wordsS ((noteS s).1)).1).getD 2 []) == [102, 97, 105, 108])), (103, .bool ((((wordsS ((noteS s).1)).1).getD 2 []) == [105, 110, 102, 111])), (104, .pointer (some ⟨B11, 4, none⟩)), (105, .slice (some ⟨eb13, eo13, none⟩) ((wordsS ((noteS s).1)).1.length) vc4), (106, .pointer (some ⟨eb13, eo13 + (2 : Int).toNat * 1, none⟩)), (107, str (((wordsS ((noteS s).1)).1).getD 2 [])), (108, .bool ((((wordsS ((noteS s).1)).1).getD 2 []) == [105, 110, 102, 111])), (109, .pointer (some ⟨B11, 4, none⟩)), (110, .slice (some ⟨eb13, eo13, none⟩) ((wordsS ((noteS s).1)).1.length) vc4), (111, .int .i64 ((wordsS ((noteS s).1)).1.length : Int)), (112, .bool (decide (3 < ((wordsS ((noteS s).1)).1.length : Int)))), (113, .int .i64 (nameE (((wordsS ((noteS s).1)).1).getD 1 []))), (114, .bool (!decide ((nameE (((wordsS ((noteS s).1)).1).getD 1 [])) = 0)))]) ⟨rfl, rfl, rfl, rfl, rfl, rfl, rfl, rfl, rfl, rfl, rfl, rfl, rfl, rfl, rfl, rfl, rfl, rfl, rfl, rfl, rfl, rfl, rfl, rfl, rfl, rfl, rfl, rfl, rfl, rfl, rfl, rfl, rfl, rfl, rfl, rfl, rfl, rfl, rfl, rfl, rfl, rfl, rfl, rfl, rfl, rfl, rfl, rfl, rfl, rfl, rfl, rfl, rfl, rfl, rfl, rfl, rfl, rfl, rfl, rfl, rfl, rfl, rfl, rfl, rfl, rfl, rfl, rfl, rfl, rfl, trivial⟩
             refine drawnF (fun f G' w => Heap.le G4 G' ∧ St w0 G [] G' w [[(B11, Cells 44 [(0, bif f 7 then .int .i64 (okv (countS (((wordsS ((noteS s).1)).1).getD 0 []) 9223372036854775807)) else .int .i64 0), (1, bif f 9 then .int .i64 ((parseV (((wordsS ((noteS s).1)).1).getD 1 [])).1.k) else .int .i64 0), (2, bif f 9 then .int .i64 ((parseV (((wordsS ((noteS s).1)).1).getD 1 [])).1.n) else .int .i64 0), (3, bif f 9 then str ((parseV (((wordsS ((noteS s).1)).1).getD 1 [])).1.s) else str []), (4, .int .i64 4), (5, .int .i64 0), (6, .int .i64 0), (7, .int .i64 0), (8, str []), (9, .int .i64 0), (10, .slice none 0 0), (11, .slice none 0 0), (12, bif f 11 then .bool ((noteS s).2.2.1) else .bool false), (13, bif f 13 then str ((noteS s).2.1) else str [])])], [(B10, Cells 41 [(0, .int .i64 ((parseV (((wordsS ((noteS s).1)).1).getD 1 [])).1.k)), (1, .int .i64 ((parseV (((wordsS ((noteS s).1)).1).getD 1 [])).1.n)), (2, str ((parseV (((wordsS ((noteS s).1)).1).getD 1 [])).1.s))])], [(B5, Cells 97 [(0, str ((noteS s).1)), (1, str ((noteS s).2.1)), (2, .bool ((noteS s).2.2.1)), (3, .bool (decide ((noteS s).2.2.2 = 0)))])], [(B4, Cells 44 [(0, .int .i64 0), (1, .int .i64 0), (2, .int .i64 0), (3, str []), (4, .int .i64 0), (5, .int .i64 0), (6, .int .i64 0), (7, .int .i64 0), (8, str []), (9, .int .i64 0), (10, .slice none 0 0), (11, .slice none 0 0), (12, .bool false), (13, str [])])], [(B2, Cells 44 [(0, .int .i64 0), (1, .int .i64 0), (2, .int .i64 0), (3, str []), (4, .int .i64 0), (5, .int .i64 0), (6, .int .i64 0), (7, .int .i64 0), (8, str []), (9, .int .i64 0), (10, .slice none 0 0), (11, .slice none 0 0), (12, .bool false), (13, str [])])]]) [fun v _ => v = .int .i64 (okv (countS (((wordsS ((noteS s).1)).1).getD 0 []) 9223372036854775807)), fun v _ => v = .agg #[.int .i64 ((parseV (((wordsS ((noteS s).1)).1).getD 1 [])).1.k), .int .i64 ((parseV (((wordsS ((noteS s).1)).1).getD 1 [])).1.n), str ((parseV (((wordsS ((noteS s).1)).1).getD 1 [])).1.s)], fun v _ => v = .pointer (some ⟨B5, 2, none⟩), fun v _ => v = .bool ((noteS s).2.2.1), fun v _ => v = .pointer (some ⟨B5, 1, none⟩), fun v _ => v = str ((noteS s).2.1), fun v _ => v = .pointer (some ⟨B11, 0, none⟩), fun _ _ => True, fun v _ => v = .pointer (some ⟨B11, 1, none⟩), fun _ _ => True, fun v _ => v = .pointer (some ⟨B11, 12, none⟩), fun _ _ => True, fun v _ => v = .pointer (some ⟨B11, 13, none⟩), fun _ _ => True] [] T.mix rfl HE ⟨Heap.le.refl _, HS.drew⟩ rfl (by simp) (AllM.get ⟨fun _ _ _ _ h => h, fun _ _ _ _ h => h, fun _ _ _ _ h => h, fun _ _ _ _ h => h, fun _ _ _ _ h => h, fun _ _ _ _ h => h, fun _ _ _ _ h => h, fun _ _ _ _ h => h, fun _ _ _ _ h => h, fun _ _ _ _ h => h, fun _ _ _ _ h => h, fun _ _ _ _ h => h, fun _ _ _ _ h => h, fun _ _ _ _ h => h, trivial⟩) ⟨?_, ?_, ?_, ?_, ?_, ?_, ?_, ?_, ?_, ?_, ?_, ?_, ?_, ?_, trivial⟩ ?_
             ·intro a w G1 f hcl hfi hon hW HE hp hO; obtain ⟨hl, HS⟩ := hW
              refine o_move HE rfl rfl ?_; clear HE; intro a HE
              exact ⟨_, _, Heap.le.refl _, ⟨hl, HS⟩, fun d hd => (by cases hd; exact HE.get _ _ rfl), HE.defers, rfl⟩
             ·intro a w G1 f hcl hfi hon hW HE hp hO; obtain ⟨hl, HS⟩ := hW
              refine o_ldA HE rfl HS rfl T.a41 (.there (.here .here)) rfl ?_; clear HE; intro a HE
              exact ⟨_, _, Heap.le.refl _, ⟨hl, HS⟩, fun d hd => (by cases hd; exact HE.get _ _ rfl), HE.defers, rfl⟩
             ·intro a w G1 f hcl hfi hon hW HE hp hO; obtain ⟨hl, HS⟩ := hW
              refine o_fld HE rfl rfl T.f97_2 ?_; clear HE; intro a HE
              exact ⟨_, _, Heap.le.refl _, ⟨hl, HS⟩, fun d hd => (by cases hd; exact HE.get _ _ rfl), HE.defers, rfl⟩
             ·intro a w G1 f hcl hfi hon hW HE hp hO; obtain ⟨hl, HS⟩ := hW
              obtain ⟨_, e2, rfl⟩ := hp 2 119 _ (hon 2 rfl) rfl rfl; replace HE := HE.add e2
              refine o_ld HE rfl HS rfl T.s4 (.there (.there (.here .here))) rfl ?_; clear HE; intro a HE
              exact ⟨_, _, Heap.le.refl _, ⟨hl, HS⟩, fun d hd => (by cases hd; exact HE.get _ _ rfl), HE.defers, rfl⟩
             ·intro a w G1 f hcl hfi hon hW HE hp hO; obtain ⟨hl, HS⟩ := hW
              refine o_fld HE rfl rfl T.f97_1 ?_; clear HE; intro a HE
              exact ⟨_, _, Heap.le.refl _, ⟨hl, HS⟩, fun d hd => (by cases hd; exact HE.get _ _ rfl), HE.defers, rfl⟩
             ·intro a w G1 f hcl hfi hon hW HE hp hO; obtain ⟨hl, HS⟩ := hW
              obtain ⟨_, e4, rfl⟩ := hp 4 121 _ (hon 4 rfl) rfl rfl; replace HE := HE.add e4
              refine o_ld HE rfl HS rfl T.s9 (.there (.there (.here .here))) rfl ?_; clear HE; intro a HE
              exact ⟨_, _, Heap.le.refl _, ⟨hl, HS⟩, fun d hd => (by cases hd; exact HE.get _ _ rfl), HE.defers, rfl⟩
             ·intro a w G1 f hcl hfi hon hW HE hp hO; obtain ⟨hl, HS⟩ := hW
              refine o_fld HE rfl rfl T.f44_0 ?_; clear HE; intro a HE
              exact ⟨_, _, Heap.le.refl _, ⟨hl, HS⟩, fun d hd => (by cases hd; exact HE.get _ _ rfl), HE.defers, rfl⟩
             ·intro a w G1 f hcl hfi hon hW HE hp hO; obtain ⟨hl, HS⟩ := hW
              obtain ⟨_, e6, rfl⟩ := hp 6 123 _ (hon 6 rfl) rfl rfl; replace HE := HE.add e6
              obtain ⟨_, e0, rfl⟩ := hp 0 117 _ (hon 0 rfl) rfl rfl; replace HE := HE.add e0
              refine o_st HE HS rfl rfl rfl T.s2 (.here .here) rfl ?_; clear HS; intro w HS
              replace HS := HS.conv (L2 := [(0, _), (1, _), (2, _), (3, _), (4, _), (5, _), (6, _), (7, _), (8, _), (9, _), (10, _), (11, _), (12, _), (13, _)]) (.here .here) ⟨rfl, rfl, rfl, rfl, rfl, rfl, rfl, rfl, rfl, rfl, rfl, rfl, rfl, rfl, trivial⟩
              exact ⟨.bool true, _, Heap.le.refl _, ⟨hl, HS⟩, fun d hd => (by cases hd), HE.defers, trivial⟩
             ·intro a w G1 f hcl hfi hon hW HE hp hO; obtain ⟨hl, HS⟩ := hW
              refine o_fld HE rfl rfl T.f44_1 ?_; clear HE; intro a HE
              exact ⟨_, _, Heap.le.refl _, ⟨hl, HS⟩, fun d hd => (by cases hd; exact HE.get _ _ rfl), HE.defers, rfl⟩
             ·intro a w G1 f hcl hfi hon hW HE hp hO; obtain ⟨hl, HS⟩ := hW
              obtain ⟨_, e8, rfl⟩ := hp 8 124 _ (hon 8 rfl) rfl rfl; replace HE := HE.add e8
              obtain ⟨_, e1, rfl⟩ := hp 1 118 _ (hon 1 rfl) rfl rfl; replace HE := HE.add e1
              refine o_stA HE HS rfl rfl rfl T.a41 (.here .here) rfl ?_; clear HS; intro w HS
              replace HS := HS.conv (L2 := [(0, _), (1, _), (2, _), (3, _), (4, _), (5, _), (6, _), (7, _), (8, _), (9, _), (10, _), (11, _), (12, _), (13, _)]) (.here .here) ⟨rfl, rfl, rfl, rfl, rfl, rfl, rfl, rfl, rfl, rfl, rfl, rfl, rfl, rfl, trivial⟩
              exact ⟨.bool true, _, Heap.le.refl _, ⟨hl, HS⟩, fun d hd => (by cases hd), HE.defers, trivial⟩
             ·intro a w G1 f hcl hfi hon hW HE hp hO; obtain ⟨hl, HS⟩ := hW
              refine o_fld HE rfl rfl T.f44_8 ?_; clear HE; intro a HE
              exact ⟨_, _, Heap.le.refl _, ⟨hl, HS⟩, fun d hd => (by cases hd; exact HE.get _ _ rfl), HE.defers, rfl⟩
             ·intro a w G1 f hcl hfi hon hW HE hp hO; obtain ⟨hl, HS⟩ := hW
              obtain ⟨_, e10, rfl⟩ := hp 10 125 _ (hon 10 rfl) rfl rfl; replace HE := HE.add e10
              obtain ⟨_, e3, rfl⟩ := hp 3 120 _ (hon 3 rfl) rfl rfl; replace HE := HE.add e3
              refine o_st HE HS rfl rfl rfl T.s4 (.here .here) rfl ?_; clear HS; intro w HS
              replace HS := HS.conv (L2 := [(0, _), (1, _), (2, _), (3, _), (4, _), (5, _), (6, _), (7, _), (8, _), (9, _), (10, _), (11, _), (12, _), (13, _)]) (.here .here) ⟨rfl, rfl, rfl, rfl, rfl, rfl, rfl, rfl, rfl, rfl, rfl, rfl, rfl, rfl, trivial⟩
              exact ⟨.bool true, _, Heap.le.refl _, ⟨hl, HS⟩, fun d hd => (by cases hd), HE.defers, trivial⟩
             ·intro a w G1 f hcl hfi hon hW HE hp hO; obtain ⟨hl, HS⟩ := hW
              refine o_fld HE rfl rfl T.f44_9 ?_; clear HE; intro a HE
              exact ⟨_, _, Heap.le.refl _, ⟨hl, HS⟩, fun d hd => (by cases hd; exact HE.get _ _ rfl), HE.defers, rfl⟩
             ·intro a w G1 f hcl hfi hon hW HE hp hO; obtain ⟨hl, HS⟩ := hW
              obtain ⟨_, e12, rfl⟩ := hp 12 126 _ (hon 12 rfl) rfl rfl; replace HE := HE.add e12
              obtain ⟨_, e5, rfl⟩ := hp 5 122 _ (hon 5 rfl) rfl rfl; replace HE := HE.add e5
              refine o_st HE HS rfl rfl rfl T.s9 (.here .here) rfl ?_; clear HS; intro w HS
              replace HS := HS.conv (L2 := [(0, _), (1, _), (2, _), (3, _), (4, _), (5, _), (6, _), (7, _), (8, _), (9, _), (10, _), (11, _), (12, _), (13, _)]) (.here .here) ⟨rfl, rfl, rfl, rfl, rfl, rfl, rfl, rfl, rfl, rfl, rfl, rfl, rfl, rfl, trivial⟩
              exact ⟨.bool true, _, Heap.le.refl _, ⟨hl, HS⟩, fun d hd => (by cases hd), HE.defers, trivial⟩
             clear HE HS; intro a w G150 f hle151 hall HW HE hp; obtain ⟨_, HS⟩ := HW
             have hfw7 := hall 7 (by decide)
             have hfw9 := hall 9 (by decide)
             have hfw11 := hall 11 (by decide)
             have hfw13 := hall 13 (by decide)
             simp only [hfw7, hfw9, hfw11, hfw13, cond_true] at HS
             replace hR4 := hR4.le hle151
             clear hp hall
             refine hK148 _ _ ?_; clear hK148
             refine sr fun K hK => ?_
             refine rn 3 HE HS ?_; clear HE HS; intro a w HE HS
             apply hK; clear hK K
             refine rt hQ HE HS ?_
             have hc0 : erv (C9 ((wordsS (noteS s).1).1.getD 0 [])) = 0 := by simpa [C9] using h18
             have g1 := getD_at (l := (wordsS (noteS s).1).1) (i := 1) (by omega)
             have hc1 : nameE ((wordsS (noteS s).1).1.getD 1 []) = 0 := by simpa using h30
             have g2 := getD_at (l := (wordsS (noteS s).1).1) (i := 2) (by omega)
             have hcode : (allS (wordsS (noteS s).1).1).2.2 = 0 := by rw [(all_info g0 hc0 g1 hc1 g2 h131).1, if_neg (by omega)]
             have he : parseE s = ({ (⟨okv (C9 ((wordsS (noteS s).1).1.getD 0 [])), (parseV ((wordsS (noteS s).1).1.getD 1 [])).1, 4, 0, ⟨0, 0, []⟩, 0, [], [], false, []⟩ : Evt) with noted := (noteS s).2.2.1, note := (noteS s).2.1 }, 0) := parseE_yes' hn1 hn2 (hcode) ((all_info g0 hc0 g1 hc1 g2 h131).2)
             rw [he]
             exact ⟨_, _, _, _, rfl, Nat.zero_le _, .nil, Nat.zero_le _, .nil⟩
          ·exact absurd (h131r.symm.trans h136r) (by decide)
         ·have h131 := nm h131r
          refine wp_region_lit ?_
          refine rn 1 HE HS ?_; clear HE HS; intro a w HE HS
          refine hK38 _ _ ?_; clear hK38
          refine wp_seq_k (fun K154 hK153 => ?_)
          refine sr fun K hK => ?_
          refine rn 2 HE HS ?_; clear HE HS; intro a w HE HS
          apply hK; clear hK K
          refine cond HE rfl (fun h156r => ?_) (fun h156r => ?_)
          ·have h156 := nm h156r
           refine sr fun K hK => ?_
           refine rn 4 HE HS ?_; clear HE HS; intro a w HE HS
           apply hK; clear hK K
           refine rt hQ HE HS ?_
           have hc0 : erv (C9 ((wordsS (noteS s).1).1.getD 0 [])) = 0 := by simpa [C9] using h18
           have g1 := getD_at (l := (wordsS (noteS s).1).1) (i := 1) (by omega)
           have hc1 : nameE ((wordsS (noteS s).1).1.getD 1 []) = 0 := by simpa using h30
           have g2 := getD_at (l := (wordsS (noteS s).1).1) (i := 2) (by omega)
           have he : parseE s = (E0, 2) := parseE_err' hn1 hn2 (all_no g0 hc0 g1 hc1 g2 h43 h57 h92 h131) (by decide)
           rw [he]
           exact ⟨_, _, _, _, rfl, Nat.zero_le _, .nil, Nat.zero_le _, .nil⟩
          ·exact absurd h156r (by decide)

/-! `incognito/incognitoref07.Same` -/
set_option maxRecDepth 100000 in
set_option maxHeartbeats 4000000 in
theorem c_Same7 (xa : List Val) (Aa : Option Addr) (ca : Nat) (xb : List Val) (Ab : Option Addr) (cb : Nat) (w0 : World) (G : Heap) (hG : Sub G w0) (hRxa : Rd kVal G Aa xa) (hlxa : xa.length ≤ 9223372036854775807) (hRxb : Rd kVal G Ab xb) (hlxb : xb.length ≤ 9223372036854775807):
  Calls Tryd.prog 54 #[.slice Aa xa.length ca, .slice Ab xb.length cb] w0 (Ret w0 G (fun v _ => v = .bool (decide (xa = xb)))) := by
 refine enter Tryd.func54 rfl Tryd.ntmps54 rfl ?_
 intro Q hQ a HE
 have HS := St.start0 hG
 refine sr fun K hK => ?_
 refine rn 1 HE HS ?_; clear HE HS; intro a w HE HS
 apply hK; clear hK K
 refine wp_seq_k (fun K3 hK2 => ?_)
 refine sr fun K hK => ?_
 refine rn 5 HE HS ?_; clear HE HS; intro a w HE HS
 apply hK; clear hK K
 refine cond HE rfl (fun h5r => ?_) (fun h5r => ?_)
 ·have h5 := nm h5r
  refine sr fun K hK => ?_
  refine rn 1 HE HS ?_; clear HE HS; intro a w HE HS
  apply hK; clear hK K
  refine rt hQ HE HS ?_
  show _ = _
  simp only [packed, Value.bool.injEq]
  exact (decide_eq_false fun e => by subst e; omega).symm
 ·have h5 := nm h5r
  refine wp_skip ?_
  refine hK2 _ _ ?_; clear hK2
  refine wp_seq_k (fun K8 hK7 => ?_)
  refine sr fun K hK => ?_
  refine rn 1 HE HS ?_; clear HE HS; intro a w HE HS
  apply hK; clear hK K
  refine wp_block ?_
  refine loop (fun (i : Nat) a' w' => St w0 G [] G w' [] ∧ Env a' 26 [] [(0, .slice Aa xa.length ca), (1, .slice Ab xb.length cb), (4, .bool false), (5, .int .i64 (i : Int))] ∧ (i ≤ xa.length ∧ xa.take i = xb.take i)) (fun (i : Nat) => xa.length - i) 0 ⟨HS, HE.cut ⟨rfl, rfl, rfl, rfl, trivial⟩, ⟨Nat.zero_le _, rfl⟩⟩ ?_
  clear HE HS; intro i a w ⟨HS, HE, ⟨hi, ht⟩⟩
  refine wp_seq_k (fun K12 hK11 => ?_)
  refine sr fun K hK => ?_
  refine rn 4 HE HS ?_; clear HE HS; intro a w HE HS
  apply hK; clear hK K
  refine cond HE rfl (fun h14r => ?_) (fun h14r => ?_)
  ·have h14 := nm h14r
   refine wp_skip ?_
   refine hK11 _ _ ?_; clear hK11
   refine wp_seq_k (fun K16 hK15 => ?_)
   refine wp_block ?_
   refine wp_seq_k (fun K18 hK17 => ?_)
   have hi19 : (i : Int).toNat < xa.length := by omega
   obtain ⟨eb19, eo19, hA19, el19⟩ := Rd.at hRxa (List.getElem?_eq_getElem hi19); cases hA19
   obtain ⟨x19, ex19⟩ : ∃ x, xa[(i : Int).toNat] = x := ⟨_, rfl⟩; rw [ex19] at el19
   have el19 := kVal_open el19
   have hi20 : (i : Int).toNat < xb.length := by omega
   obtain ⟨eb20, eo20, hA20, el20⟩ := Rd.at hRxb (List.getElem?_eq_getElem hi20); cases hA20
   obtain ⟨x20, ex20⟩ : ∃ x, xb[(i : Int).toNat] = x := ⟨_, rfl⟩; rw [ex20] at el20
   have el20 := kVal_open el20
   refine drawnP [fun v => v = .slice (some ⟨eb19, eo19, none⟩) xa.length ca, fun v => v = .int .i64 (i : Int), fun v => v = .pointer (some ⟨eb19, eo19 + (i : Int).toNat * 3, none⟩), fun v => v = .agg #[.int .i64 x19.k, .int .i64 x19.n, str x19.s], fun v => v = .slice (some ⟨eb20, eo20, none⟩) xb.length cb, fun v => v = .int .i64 (i : Int), fun v => v = .pointer (some ⟨eb20, eo20 + (i : Int).toNat * 3, none⟩), fun v => v = .agg #[.int .i64 x20.k, .int .i64 x20.n, str x20.s], fun v => v = .bool (!(decide (x19.k = x20.k) && (decide (x19.n = x20.n) && (x19.s == x20.s && true))))] T.mix rfl HE HS rfl ⟨?_, ?_, ?_, ?_, ?_, ?_, ?_, ?_, ?_, trivial⟩ ?_
   ·intro a w G1 hl HS HE hp
    refine o_move HE rfl rfl ?_; clear HE; intro a HE
    exact ⟨_, _, HS, rfl, HE.get _ _ rfl, HE.defers, rfl⟩
   ·intro a w G1 hl HS HE hp
    refine o_move HE rfl rfl ?_; clear HE; intro a HE
    exact ⟨_, _, HS, rfl, HE.get _ _ rfl, HE.defers, rfl⟩
   ·intro a w G1 hl HS HE hp
    obtain ⟨_, e0, rfl⟩ := hp 0 17 _ rfl rfl rfl; replace HE := HE.add e0
    obtain ⟨_, e1, rfl⟩ := hp 1 18 _ rfl rfl rfl; replace HE := HE.add e1
    refine o_ixL HE rfl rfl rfl T.l42 ⟨by omega, by omega⟩ ?_; clear HE; intro a HE
    exact ⟨_, _, HS, rfl, HE.get _ _ rfl, HE.defers, rfl⟩
   ·intro a w G1 hl HS HE hp
    obtain ⟨_, e2, rfl⟩ := hp 2 19 _ rfl rfl rfl; replace HE := HE.add e2
    refine o_ldIA HE rfl HS rfl (el19.le hl) T.a41 ?_; clear HE; intro a HE
    exact ⟨_, _, HS, rfl, HE.get _ _ rfl, HE.defers, rfl⟩
   ·intro a w G1 hl HS HE hp
    refine o_move HE rfl rfl ?_; clear HE; intro a HE
    exact ⟨_, _, HS, rfl, HE.get _ _ rfl, HE.defers, rfl⟩
   ·intro a w G1 hl HS HE hp
    refine o_move HE rfl rfl ?_; clear HE; intro a HE
    exact ⟨_, _, HS, rfl, HE.get _ _ rfl, HE.defers, rfl⟩
   ·intro a w G1 hl HS HE hp
    obtain ⟨_, e4, rfl⟩ := hp 4 21 _ rfl rfl rfl; replace HE := HE.add e4
    obtain ⟨_, e5, rfl⟩ := hp 5 22 _ rfl rfl rfl; replace HE := HE.add e5
    refine o_ixL HE rfl rfl rfl T.l42 ⟨by omega, by omega⟩ ?_; clear HE; intro a HE
    exact ⟨_, _, HS, rfl, HE.get _ _ rfl, HE.defers, rfl⟩
   ·intro a w G1 hl HS HE hp
    obtain ⟨_, e6, rfl⟩ := hp 6 23 _ rfl rfl rfl; replace HE := HE.add e6
    refine o_ldIA HE rfl HS rfl (el20.le hl) T.a41 ?_; clear HE; intro a HE
    exact ⟨_, _, HS, rfl, HE.get _ _ rfl, HE.defers, rfl⟩
   ·intro a w G1 hl HS HE hp
    obtain ⟨_, e3, rfl⟩ := hp 3 20 _ rfl rfl rfl; replace HE := HE.add e3
    obtain ⟨_, e7, rfl⟩ := hp 7 24 _ rfl rfl rfl; replace HE := HE.add e7
    refine o_neA (b := decide (x19.k = x20.k) && (decide (x19.n = x20.n) && (x19.s == x20.s && true))) HE rfl rfl rfl T.q41 rfl rfl ?_; clear HE; intro a HE
    exact ⟨_, _, HS, rfl, HE.get _ _ rfl, HE.defers, rfl⟩
   clear HE HS; intro a w HS HE hp
   obtain ⟨_, e8, rfl⟩ := hp 8 25 _ rfl rfl; replace HE := HE.add e8
   clear hp
   refine hK17 _ _ ?_; clear hK17
   refine cond HE rfl (fun h21r => ?_) (fun h21r => ?_)
   ·have h21 := nm h21r
    refine sr fun K hK => ?_
    refine rn 1 HE HS ?_; clear HE HS; intro a w HE HS
    apply hK; clear hK K
    refine rt hQ HE HS ?_
    show _ = _
    simp only [packed, Value.bool.injEq]
    have hq := h21r
    rw [Bool.not_eq_true'] at hq
    exact (decide_eq_false fun e => by subst e; exact val_ne hq (ex19.symm.trans ex20)).symm
   ·have h21 := nm h21r
    refine wp_skip ?_
    refine hK15 _ _ ?_; clear hK15
    refine wp_region_lit ?_
    refine rn 3 HE HS ?_; clear HE HS; intro a w HE HS
    have hlt : i < xa.length := by omega
    have hq := h21r
    rw [Bool.not_eq_false'] at hq
    have ht2 : xa.take (i + 1) = xb.take (i + 1) := take_snoc_eq7 ht hlt (by omega) (ex19.trans ((val_eq hq).trans ex20.symm))
    exact ⟨i + 1, ⟨HS, HE.cut ⟨rfl, rfl, rfl, rfl, trivial⟩, ⟨by omega, ht2⟩⟩, by omega⟩
  ·have h14 := nm h14r
   refine wp_exit ?_
   refine hK7 _ _ ?_; clear hK7
   refine sr fun K hK => ?_
   refine rn 1 HE HS ?_; clear HE HS; intro a w HE HS
   apply hK; clear hK K
   refine rt hQ HE HS ?_
   show _ = _
   simp only [packed, Value.bool.injEq]
   exact (decide_eq_true (by rwa [List.take_of_length_le (by omega), List.take_of_length_le (by omega)] at ht)).symm

/-! `incognito/incognitoref10.Same` -/
set_option maxRecDepth 100000 in
set_option maxHeartbeats 4000000 in
theorem c_SameE (x y : Evt) (A1x : Option Addr) (c1x : Nat) (A2x : Option Addr) (c2x : Nat) (A1y : Option Addr) (c1y : Nat) (A2y : Option Addr) (c2y : Nat) (w0 : World) (G : Heap) (hG : Sub G w0) (hr1x : Rd kVal G A1x x.args) (hr2x : Rd kVal G A2x x.out) (hl1x : x.args.length ≤ 9223372036854775807) (hl2x : x.out.length ≤ 9223372036854775807) (hr1y : Rd kVal G A1y y.args) (hr2y : Rd kVal G A2y y.out) (hl1y : y.args.length ≤ 9223372036854775807) (hl2y : y.out.length ≤ 9223372036854775807):
  Calls Tryd.prog 24 #[.agg #[.int .i64 x.time, .int .i64 x.client.k, .int .i64 x.client.n, str x.client.s, .int .i64 x.type, .int .i64 x.model, .int .i64 x.key.k, .int .i64 x.key.n, str x.key.s, .int .i64 x.op, .slice A1x x.args.length c1x, .slice A2x x.out.length c2x, .bool x.noted, str x.note], .agg #[.int .i64 y.time, .int .i64 y.client.k, .int .i64 y.client.n, str y.client.s, .int .i64 y.type, .int .i64 y.model, .int .i64 y.key.k, .int .i64 y.key.n, str y.key.s, .int .i64 y.op, .slice A1y y.args.length c1y, .slice A2y y.out.length c2y, .bool y.noted, str y.note]] w0 (Ret w0 G (fun v _ => v = .bool (decide (x = y)))) := by
 refine enter Tryd.func24 rfl Tryd.ntmps24 rfl ?_
 intro Q hQ a HE
 have HS := St.start0 hG
 refine sr fun K hK => ?_
 refine o_bx14 HE rfl HS rfl ?_; clear HE HS; intro B2 w a HS HE
 refine o_bx14 HE rfl HS rfl ?_; clear HE HS; intro B3 w a HS HE
 refine rn 1 HE HS ?_; clear HE HS; intro a w HE HS
 apply hK; clear hK K
 refine sr fun K hK => ?_
 refine rn 6 HE HS ?_; clear HE HS; intro a w HE HS
 refine cutG 6 16 (.bool ((decide (x.time = y.time)) && (decide (x.client.k = y.client.k) && (decide (x.client.n = y.client.n) && (x.client.s == y.client.s && true))))) HE HS ?_ ?_
 ·refine bsp HE (t := 10) rfl (fun hb2 => ?_) (fun hb2 => ?_)
  ·have hk3 := nm hb2
   refine rn 4 HE HS ?_; clear HE HS; intro a w HE HS
   refine op_on HE rfl rfl hb2 ?_
   refine o_eqA (b := decide (x.client.k = y.client.k) && (decide (x.client.n = y.client.n) && (x.client.s == y.client.s && true))) HE rfl rfl rfl T.q41 rfl rfl ?_; clear HE; intro a HE
   refine rn 1 HE HS ?_; clear HE HS; intro a w HE HS
   exact ⟨HS, HE.cutT (by rw [hb2]; rfl)⟩
  ·skip
   refine rn 6 HE HS ?_; clear HE HS; intro a w HE HS
   exact ⟨HS, HE.cutT (by rw [hb2]; rfl)⟩
 clear HE HS; intro a w HE HS
 refine rn 1 HE HS ?_; clear HE HS; intro a w HE HS
 refine cutG 6 23 (.bool (((decide (x.time = y.time)) && (decide (x.client.k = y.client.k) && (decide (x.client.n = y.client.n) && (x.client.s == y.client.s && true)))) && (decide (x.type = y.type)))) HE HS ?_ ?_
 ·refine bsp HE (t := 17) rfl (fun hb4 => ?_) (fun hb4 => ?_)
  ·have hk5 := nm hb4
   refine rn 6 HE HS ?_; clear HE HS; intro a w HE HS
   exact ⟨HS, HE.cutT (by rw [hb4]; rfl)⟩
  ·skip
   refine rn 6 HE HS ?_; clear HE HS; intro a w HE HS
   exact ⟨HS, HE.cutT (by rw [hb4]; rfl)⟩
 clear HE HS; intro a w HE HS
 refine rn 1 HE HS ?_; clear HE HS; intro a w HE HS
 refine cutG 6 30 (.bool ((((decide (x.time = y.time)) && (decide (x.client.k = y.client.k) && (decide (x.client.n = y.client.n) && (x.client.s == y.client.s && true)))) && (decide (x.type = y.type))) && (decide (x.model = y.model)))) HE HS ?_ ?_
 ·refine bsp HE (t := 24) rfl (fun hb6 => ?_) (fun hb6 => ?_)
  ·have hk7 := nm hb6
   refine rn 6 HE HS ?_; clear HE HS; intro a w HE HS
   exact ⟨HS, HE.cutT (by rw [hb6]; rfl)⟩
  ·skip
   refine rn 6 HE HS ?_; clear HE HS; intro a w HE HS
   exact ⟨HS, HE.cutT (by rw [hb6]; rfl)⟩
 clear HE HS; intro a w HE HS
 refine rn 1 HE HS ?_; clear HE HS; intro a w HE HS
 refine cutG 6 37 (.bool (((((decide (x.time = y.time)) && (decide (x.client.k = y.client.k) && (decide (x.client.n = y.client.n) && (x.client.s == y.client.s && true)))) && (decide (x.type = y.type))) && (decide (x.model = y.model))) && (decide (x.key.k = y.key.k) && (decide (x.key.n = y.key.n) && (x.key.s == y.key.s && true))))) HE HS ?_ ?_
 ·refine bsp HE (t := 31) rfl (fun hb8 => ?_) (fun hb8 => ?_)
  ·have hk9 := nm hb8
   refine rn 4 HE HS ?_; clear HE HS; intro a w HE HS
   refine op_on HE rfl rfl hb8 ?_
   refine o_eqA (b := decide (x.key.k = y.key.k) && (decide (x.key.n = y.key.n) && (x.key.s == y.key.s && true))) HE rfl rfl rfl T.q41 rfl rfl ?_; clear HE; intro a HE
   refine rn 1 HE HS ?_; clear HE HS; intro a w HE HS
   exact ⟨HS, HE.cutT (by rw [hb8]; rfl)⟩
  ·skip
   refine rn 6 HE HS ?_; clear HE HS; intro a w HE HS
   exact ⟨HS, HE.cutT (by rw [hb8]; rfl)⟩
 clear HE HS; intro a w HE HS
 refine rn 1 HE HS ?_; clear HE HS; intro a w HE HS
 refine cutG 6 44 (.bool ((((((decide (x.time = y.time)) && (decide (x.client.k = y.client.k) && (decide (x.client.n = y.client.n) && (x.client.s == y.client.s && true)))) && (decide (x.type = y.type))) && (decide (x.model = y.model))) && (decide (x.key.k = y.key.k) && (decide (x.key.n = y.key.n) && (x.key.s == y.key.s && true)))) && (decide (x.op = y.op)))) HE HS ?_ ?_
 ·refine bsp HE (t := 38) rfl (fun hb10 => ?_) (fun hb10 => ?_)
  ·have hk11 := nm hb10
   refine rn 6 HE HS ?_; clear HE HS; intro a w HE HS
   exact ⟨HS, HE.cutT (by rw [hb10]; rfl)⟩
  ·skip
   refine rn 6 HE HS ?_; clear HE HS; intro a w HE HS
   exact ⟨HS, HE.cutT (by rw [hb10]; rfl)⟩
 clear HE HS; intro a w HE HS
 refine rn 1 HE HS ?_; clear HE HS; intro a w HE HS
 refine cutG 6 51 (.bool (((((((decide (x.time = y.time)) && (decide (x.client.k = y.client.k) && (decide (x.client.n = y.client.n) && (x.client.s == y.client.s && true)))) && (decide (x.type = y.type))) && (decide (x.model = y.model))) && (decide (x.key.k = y.key.k) && (decide (x.key.n = y.key.n) && (x.key.s == y.key.s && true)))) && (decide (x.op = y.op))) && (decide (x.args = y.args)))) HE HS ?_ ?_
 ·refine bsp HE (t := 45) rfl (fun hb12 => ?_) (fun hb12 => ?_)
  ·have hk13 := nm hb12
   refine rn 4 HE HS ?_; clear HE HS; intro a w HE HS
   refine op_on HE rfl rfl hb12 ?_
   refine o_callP HE rfl HS rfl rfl T.g54 (c_Same7 x.args _ _ y.args _ _ _ _ HS.sub hr1x (by first | omega | (simp; done) | exact parse_args (by first | omega | (simp; omega)) | exact parse_out (by first | omega | (simp; omega))) hr1y (by first | omega | (simp; done) | exact parse_args (by first | omega | (simp; omega)) | exact parse_out (by first | omega | (simp; omega)))) ?_
   clear HE HS; rintro _ w a HS rfl HE
   refine rn 1 HE HS ?_; clear HE HS; intro a w HE HS
   exact ⟨HS, HE.cutT (by rw [hb12]; rfl)⟩
  ·skip
   refine rn 6 HE HS ?_; clear HE HS; intro a w HE HS
   exact ⟨HS, HE.cutT (by rw [hb12]; rfl)⟩
 clear HE HS; intro a w HE HS
 refine rn 1 HE HS ?_; clear HE HS; intro a w HE HS
 refine cutG 6 58 (.bool ((((((((decide (x.time = y.time)) && (decide (x.client.k = y.client.k) && (decide (x.client.n = y.client.n) && (x.client.s == y.client.s && true)))) && (decide (x.type = y.type))) && (decide (x.model = y.model))) && (decide (x.key.k = y.key.k) && (decide (x.key.n = y.key.n) && (x.key.s == y.key.s && true)))) && (decide (x.op = y.op))) && (decide (x.args = y.args))) && (decide (x.out = y.out)))) HE HS ?_ ?_
 ·refine bsp HE (t := 52) rfl (fun hb14 => ?_) (fun hb14 => ?_)
  ·have hk15 := nm hb14
   refine rn 4 HE HS ?_; clear HE HS; intro a w HE HS
   refine op_on HE rfl rfl hb14 ?_
   refine o_callP HE rfl HS rfl rfl T.g54 (c_Same7 x.out _ _ y.out _ _ _ _ HS.sub hr2x (by first | omega | (simp; done) | exact parse_args (by first | omega | (simp; omega)) | exact parse_out (by first | omega | (simp; omega))) hr2y (by first | omega | (simp; done) | exact parse_args (by first | omega | (simp; omega)) | exact parse_out (by first | omega | (simp; omega)))) ?_
   clear HE HS; rintro _ w a HS rfl HE
   refine rn 1 HE HS ?_; clear HE HS; intro a w HE HS
   exact ⟨HS, HE.cutT (by rw [hb14]; rfl)⟩
  ·skip
   refine rn 6 HE HS ?_; clear HE HS; intro a w HE HS
   exact ⟨HS, HE.cutT (by rw [hb14]; rfl)⟩
 clear HE HS; intro a w HE HS
 refine rn 1 HE HS ?_; clear HE HS; intro a w HE HS
 refine cutG 6 65 (.bool (((((((((decide (x.time = y.time)) && (decide (x.client.k = y.client.k) && (decide (x.client.n = y.client.n) && (x.client.s == y.client.s && true)))) && (decide (x.type = y.type))) && (decide (x.model = y.model))) && (decide (x.key.k = y.key.k) && (decide (x.key.n = y.key.n) && (x.key.s == y.key.s && true)))) && (decide (x.op = y.op))) && (decide (x.args = y.args))) && (decide (x.out = y.out))) && (x.noted == y.noted))) HE HS ?_ ?_
 ·refine bsp HE (t := 59) rfl (fun hb16 => ?_) (fun hb16 => ?_)
  ·have hk17 := nm hb16
   refine rn 4 HE HS ?_; clear HE HS; intro a w HE HS
   refine op_on HE rfl rfl hb16 ?_
   refine o_eqB HE rfl rfl rfl Tryd.underlying4 ?_; clear HE; intro a HE
   refine rn 1 HE HS ?_; clear HE HS; intro a w HE HS
   exact ⟨HS, HE.cutT (by rw [hb16]; rfl)⟩
  ·skip
   refine rn 6 HE HS ?_; clear HE HS; intro a w HE HS
   exact ⟨HS, HE.cutT (by rw [hb16]; rfl)⟩
 clear HE HS; intro a w HE HS
 refine rn 1 HE HS ?_; clear HE HS; intro a w HE HS
 refine cutG 6 72 (.bool ((((((((((decide (x.time = y.time)) && (decide (x.client.k = y.client.k) && (decide (x.client.n = y.client.n) && (x.client.s == y.client.s && true)))) && (decide (x.type = y.type))) && (decide (x.model = y.model))) && (decide (x.key.k = y.key.k) && (decide (x.key.n = y.key.n) && (x.key.s == y.key.s && true)))) && (decide (x.op = y.op))) && (decide (x.args = y.args))) && (decide (x.out = y.out))) && (x.noted == y.noted)) && (x.note == y.note))) HE HS ?_ ?_
 ·refine bsp HE (t := 66) rfl (fun hb18 => ?_) (fun hb18 => ?_)
  ·have hk19 := nm hb18
   refine rn 6 HE HS ?_; clear HE HS; intro a w HE HS
   exact ⟨HS, HE.cutT (by rw [hb18]; rfl)⟩
  ·skip
   refine rn 6 HE HS ?_; clear HE HS; intro a w HE HS
   exact ⟨HS, HE.cutT (by rw [hb18]; rfl)⟩
 clear HE HS; intro a w HE HS
 refine rn 1 HE HS ?_; clear HE HS; intro a w HE HS
 apply hK; clear hK K
 refine rt hQ HE HS ?_
 show _ = _
 simp only [packed, Value.bool.injEq]
 obtain ⟨xt, ⟨xk, xn, xs⟩, xy, xm, ⟨xkk, xkn, xks⟩, xo, xa, xu, xd, xe⟩ := x
 obtain ⟨yt, ⟨yk, yn, ys⟩, yy, ym, ⟨ykk, ykn, yks⟩, yo, ya, yu, yd, ye⟩ := y
 rw [Bool.eq_iff_iff]
 simp only [Bool.and_eq_true, decide_eq_true_eq, beq_iff_eq, Evt.mk.injEq, Val.mk.injEq, and_true, and_assoc]
end Go.Proofs.YtiinipcmghhacaaDoor.T10
