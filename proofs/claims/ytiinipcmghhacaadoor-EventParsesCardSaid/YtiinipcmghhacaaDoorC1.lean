/- The reference's reading of an event walked. -/
import Derived.Test.YtiinipcmghhacaaDoorC0
set_option linter.unusedVariables false
set_option linter.unusedSimpArgs false
namespace Go.Proofs.YtiinipcmghhacaaDoor.T10
open Go Go.Proofs.YtiinipcmghhacaaDoor.X
theorem T.F142_0 : fldOf Tryd.prog 142 0 = some (0, 114) := by kernel_rfl
theorem T.F142_3 : fldOf Tryd.prog 142 3 = some (3, 4) := by kernel_rfl
theorem T.f44_8 : fieldOff Tryd.prog 44 8 = some 12 := by kernel_rfl
theorem T.f44_9 : fieldOff Tryd.prog 44 9 = some 13 := by kernel_rfl
theorem T.f97_0 : fieldOff Tryd.prog 97 0 = some 0 := by kernel_rfl
theorem T.f97_1 : fieldOff Tryd.prog 97 1 = some 1 := by kernel_rfl
theorem T.f97_2 : fieldOff Tryd.prog 97 2 = some 2 := by kernel_rfl
theorem T.f97_3 : fieldOff Tryd.prog 97 3 = some 3 := by kernel_rfl
theorem T.g48 : goFn Tryd.prog 48 = true := by kernel_rfl
theorem T.g49 : goFn Tryd.prog 49 = true := by kernel_rfl
theorem T.g50 : goFn Tryd.prog 50 = true := by kernel_rfl
theorem T.g51 : goFn Tryd.prog 51 = true := by kernel_rfl
theorem T.g52 : goFn Tryd.prog 52 = true := by kernel_rfl
theorem T.g54 : goFn Tryd.prog 54 = true := by kernel_rfl
theorem T.g93 : goFn Tryd.prog 93 = true := by kernel_rfl
theorem T.g94 : goFn Tryd.prog 94 = true := by kernel_rfl
theorem T.g95 : goFn Tryd.prog 95 = true := by kernel_rfl
theorem T.g96 : goFn Tryd.prog 96 = true := by kernel_rfl
theorem T.s114 : scal Tryd.prog 114 = true := by kernel_rfl
theorem T.s4 : scal Tryd.prog 4 = true := by kernel_rfl

theorem parseE_err' {s : Bs} {e : Int} (h1 : (noteS s).2.2.2 = 0) (h2 : (wordsS (noteS s).1).2 = 0) (h : (allS (wordsS (noteS s).1).1).2.2 = e) (he : ¬ e = 0) : parseE s = (E0, e) := parseE_err h1 h2 h he
theorem parseE_yes' {s : Bs} {x : Evt} (h1 : (noteS s).2.2.2 = 0) (h2 : (wordsS (noteS s).1).2 = 0) (h : (allS (wordsS (noteS s).1).1).2.2 = 0) (hx : (allS (wordsS (noteS s).1).1).1 = x) : parseE s = ({ x with noted := (noteS s).2.2.1, note := (noteS s).2.1 }, 0) := parseE_yes h1 h2 h hx
theorem getD_at {l : List Bs} {i : Nat} (h : i < l.length) : l[i]? = some (l.getD i []) := by
  rw [List.getD_eq_getElem?_getD, List.getElem?_eq_getElem h]; rfl
theorem getD_mem {l : List Bs} {i : Nat} (h : i < l.length) : l.getD i [] ∈ l := List.mem_of_getElem? (getD_at h)
theorem getD_int {l : List Int} {i : Nat} (h : i < l.length) : l[i] = l.getD i 0 := by
  rw [List.getD_eq_getElem?_getD, List.getElem?_eq_getElem h]; rfl
theorem same_val (a b : Val) : (decide (a.k = b.k) && (decide (a.n = b.n) && (a.s == b.s && true))) = decide (a = b) := by
  rw [Bool.eq_iff_iff]
  simp only [Bool.and_eq_true, decide_eq_true_eq, beq_iff_eq, and_true]
  obtain ⟨k, n, s⟩ := a
  obtain ⟨k', n', s'⟩ := b
  simp [Val.mk.injEq]

theorem val_eq {a b : Val} (h : (decide (a.k = b.k) && (decide (a.n = b.n) && (a.s == b.s && true))) = true) : a = b := by
  obtain ⟨k, n, s⟩ := a
  obtain ⟨k', n', s'⟩ := b
  simp at h
  obtain ⟨rfl, rfl, rfl⟩ := h
  rfl
theorem val_ne {a b : Val} (h : (decide (a.k = b.k) && (decide (a.n = b.n) && (a.s == b.s && true))) = false) : ¬ a = b := by
  rintro rfl
  simp at h
theorem take_snoc_eq7 {α : Type} {a b : List α} {i : Nat} (h : a.take i = b.take i) (ha : i < a.length) (hb : i < b.length) (e : a[i] = b[i]) : a.take (i + 1) = b.take (i + 1) := by
  rw [List.take_add_one, List.take_add_one, h, List.getElem?_eq_getElem ha, List.getElem?_eq_getElem hb, e]
theorem argsL_len : ∀ (ds : List Int) (l : List Bs) (e : Int), (argsL ds l e).1.length = ds.length
  | [], _, _ => rfl
  | d :: r, l, e => by
    show ((valueS d l e).1 :: _).length = _
    rw [List.length_cons, argsL_len r]; rfl
theorem outL_len : ∀ (l : List Bs) (e : Int), (outL l e).1.length ≤ l.length
  | [], _ => Nat.le_refl _
  | x :: r, e => by
    unfold outL
    split
    · have := outL_len r (parseV x).2
      simpa using this
    · exact Nat.zero_le _
theorem nextS_len (l : List Bs) (e : Int) : (nextS l e).2.1.length ≤ l.length := by
  unfold nextS
  by_cases hc : (if l = [] then faultS e 2 else e) = 0
  · rw [if_pos hc]; show (l.drop 1).length ≤ _; simp
  · rw [if_neg hc]; exact Nat.le_refl _
theorem allS_len (l : List Bs) : (allS l).1.args.length ≤ 2 ∧ (allS l).1.out.length ≤ l.length := by
  unfold allS
  dsimp only
  split
  · refine ⟨?_, Nat.zero_le _⟩
    show (invS _ _).2.2.2.1.length ≤ 2
    unfold invS; dsimp only
    rw [argsL_len]
    exact args_len _ _
  · split
    · refine ⟨Nat.zero_le _, ?_⟩
      show (outL _ _).1.length ≤ _
      refine Nat.le_trans (outL_len _ _) ?_
      show (nextS _ _).2.1.length ≤ _
      refine Nat.le_trans (nextS_len _ _) ?_
      rw [value_left]
      exact Nat.le_trans (nextS_len _ _) (nextS_len _ _)
    · exact ⟨Nat.zero_le _, Nat.zero_le _⟩
theorem parseE_len (s : Bs) : (parseE s).1.args.length ≤ 2 ∧ (parseE s).1.out.length ≤ s.length + 1 := by
  have h := allS_len (wordsS (noteS s).1).1
  have h1 := wordsS_len (noteS s).1
  have h2 := note_len s
  unfold parseE
  split
  · exact ⟨Nat.zero_le _, Nat.zero_le _⟩
  split
  · exact ⟨Nat.zero_le _, Nat.zero_le _⟩
  split
  · exact ⟨Nat.zero_le _, Nat.zero_le _⟩
  · exact ⟨h.1, by show (allS _).1.out.length ≤ _; omega⟩
theorem parse_args {s : Bs} (h : s.length ≤ 9223372036854775806) : (parseE s).1.args.length ≤ 9223372036854775807 := by have := parseE_len s; omega
theorem parse_out {s : Bs} (h : s.length ≤ 9223372036854775806) : (parseE s).1.out.length ≤ 9223372036854775807 := by have := parseE_len s; omega
theorem note_behind {s nt : Bs} (h1 : ∀ j (hj : j < s.length), ¬ s[j] = 59) (h2 : ∀ j (hj : j < nt.length), ¬ nt[j] = 10) (h3 : nt.length ≤ 100) : noteS (s ++ [32, 59] ++ nt) = (s, nt, true, 0) := by
  have e : s ++ [32, 59] ++ nt = s ++ 32 :: 59 :: nt := by simp
  rw [e]
  have hlen : (s ++ 32 :: 59 :: nt).length = s.length + 2 + nt.length := by simp; omega
  have at0 : (s ++ 32 :: 59 :: nt)[s.length + 1]'(by omega) = 59 := by
    rw [List.getElem_append_right (by omega)]; simp
  rw [note_at (i := s.length + 1) (by omega) at0]
  · have e1 : (((s.length + 1 : Nat) : Int) + 1).toNat = s.length + 2 := by omega
    have e2 : (((s.length + 1 : Nat) : Int) - 1).toNat = s.length := by omega
    have e3 : (s ++ 32 :: 59 :: nt).drop (s.length + 2) = nt := by
      rw [List.drop_append]
      simp
    have e4 : (s ++ 32 :: 59 :: nt).take s.length = s := by simp
    have e5 : bt (s ++ 32 :: 59 :: nt) (((s.length + 1 : Nat) : Int) - 1) = 32 := by
      rw [show ((s.length + 1 : Nat) : Int) - 1 = ((s.length : Nat) : Int) by omega, bt_nat (by omega), List.getElem_append_right (by omega)]
      simp
    rw [e1, e2, e3, e4, e5, if_neg]
    have e6 : Lib.indexByte nt 10 = -1 := idx_none h2
    rw [e6]
    rintro ((h | h) | h | h)
    · omega
    · exact h rfl
    · omega
    · omega
  · intro j hj
    by_cases hjs : j < s.length
    · rw [List.getElem_append_left hjs]; exact h1 j hjs
    · obtain rfl : j = s.length := by omega
      rw [List.getElem_append_right (by omega)]
      simp
theorem notes_law {s nt : Bs} (h1 : ∀ j (hj : j < s.length), ¬ s[j] = 59) (h2 : ∀ j (hj : j < nt.length), ¬ nt[j] = 10) (h3 : nt.length ≤ 100) :
    (parseE (s ++ [32, 59] ++ nt)).2 = (parseE s).2 ∧ ((parseE s).2 = 0 → ({ (parseE s).1 with noted := false, note := [] } : Evt) = { (parseE (s ++ [32, 59] ++ nt)).1 with noted := false, note := [] }) := by
  have e1 := note_behind h1 h2 h3
  have e2 : noteS s = (s, [], false, 0) := note_none (i := s.length) (Nat.le_refl _) h1
  unfold parseE
  rw [e1, e2]
  dsimp only
  simp only [not_true, if_false]
  split
  · exact ⟨rfl, fun h => rfl⟩
  · split
    · exact ⟨rfl, fun h => rfl⟩
    · exact ⟨rfl, fun h => rfl⟩
/-! `incognito/incognitoref10.invoked` -/
set_option maxRecDepth 100000 in
set_option maxHeartbeats 4000000 in
theorem c_invoked10 (l : List Bs) (A : Option Addr) (c : Nat) (w0 : World) (G : Heap) (hG : Sub G w0) (hR : Rd Knd.s G A l) (hls : ∀ x ∈ l, x.length ≤ 4294967280) (hn : 3 ≤ l.length) (hlm : l.length ≤ 4294967281):
  Calls Tryd.prog 52 #[.slice A l.length c] w0 (Ret w0 G (fun v G' => ∃ x A1 c1, v = .tuple #[.agg (evtCells x A1 c1 none 0).toArray, .int .i64 (invF (l.drop 3))] ∧ x.args.length ≤ c1 ∧ Rd kVal G' A1 x.args ∧ x.out = [] ∧ (invF (l.drop 3) = 0 → x = invE (l.drop 3)))) := by
 refine enter Tryd.func52 rfl Tryd.ntmps52 rfl ?_
 intro Q hQ a HE
 have HS := St.start0 hG
 refine wp_seq_k (fun K hK => ?_); refine wp_region_lit ?_
 refine o_allocL [(0, _), (1, _), (2, _), (3, _), (4, _), (5, _), (6, _), (7, _), (8, _), (9, _), (10, _), (11, _), (12, _), (13, _)] HE rfl HS T.z44 ⟨rfl, rfl, rfl, rfl, rfl, rfl, rfl, rfl, rfl, rfl, rfl, rfl, rfl, rfl, trivial⟩ ?_; clear HE HS; intro B2 w a HS HE
 refine o_assign HE rfl rfl ?_; clear HE; intro a HE
 refine hK _ _ ?_; clear hK K
 refine wp_seq_k (fun K hK => ?_); refine wp_region_lit ?_
 refine o_allocL [(0, _), (1, _), (2, _), (3, _), (4, _), (5, _), (6, _), (7, _), (8, _), (9, _), (10, _), (11, _), (12, _), (13, _)] HE rfl HS T.z44 ⟨rfl, rfl, rfl, rfl, rfl, rfl, rfl, rfl, rfl, rfl, rfl, rfl, rfl, rfl, trivial⟩ ?_; clear HE HS; intro B4 w a HS HE
 refine hK _ _ ?_; clear hK K
 refine wp_seq_k (fun K4 hK3 => ?_)
 refine wp_seq_k (fun K hK => ?_); refine wp_region_lit ?_
 refine o_move HE rfl rfl ?_; clear HE; intro a HE
 refine o_lenL HE rfl rfl Tryd.underlying29 ?_; clear HE; intro a HE
 refine o_lss HE rfl rfl rfl ?_; clear HE; intro a HE
 refine o_move HE rfl rfl ?_; clear HE; intro a HE
 obtain ⟨M0, hM0, HS⟩ : ∃ M0, M0 = _ ∧ St w0 G [] G _ M0 := ⟨_, rfl, HS⟩
 refine cutL 6 (fun a' w' => St w0 G [] G w' M0 ∧ Env a' 117 [] [(20, .bool ((decide ((l.length : Int) < 4)) || (decide (((modelS (l.getD 3 [])).1) = 0)))), (0, .slice A l.length c), (2, .pointer (some ⟨B2, 0, none⟩)), (3, .int .i64 0), (4, .pointer (some ⟨B4, 0, none⟩))]) ?_ ?_
 ·refine (Bool.eq_false_or_eq_true (decide ((l.length : Int) < 4))).elim (fun hb5 => ?_) (fun hb5 => ?_)
  ·subst hM0
   have hk6 := hb5; try simp only [zz1, zz2, zz3, zz4, zz5, zz7, zz8, zz9, zza, zzb] at hk6
   refine g_off HE rfl rfl rfl hb5 ?_; clear HE; intro a HE
   refine g_off HE rfl rfl rfl hb5 ?_; clear HE; intro a HE
   refine g_off HE rfl rfl rfl hb5 ?_; clear HE; intro a HE
   refine g_off HE rfl rfl rfl hb5 ?_; clear HE; intro a HE
   refine g_off HE rfl rfl rfl hb5 ?_; clear HE; intro a HE
   refine o_pick_t HE rfl rfl hb5 rfl ?_; clear HE; intro a HE
   exact ⟨HS, HE.cut ⟨by rw [hb5]; rfl, rfl, rfl, rfl, rfl, trivial⟩⟩
  ·subst hM0
   have hk7 := hb5; try simp only [zz1, zz2, zz3, zz4, zz5, zz7, zz8, zz9, zza, zzb] at hk7
   refine op_on HE rfl rfl hb5 ?_
   refine o_move HE rfl rfl ?_; clear HE; intro a HE
   refine op_on HE rfl rfl hb5 ?_
   have hi8 : (3 : Int).toNat < l.length := by omega
   obtain ⟨eb8, eo8, hA8, el8⟩ := Rd.at hR (List.getElem?_eq_getElem hi8); cases hA8
   rw [show l[(3 : Int).toNat] = (l.getD 3 []) from getD_get (i := 3) hi8 _] at el8
   have el8 := kof_open (enc := fun l => str l) el8
   refine o_ixL HE rfl rfl rfl T.l29 ⟨by omega, by omega⟩ ?_; clear HE; intro a HE
   refine op_on HE rfl rfl hb5 ?_
   refine o_ldI HE rfl HS rfl T.s9 el8 (j := 0) rfl rfl ?_; clear HE; intro a HE
   refine op_on HE rfl rfl hb5 ?_
   refine o_callP HE rfl HS rfl rfl T.g93 (c_Model9 (l.getD 3 []) _ _ HS.sub) ?_
   clear HE HS; rintro _ w a HS rfl HE
   refine op_on HE rfl rfl hb5 ?_
   refine o_eqI HE rfl rfl rfl ?_; clear HE; intro a HE
   refine o_pick_f HE rfl rfl hb5 rfl ?_; clear HE; intro a HE
   exact ⟨HS, HE.cut ⟨by rw [hb5]; rfl, rfl, rfl, rfl, rfl, trivial⟩⟩
 clear HE HS; rintro a w ⟨HS, HE⟩; subst hM0
 refine hK _ _ ?_; clear hK K
 refine cond HE rfl (fun h10 => ?_) (fun h10 => ?_)
 ·have h10r := h10; try simp only [zz1, zz2, zz3, zz4, zz5, zz6, zz7, zz8, zz9, zza, zzb] at h10
  refine wp_seq_k (fun K hK => ?_); refine wp_region_lit ?_
  refine o_ldA HE rfl HS rfl T.a44 (.here .here) rfl ?_; clear HE; intro a HE
  refine o_stA HE HS rfl rfl rfl T.a44 (.there (.here .here)) rfl ?_; clear HS; intro w HS
  refine o_assign HE rfl rfl ?_; clear HE; intro a HE
  refine hK _ _ ?_; clear hK K
  refine wp_ret ?_
  show Q .ret _ _
  refine ret hQ HE rfl (HE.resA HS rfl T.a44 (.there (.here .here)) rfl (HE.res rfl .nil)) ⟨_, _, HS.stop (List.nil_sublist _), rfl, ?_⟩
  have he : invF (l.drop 3) = 2 := by
   rcases (Decidable.em (l.length < 4)) with h9 | h9
   ·exact inv_0 (by omega)
   ·exact inv_m (getD_at (by omega)) (by rcases h10 with h | h; exfalso; omega; exact h)
  rw [he]
  exact ⟨⟨0, ⟨0, 0, []⟩, 0, 0, ⟨0, 0, []⟩, 0, [], [], false, []⟩, _, _, rfl, Nat.zero_le _, .nil, rfl, fun h => absurd h (by decide)⟩
 ·have h10r := h10; try simp only [zz1, zz2, zz3, zz4, zz5, zz6, zz7, zz8, zz9, zza, zzb] at h10
  refine wp_skip ?_
  refine hK3 _ _ ?_; clear hK3
  refine wp_seq_k (fun K hK => ?_); refine wp_region_lit ?_
  refine o_move HE rfl rfl ?_; clear HE; intro a HE
  have hi12 : (3 : Int).toNat < l.length := by omega
  obtain ⟨eb12, eo12, hA12, el12⟩ := Rd.at hR (List.getElem?_eq_getElem hi12); cases hA12
  rw [show l[(3 : Int).toNat] = (l.getD 3 []) from getD_get (i := 3) hi12 _] at el12
  have el12 := kof_open (enc := fun l => str l) el12
  refine o_ixL HE rfl rfl rfl T.l29 ⟨by omega, by omega⟩ ?_; clear HE; intro a HE
  refine o_ldI HE rfl HS rfl T.s9 el12 (j := 0) rfl rfl ?_; clear HE; intro a HE
  refine o_callP HE rfl HS rfl rfl T.g93 (c_Model9 (l.getD 3 []) _ _ HS.sub) ?_
  clear HE HS; rintro _ w a HS rfl HE
  refine o_fld HE rfl rfl T.f44_3 ?_; clear HE; intro a HE
  refine o_st HE HS rfl rfl rfl T.s3 (.here .here) rfl ?_; clear HS; intro w HS
  refine hK _ _ ?_; clear hK K
  refine wp_seq_k (fun K15 hK14 => ?_)
  refine wp_seq_k (fun K hK => ?_); refine wp_region_lit ?_
  refine o_move HE rfl rfl ?_; clear HE; intro a HE
  refine o_lenL HE rfl rfl Tryd.underlying29 ?_; clear HE; intro a HE
  refine o_lss HE rfl rfl rfl ?_; clear HE; intro a HE
  refine hK _ _ ?_; clear hK K
  refine cond HE rfl (fun h17 => ?_) (fun h17 => ?_)
  ·have h17r := h17; try simp only [zz1, zz2, zz3, zz4, zz5, zz6, zz7, zz8, zz9, zza, zzb] at h17
   refine wp_seq_k (fun K hK => ?_); refine wp_region_lit ?_
   refine o_ldA HE rfl HS rfl T.a44 (.here .here) rfl ?_; clear HE; intro a HE
   refine o_stA HE HS rfl rfl rfl T.a44 (.there (.here .here)) rfl ?_; clear HS; intro w HS
   refine o_assign HE rfl rfl ?_; clear HE; intro a HE
   refine hK _ _ ?_; clear hK K
   refine wp_ret ?_
   show Q .ret _ _
   refine ret hQ HE rfl (HE.resA HS rfl T.a44 (.there (.here .here)) rfl (HE.res rfl .nil)) ⟨_, _, HS.stop (List.nil_sublist _), rfl, ?_⟩
   have g3 := getD_at (l := l) (i := 3) (by omega)
   have hm : ¬ (modelS (l.getD 3 [])).1 = 0 := h10.2
   have he : invF (l.drop 3) = 2 := inv_1 g3 hm (by omega)
   rw [he]
   exact ⟨⟨0, ⟨0, 0, []⟩, 0, (modelS (l.getD 3 [])).1, (⟨0, 0, []⟩ : Val), 0, [], [], false, []⟩, _, _, rfl, Nat.zero_le _, .nil, rfl, fun h => absurd h (by first | decide | assumption)⟩
  ·have h17r := h17; try simp only [zz1, zz2, zz3, zz4, zz5, zz6, zz7, zz8, zz9, zza, zzb] at h17
   refine wp_skip ?_
   refine hK14 _ _ ?_; clear hK14
   refine wp_seq_k (fun K hK => ?_); refine wp_region_lit ?_
   refine o_move HE rfl rfl ?_; clear HE; intro a HE
   have hi19 : (4 : Int).toNat < l.length := by omega
   obtain ⟨eb19, eo19, hA19, el19⟩ := Rd.at hR (List.getElem?_eq_getElem hi19); cases hA19
   rw [show l[(4 : Int).toNat] = (l.getD 4 []) from getD_get (i := 4) hi19 _] at el19
   have el19 := kof_open (enc := fun l => str l) el19
   refine o_ixL HE rfl rfl rfl T.l29 ⟨by omega, by omega⟩ ?_; clear HE; intro a HE
   refine o_ldI HE rfl HS rfl T.s9 el19 (j := 0) rfl rfl ?_; clear HE; intro a HE
   have hb4 := hls _ (getD_mem (l := l) (i := 4) (by omega))
   refine o_callP HE rfl HS rfl rfl T.g51 (c_name10 (l.getD 4 []) _ _ HS.sub (by omega)) ?_
   clear HE HS; rintro _ w a HS rfl HE
   refine o_move HE rfl rfl ?_; clear HE; intro a HE
   refine o_extract HE rfl rfl rfl ?_; clear HE; intro a HE
   refine o_extract HE rfl rfl rfl ?_; clear HE; intro a HE
   refine o_allocL [(0, _), (1, _), (2, _)] HE rfl HS T.z41 ⟨rfl, rfl, rfl, trivial⟩ ?_; clear HE HS; intro B5 w a HS HE
   refine o_stA HE HS rfl rfl rfl T.a41 (.here .here) rfl ?_; clear HS; intro w HS
   refine o_assign HE rfl rfl ?_; clear HE; intro a HE
   refine hK _ _ ?_; clear hK K
   refine wp_seq_k (fun K22 hK21 => ?_)
   refine wp_seq_k (fun K hK => ?_); refine wp_region_lit ?_
   refine o_move HE rfl rfl ?_; clear HE; intro a HE
   refine o_neI HE rfl rfl rfl ?_; clear HE; intro a HE
   refine hK _ _ ?_; clear hK K
   refine cond HE rfl (fun h24 => ?_) (fun h24 => ?_)
   ·have h24r := h24; try simp only [zz1, zz2, zz3, zz4, zz5, zz6, zz7, zz8, zz9, zza, zzb] at h24
    refine wp_seq_k (fun K hK => ?_); refine wp_region_lit ?_
    refine o_ldA HE rfl HS rfl T.a44 (.there (.here .here)) rfl ?_; clear HE; intro a HE
    refine o_move HE rfl rfl ?_; clear HE; intro a HE
    refine o_stA HE HS rfl rfl rfl T.a44 (.there (.there (.here .here))) rfl ?_; clear HS; intro w HS
    refine o_assign HE rfl rfl ?_; clear HE; intro a HE
    refine hK _ _ ?_; clear hK K
    refine wp_ret ?_
    show Q .ret _ _
    refine ret hQ HE rfl (HE.resA HS rfl T.a44 (.there (.there (.here .here))) rfl (HE.res rfl .nil)) ⟨_, _, HS.stop (List.nil_sublist _), rfl, ?_⟩
    have g3 := getD_at (l := l) (i := 3) (by omega)
    have hm : ¬ (modelS (l.getD 3 [])).1 = 0 := h10.2
    have g4 := getD_at (l := l) (i := 4) (by omega)
    have he : invF (l.drop 3) = nameE (l.getD 4 []) := inv_k g3 hm g4 h24
    rw [he]
    exact ⟨⟨0, ⟨0, 0, []⟩, 0, (modelS (l.getD 3 [])).1, (⟨0, 0, []⟩ : Val), 0, [], [], false, []⟩, _, _, rfl, Nat.zero_le _, .nil, rfl, fun h9 => absurd h9 h24⟩
   ·have h24r := h24; try simp only [zz1, zz2, zz3, zz4, zz5, zz6, zz7, zz8, zz9, zza, zzb] at h24
    refine wp_skip ?_
    refine hK21 _ _ ?_; clear hK21
    refine wp_seq_k (fun K hK => ?_); refine wp_region_lit ?_
    have hvw4 : (parseV (l.getD 4 [])).1.Wf := parse_wf (by omega)
    refine o_ldA HE rfl HS rfl T.a41 (.here .here) rfl ?_; clear HE; intro a HE
    refine o_fld HE rfl rfl T.f44_4 ?_; clear HE; intro a HE
    refine o_stA HE HS rfl rfl rfl T.a41 (.there (.here .here)) rfl ?_; clear HS; intro w HS
    refine hK _ _ ?_; clear hK K
    refine wp_seq_k (fun K28 hK27 => ?_)
    refine wp_seq_k (fun K30 hK29 => ?_)
    replace HS := HS.conv (L2 := [(0, _), (1, _), (2, _)]) (.here .here) ⟨rfl, rfl, rfl, trivial⟩
    replace HS := HS.conv (L2 := [(0, _), (1, _), (2, _), (3, _), (4, _), (5, _), (6, _), (7, _), (8, _), (9, _), (10, _), (11, _), (12, _), (13, _)]) (.there (.here .here)) ⟨rfl, rfl, rfl, rfl, rfl, rfl, rfl, rfl, rfl, rfl, rfl, rfl, rfl, rfl, trivial⟩
    obtain ⟨eb31, eo31, hc31⟩ : ∃ eb eo, ((decide ((l.length : Int) < 6)) = false → ((some ⟨eb12, eo12, none⟩) : Option Addr) = some ⟨eb, eo, none⟩ ∧ ElAt Knd.s G eb (eo + (5 : Int).toNat * 1) (l.getD 5 [])) := by
     by_cases hg : (decide ((l.length : Int) < 6)) = false
     ·have hg2 := hg; simp only [decide_eq_true_eq, decide_eq_false_iff_not] at hg2; have hi : (5 : Int).toNat < l.length := by omega
      obtain ⟨eb, eo, hA, el⟩ := Rd.at hR (List.getElem?_eq_getElem hi)
      exact ⟨eb, eo, fun _ => ⟨hA, by rw [show l[(5 : Int).toNat] = (l.getD 5 []) from getD_get (i := 5) hi _] at el; exact el⟩⟩
     ·exact ⟨0, 0, fun h => absurd h hg⟩
    replace HE := HE.cut (L' := [(0, .slice (some ⟨eb12, eo12, none⟩) l.length c), (2, .pointer (some ⟨B2, 0, none⟩)), (3, .int .i64 0), (4, .pointer (some ⟨B4, 0, none⟩)), (5, .pointer (some ⟨B5, 0, none⟩)), (6, .int .i64 (nameE (l.getD 4 []))), (20, .bool ((decide ((l.length : Int) < 4)) || (decide (((modelS (l.getD 3 [])).1) = 0)))), (22, .slice (some ⟨eb12, eo12, none⟩) l.length c), (23, .pointer (some ⟨eb12, eo12 + (3 : Int).toNat * 1, none⟩)), (24, str (l.getD 3 [])), (25, .int .i64 ((modelS (l.getD 3 [])).1)), (26, .pointer (some ⟨B4, 5, none⟩)), (27, .slice (some ⟨eb12, eo12, none⟩) l.length c), (28, .int .i64 (l.length : Int)), (29, .bool (decide ((l.length : Int) < 5))), (31, .tuple #[.agg #[.int .i64 ((parseV (l.getD 4 [])).1.k), .int .i64 ((parseV (l.getD 4 [])).1.n), str ((parseV (l.getD 4 [])).1.s)], .int .i64 (nameE (l.getD 4 []))]), (32, .slice (some ⟨eb12, eo12, none⟩) l.length c), (33, .pointer (some ⟨eb12, eo12 + (4 : Int).toNat * 1, none⟩)), (34, str (l.getD 4 [])), (35, .tuple #[.agg #[.int .i64 ((parseV (l.getD 4 [])).1.k), .int .i64 ((parseV (l.getD 4 [])).1.n), str ((parseV (l.getD 4 [])).1.s)], .int .i64 (nameE (l.getD 4 []))]), (36, .agg #[.int .i64 ((parseV (l.getD 4 [])).1.k), .int .i64 ((parseV (l.getD 4 [])).1.n), str ((parseV (l.getD 4 [])).1.s)]), (37, .int .i64 (nameE (l.getD 4 []))), (38, .int .i64 (nameE (l.getD 4 []))), (39, .bool (!decide ((nameE (l.getD 4 [])) = 0))), (42, .agg #[.int .i64 ((parseV (l.getD 4 [])).1.k), .int .i64 ((parseV (l.getD 4 [])).1.n), str ((parseV (l.getD 4 [])).1.s)]), (43, .pointer (some ⟨B4, 6, none⟩))]) ⟨rfl, rfl, rfl, rfl, rfl, rfl, rfl, rfl, rfl, rfl, rfl, rfl, rfl, rfl, rfl, rfl, rfl, rfl, rfl, rfl, rfl, rfl, rfl, rfl, rfl, rfl, trivial⟩
    refine drawnW [fun v _ => v = .slice (some ⟨eb12, eo12, none⟩) l.length c, fun v _ => v = .int .i64 (l.length : Int), fun v _ => v = .bool (decide ((l.length : Int) < 6)), fun v _ => v = .bool (decide ((l.length : Int) < 6)), fun v _ => (decide ((l.length : Int) < 6)) = false → v = .pointer (some ⟨B4, 5, none⟩), fun v _ => (decide ((l.length : Int) < 6)) = false → v = .int .i64 ((modelS (l.getD 3 [])).1), fun v _ => (decide ((l.length : Int) < 6)) = false → v = .slice (some ⟨eb12, eo12, none⟩) l.length c, fun v _ => (decide ((l.length : Int) < 6)) = false → v = .pointer (some ⟨eb31, eo31 + (5 : Int).toNat * 1, none⟩), fun v _ => (decide ((l.length : Int) < 6)) = false → v = str (l.getD 5 []), fun v _ => (decide ((l.length : Int) < 6)) = false → v = .int .i64 ((opS (l.getD 5 [])).1), fun v G' => (decide ((l.length : Int) < 6)) = false → ∃ A c, v = .agg #[.slice A (doms (findS ((modelS (l.getD 3 [])).1) ((opS (l.getD 5 [])).1)).1.ins).length c, .int .i64 (findS ((modelS (l.getD 3 [])).1) ((opS (l.getD 5 [])).1)).1.out, .bool (findS ((modelS (l.getD 3 [])).1) ((opS (l.getD 5 [])).1)).1.may, .bool (findS ((modelS (l.getD 3 [])).1) ((opS (l.getD 5 [])).1)).2] ∧ (doms (findS ((modelS (l.getD 3 [])).1) ((opS (l.getD 5 [])).1)).1.ins).length ≤ c ∧ Rd (Knd.int .i64) G' A (doms (findS ((modelS (l.getD 3 [])).1) ((opS (l.getD 5 [])).1)).1.ins), fun v _ => (decide ((l.length : Int) < 6)) = false → v = .bool ((findS ((modelS (l.getD 3 [])).1) ((opS (l.getD 5 [])).1)).2), fun v _ => (decide ((l.length : Int) < 6)) = false → v = .bool (!((findS ((modelS (l.getD 3 [])).1) ((opS (l.getD 5 [])).1)).2)), fun v _ => v = .bool ((decide ((l.length : Int) < 6)) || (!((findS ((modelS (l.getD 3 [])).1) ((opS (l.getD 5 [])).1)).2)))] T.mix rfl HE HS rfl ⟨fun _ _ _ _ h => h, fun _ _ _ _ h => h, fun _ _ _ _ h => h, fun _ _ _ _ h => h, fun _ _ _ _ h => h, fun _ _ _ _ h => h, fun _ _ _ _ h => h, fun _ _ _ _ h => h, fun _ _ _ _ h => h, fun _ _ _ _ h => h, fun _ _ _ h hx hb => (let ⟨A2, c2, h1, h2, h3⟩ := (hx hb); ⟨A2, c2, h1, h2, h3.le h⟩), fun _ _ _ _ h => h, fun _ _ _ _ h => h, fun _ _ _ _ h => h, trivial⟩ ⟨?_, ?_, ?_, ?_, ?_, ?_, ?_, ?_, ?_, ?_, ?_, ?_, ?_, ?_, trivial⟩ ?_
    ·intro a w G1 hl HS HE hp
     refine o_move HE rfl rfl ?_; clear HE; intro a HE
     exact ⟨_, _, _, Heap.le.refl _, HS, rfl, HE.get _ _ rfl, HE.defers, rfl⟩
    ·intro a w G1 hl HS HE hp
     obtain ⟨_, e0, rfl⟩ := hp 0 44 _ rfl rfl rfl; replace HE := HE.add e0
     refine o_lenL HE rfl rfl Tryd.underlying29 ?_; clear HE; intro a HE
     exact ⟨_, _, _, Heap.le.refl _, HS, rfl, HE.get _ _ rfl, HE.defers, rfl⟩
    ·intro a w G1 hl HS HE hp
     obtain ⟨_, e1, rfl⟩ := hp 1 45 _ rfl rfl rfl; replace HE := HE.add e1
     refine o_lss HE rfl rfl rfl ?_; clear HE; intro a HE
     exact ⟨_, _, _, Heap.le.refl _, HS, rfl, HE.get _ _ rfl, HE.defers, rfl⟩
    ·intro a w G1 hl HS HE hp
     obtain ⟨_, e2, rfl⟩ := hp 2 46 _ rfl rfl rfl; replace HE := HE.add e2
     refine o_move HE rfl rfl ?_; clear HE; intro a HE
     exact ⟨_, _, _, Heap.le.refl _, HS, rfl, HE.get _ _ rfl, HE.defers, rfl⟩
    ·intro a w G1 hl HS HE hp
     obtain ⟨_, eg, rfl⟩ := hp 3 47 _ rfl rfl rfl; replace HE := HE.add eg
     refine (Bool.eq_false_or_eq_true (decide ((l.length : Int) < 6))).elim (fun hb => ?_) (fun hb => ?_)
     ·skip
      refine g_off HE rfl rfl rfl hb ?_; clear HE; intro a HE
      exact ⟨_, _, _, Heap.le.refl _, HS, rfl, HE.get _ _ rfl, HE.defers, fun h => absurd (hb.symm.trans h) (by decide)⟩
     ·skip
      refine op_on HE rfl rfl hb ?_
      refine o_fld HE rfl rfl T.f44_3 ?_; clear HE; intro a HE
      exact ⟨_, _, _, Heap.le.refl _, HS, rfl, HE.get _ _ rfl, HE.defers, fun _ => rfl⟩
    ·intro a w G1 hl HS HE hp
     obtain ⟨_, eg, rfl⟩ := hp 3 47 _ rfl rfl rfl; replace HE := HE.add eg
     refine (Bool.eq_false_or_eq_true (decide ((l.length : Int) < 6))).elim (fun hb => ?_) (fun hb => ?_)
     ·skip
      refine g_off HE rfl rfl rfl hb ?_; clear HE; intro a HE
      exact ⟨_, _, _, Heap.le.refl _, HS, rfl, HE.get _ _ rfl, HE.defers, fun h => absurd (hb.symm.trans h) (by decide)⟩
     ·skip
      obtain ⟨_, e4, h4v⟩ := hp 4 48 _ rfl rfl rfl; cases h4v hb; replace HE := HE.add e4
      refine op_on HE rfl rfl hb ?_
      refine o_ld HE rfl HS rfl T.s3 (.there (.here .here)) rfl ?_; clear HE; intro a HE
      exact ⟨_, _, _, Heap.le.refl _, HS, rfl, HE.get _ _ rfl, HE.defers, fun _ => rfl⟩
    ·intro a w G1 hl HS HE hp
     obtain ⟨_, eg, rfl⟩ := hp 3 47 _ rfl rfl rfl; replace HE := HE.add eg
     refine (Bool.eq_false_or_eq_true (decide ((l.length : Int) < 6))).elim (fun hb => ?_) (fun hb => ?_)
     ·skip
      refine g_off HE rfl rfl rfl hb ?_; clear HE; intro a HE
      exact ⟨_, _, _, Heap.le.refl _, HS, rfl, HE.get _ _ rfl, HE.defers, fun h => absurd (hb.symm.trans h) (by decide)⟩
     ·skip
      refine op_on HE rfl rfl hb ?_
      refine o_move HE rfl rfl ?_; clear HE; intro a HE
      exact ⟨_, _, _, Heap.le.refl _, HS, rfl, HE.get _ _ rfl, HE.defers, fun _ => rfl⟩
    ·intro a w G1 hl HS HE hp
     obtain ⟨_, eg, rfl⟩ := hp 3 47 _ rfl rfl rfl; replace HE := HE.add eg
     refine (Bool.eq_false_or_eq_true (decide ((l.length : Int) < 6))).elim (fun hb => ?_) (fun hb => ?_)
     ·skip
      refine g_off HE rfl rfl rfl hb ?_; clear HE; intro a HE
      exact ⟨_, _, _, Heap.le.refl _, HS, rfl, HE.get _ _ rfl, HE.defers, fun h => absurd (hb.symm.trans h) (by decide)⟩
     ·skip
      obtain ⟨_, e6, h6v⟩ := hp 6 50 _ rfl rfl rfl; cases h6v hb; replace HE := HE.add e6
      refine op_on HE rfl rfl hb ?_
      have hbk := hb; simp only [decide_eq_true_eq, decide_eq_false_iff_not] at hbk
      obtain ⟨hA31, el31⟩ := hc31 hb; cases hA31
      refine o_ixL HE rfl rfl rfl T.l29 ⟨by omega, by omega⟩ ?_; clear HE; intro a HE
      exact ⟨_, _, _, Heap.le.refl _, HS, rfl, HE.get _ _ rfl, HE.defers, fun _ => rfl⟩
    ·intro a w G1 hl HS HE hp
     obtain ⟨_, eg, rfl⟩ := hp 3 47 _ rfl rfl rfl; replace HE := HE.add eg
     refine (Bool.eq_false_or_eq_true (decide ((l.length : Int) < 6))).elim (fun hb => ?_) (fun hb => ?_)
     ·skip
      refine g_off HE rfl rfl rfl hb ?_; clear HE; intro a HE
      exact ⟨_, _, _, Heap.le.refl _, HS, rfl, HE.get _ _ rfl, HE.defers, fun h => absurd (hb.symm.trans h) (by decide)⟩
     ·skip
      obtain ⟨_, e7, h7v⟩ := hp 7 51 _ rfl rfl rfl; cases h7v hb; replace HE := HE.add e7
      refine op_on HE rfl rfl hb ?_
      obtain ⟨_, el31⟩ := hc31 hb
      have el31 := kof_open (enc := fun l => str l) el31
      refine o_ldI HE rfl HS rfl T.s9 (el31.le hl) (j := 0) rfl rfl ?_; clear HE; intro a HE
      exact ⟨_, _, _, Heap.le.refl _, HS, rfl, HE.get _ _ rfl, HE.defers, fun _ => rfl⟩
    ·intro a w G1 hl HS HE hp
     obtain ⟨_, eg, rfl⟩ := hp 3 47 _ rfl rfl rfl; replace HE := HE.add eg
     refine (Bool.eq_false_or_eq_true (decide ((l.length : Int) < 6))).elim (fun hb => ?_) (fun hb => ?_)
     ·skip
      refine g_off HE rfl rfl rfl hb ?_; clear HE; intro a HE
      exact ⟨_, _, _, Heap.le.refl _, HS, rfl, HE.get _ _ rfl, HE.defers, fun h => absurd (hb.symm.trans h) (by decide)⟩
     ·skip
      obtain ⟨_, e8, h8v⟩ := hp 8 52 _ rfl rfl rfl; cases h8v hb; replace HE := HE.add e8
      refine op_on HE rfl rfl hb ?_
      refine o_callP HE rfl HS rfl rfl T.g95 (c_Op9 (l.getD 5 []) _ _ HS.sub) ?_
      clear HE HS; rintro _ w a HS rfl HE
      exact ⟨_, _, _, Heap.le.refl _, HS, rfl, HE.get _ _ rfl, HE.defers, fun _ => rfl⟩
    ·intro a w G1 hl HS HE hp
     obtain ⟨_, eg, rfl⟩ := hp 3 47 _ rfl rfl rfl; replace HE := HE.add eg
     refine (Bool.eq_false_or_eq_true (decide ((l.length : Int) < 6))).elim (fun hb => ?_) (fun hb => ?_)
     ·skip
      refine g_off HE rfl rfl rfl hb ?_; clear HE; intro a HE
      exact ⟨_, _, _, Heap.le.refl _, HS, rfl, HE.get _ _ rfl, HE.defers, fun h => absurd (hb.symm.trans h) (by decide)⟩
     ·skip
      obtain ⟨_, e5, h5v⟩ := hp 5 49 _ rfl rfl rfl; cases h5v hb; replace HE := HE.add e5
      obtain ⟨_, e9, h9v⟩ := hp 9 53 _ rfl rfl rfl; cases h9v hb; replace HE := HE.add e9
      refine op_on HE rfl rfl hb ?_
      refine o_call HE rfl HS rfl rfl T.g94 (c_Find9 ((modelS (l.getD 3 [])).1) ((opS (l.getD 5 [])).1) _ _ HS.sub) ?_; clear HE HS; rintro _ G2 w a HS hle2 ⟨A2, c2, rfl, hc2, hR2⟩ HE
      exact ⟨_, G2, _, hle2, HS, rfl, HE.get _ _ rfl, HE.defers, fun _ => ⟨_, _, rfl, hc2, hR2⟩⟩
    ·intro a w G1 hl HS HE hp
     obtain ⟨_, eg, rfl⟩ := hp 3 47 _ rfl rfl rfl; replace HE := HE.add eg
     refine (Bool.eq_false_or_eq_true (decide ((l.length : Int) < 6))).elim (fun hb => ?_) (fun hb => ?_)
     ·skip
      refine g_off HE rfl rfl rfl hb ?_; clear HE; intro a HE
      exact ⟨_, _, _, Heap.le.refl _, HS, rfl, HE.get _ _ rfl, HE.defers, fun h => absurd (hb.symm.trans h) (by decide)⟩
     ·skip
      obtain ⟨_, e10, h10v⟩ := hp 10 54 _ rfl rfl rfl; obtain ⟨vA10, vc10, rfl, hcp10, hQ10⟩ := h10v hb; replace HE := HE.add e10
      refine op_on HE rfl rfl hb ?_
      refine o_field (n := 1) HE rfl rfl T.F142_3 rfl (.inl ⟨T.s4, rfl⟩) ?_; clear HE; intro a HE
      exact ⟨_, _, _, Heap.le.refl _, HS, rfl, HE.get _ _ rfl, HE.defers, fun _ => rfl⟩
    ·intro a w G1 hl HS HE hp
     obtain ⟨_, eg, rfl⟩ := hp 3 47 _ rfl rfl rfl; replace HE := HE.add eg
     refine (Bool.eq_false_or_eq_true (decide ((l.length : Int) < 6))).elim (fun hb => ?_) (fun hb => ?_)
     ·skip
      refine g_off HE rfl rfl rfl hb ?_; clear HE; intro a HE
      exact ⟨_, _, _, Heap.le.refl _, HS, rfl, HE.get _ _ rfl, HE.defers, fun h => absurd (hb.symm.trans h) (by decide)⟩
     ·skip
      obtain ⟨_, e11, h11v⟩ := hp 11 55 _ rfl rfl rfl; cases h11v hb; replace HE := HE.add e11
      refine op_on HE rfl rfl hb ?_
      refine o_not HE rfl rfl ?_; clear HE; intro a HE
      exact ⟨_, _, _, Heap.le.refl _, HS, rfl, HE.get _ _ rfl, HE.defers, fun _ => rfl⟩
    ·intro a w G1 hl HS HE hp
     obtain ⟨_, e3, rfl⟩ := hp 3 47 _ rfl rfl rfl; replace HE := HE.add e3
     refine (Bool.eq_false_or_eq_true (decide ((l.length : Int) < 6))).elim (fun hb => ?_) (fun hb => ?_)
     ·skip
      refine o_pick_t HE rfl rfl hb rfl ?_; clear HE; intro a HE
      exact ⟨_, _, _, Heap.le.refl _, HS, rfl, HE.get _ _ rfl, HE.defers, by rw [hb]; rfl⟩
     ·skip
      obtain ⟨_, e12, h12v⟩ := hp 12 56 _ rfl rfl rfl; cases h12v hb; replace HE := HE.add e12
      refine o_pick_f HE rfl rfl hb rfl ?_; clear HE; intro a HE
      exact ⟨_, _, _, Heap.le.refl _, HS, rfl, HE.get _ _ rfl, HE.defers, by rw [hb]; rfl⟩
    clear HE HS; intro a w G32 hle33 HS HE hp
    replace hR := hR.le hle33
    obtain ⟨_, e13, rfl⟩ := hp 13 57 _ rfl rfl; replace HE := HE.add e13
    clear hp
    refine hK29 _ _ ?_; clear hK29
    refine cond HE rfl (fun h34 => ?_) (fun h34 => ?_)
    ·have h34r := h34; try simp only [zz1, zz2, zz3, zz4, zz5, zz6, zz7, zz8, zz9, zza, zzb] at h34
     refine wp_seq_k (fun K hK => ?_); refine wp_region_lit ?_
     refine o_ldA HE rfl HS rfl T.a44 (.there (.here .here)) rfl ?_; clear HE; intro a HE
     refine o_stA HE HS rfl rfl rfl T.a44 (.there (.there (.here .here))) rfl ?_; clear HS; intro w HS
     refine o_assign HE rfl rfl ?_; clear HE; intro a HE
     refine hK _ _ ?_; clear hK K
     refine wp_ret ?_
     show Q .ret _ _
     refine ret hQ HE rfl (HE.resA HS rfl T.a44 (.there (.there (.here .here))) rfl (HE.res rfl .nil)) ⟨_, _, HS.stop (List.nil_sublist _), rfl, ?_⟩
     have g3 := getD_at (l := l) (i := 3) (by omega)
     have hm : ¬ (modelS (l.getD 3 [])).1 = 0 := h10.2
     have g4 := getD_at (l := l) (i := 4) (by omega)
     have hk : nameE (l.getD 4 []) = 0 := by simpa using h24
     have he : invF (l.drop 3) = 2 := by
      rcases (Decidable.em (l.length < 6)) with h9 | h9
      ·exact inv_2 g3 hm g4 hk (by omega)
      ·exact inv_o g3 hm g4 hk (getD_at (by omega)) (by rcases h34 with h | h; exfalso; omega; exact h)
     rw [he]
     exact ⟨⟨0, ⟨0, 0, []⟩, 0, (modelS (l.getD 3 [])).1, ((parseV (l.getD 4 [])).1), 0, [], [], false, []⟩, _, _, rfl, Nat.zero_le _, .nil, rfl, fun h => absurd h (by first | decide | assumption)⟩
    ·have h34r := h34; try simp only [zz1, zz2, zz3, zz4, zz5, zz6, zz7, zz8, zz9, zza, zzb] at h34
     refine wp_skip ?_
     refine hK27 _ _ ?_; clear hK27
     refine wp_seq_k (fun K hK => ?_); refine wp_region_lit ?_
     refine o_move HE rfl rfl ?_; clear HE; intro a HE
     have hi36 : (5 : Int).toNat < l.length := by omega
     obtain ⟨eb36, eo36, hA36, el36⟩ := Rd.at hR (List.getElem?_eq_getElem hi36); cases hA36
     rw [show l[(5 : Int).toNat] = (l.getD 5 []) from getD_get (i := 5) hi36 _] at el36
     have el36 := kof_open (enc := fun l => str l) el36
     refine o_ixL HE rfl rfl rfl T.l29 ⟨by omega, by omega⟩ ?_; clear HE; intro a HE
     refine o_ldI HE rfl HS rfl T.s9 el36 (j := 0) rfl rfl ?_; clear HE; intro a HE
     refine o_callP HE rfl HS rfl rfl T.g95 (c_Op9 (l.getD 5 []) _ _ HS.sub) ?_
     clear HE HS; rintro _ w a HS rfl HE
     refine o_fld HE rfl rfl T.f44_5 ?_; clear HE; intro a HE
     refine o_st HE HS rfl rfl rfl T.s3 (.there (.here .here)) rfl ?_; clear HS; intro w HS
     refine hK _ _ ?_; clear hK K
     refine wp_seq_k (fun K hK => ?_); refine wp_region_lit ?_
     refine o_fld HE rfl rfl T.f44_3 ?_; clear HE; intro a HE
     refine o_ld HE rfl HS rfl T.s3 (.there (.here .here)) rfl ?_; clear HE; intro a HE
     refine o_fld HE rfl rfl T.f44_5 ?_; clear HE; intro a HE
     refine o_ld HE rfl HS rfl T.s3 (.there (.here .here)) rfl ?_; clear HE; intro a HE
     refine o_call HE rfl HS rfl rfl T.g94 (c_Find9 ((modelS (l.getD 3 [])).1) ((opS (l.getD 5 [])).1) _ _ HS.sub) ?_
     clear HE HS; rintro _ G38 w a HS hle38 ⟨vA38, vc38, rfl, hcp38, hR38⟩ HE
     replace hR := hR.le hle38
     refine o_field (n := 1) HE rfl rfl T.F142_0 rfl (.inl ⟨T.s114, rfl⟩) ?_; clear HE; intro a HE
     refine o_assign HE rfl rfl ?_; clear HE; intro a HE
     refine hK _ _ ?_; clear hK K
     refine wp_seq_k (fun K41 hK40 => ?_)
     refine wp_seq_k (fun K hK => ?_); refine wp_region_lit ?_
     refine o_assign HE rfl rfl ?_; clear HE; intro a HE
     refine hK _ _ ?_; clear hK K
     refine wp_block ?_
     replace HS := HS.drop (M' := [_, _]) (sub_drop (sub_keep (sub_keep sub_nil)))
     replace HS := HS.conv (L2 := [(0, _), (1, _), (2, _), (3, _), (4, _), (5, _), (6, _), (7, _), (8, _), (9, _), (10, _), (11, _), (12, _), (13, _)]) (.here .here) ⟨rfl, rfl, rfl, rfl, rfl, rfl, rfl, rfl, rfl, rfl, rfl, rfl, rfl, rfl, trivial⟩
     replace HS := HS.nilChunk
     have oH44 : X.Own kVal 41 G38 none 0 ([] : List Val) [] := X.Own.nil
     have hdl : (doms (findS (modelS (l.getD 3 [])).1 (opS (l.getD 5 [])).1).1.ins).length ≤ 2 := by unfold doms; rw [List.length_map]; exact find_len _ _
     refine loop (fun (y : Nat × List Val) a' w' => ∃ (oAB410_1 : Option Addr) (ocB410_1 : Nat) (oCB410_1 : Chunk), ∃ GL45, Heap.le G38 GL45 ∧ St w0 G [] GL45 w' [oCB410_1, [(B4, Cells 44 [(0, .int .i64 0), (1, .int .i64 0), (2, .int .i64 0), (3, str []), (4, .int .i64 0), (5, .int .i64 ((modelS (l.getD 3 [])).1)), (6, .int .i64 ((parseV (l.getD 4 [])).1.k)), (7, .int .i64 ((parseV (l.getD 4 [])).1.n)), (8, str ((parseV (l.getD 4 [])).1.s)), (9, .int .i64 ((opS (l.getD 5 [])).1)), (10, .slice oAB410_1 ((y.2).length) ocB410_1), (11, .slice none 0 0), (12, .bool false), (13, str [])])], [(B2, Cells 44 [(0, .int .i64 0), (1, .int .i64 0), (2, .int .i64 0), (3, str []), (4, .int .i64 0), (5, .int .i64 0), (6, .int .i64 0), (7, .int .i64 0), (8, str []), (9, .int .i64 0), (10, .slice none 0 0), (11, .slice none 0 0), (12, .bool false), (13, str [])])]] ∧ Env a' 117 [] [(0, .slice (some ⟨eb12, eo12, none⟩) l.length c), (2, .pointer (some ⟨B2, 0, none⟩)), (4, .pointer (some ⟨B4, 0, none⟩)), (7, .slice vA38 ((doms (findS ((modelS (l.getD 3 [])).1) ((opS (l.getD 5 [])).1)).1.ins).length) vc38), (8, .int .i64 ((y.1 : Nat) : Int))] ∧ X.Own kVal 41 GL45 oAB410_1 ocB410_1 (y.2) oCB410_1 ∧ (y.1 ≤ (doms (findS (modelS (l.getD 3 [])).1 (opS (l.getD 5 [])).1).1.ins).length ∧ y.2.length ≤ y.1 ∧ argsL (doms (findS (modelS (l.getD 3 [])).1 (opS (l.getD 5 [])).1).1.ins) (l.drop 6) 0 = (y.2 ++ (argsL ((doms (findS (modelS (l.getD 3 [])).1 (opS (l.getD 5 [])).1).1.ins).drop y.1) (l.drop (6 + y.1)) 0).1, (argsL ((doms (findS (modelS (l.getD 3 [])).1 (opS (l.getD 5 [])).1).1.ins).drop y.1) (l.drop (6 + y.1)) 0).2))) (fun (y : Nat × List Val) => (doms (findS (modelS (l.getD 3 [])).1 (opS (l.getD 5 [])).1).1.ins).length - y.1) (0, []) ⟨_, _, _, _, Heap.le.refl _, HS, HE.cut ⟨rfl, rfl, rfl, rfl, rfl, trivial⟩, X.Own.nil (K := kVal), ⟨Nat.zero_le _, Nat.le_refl _, rfl⟩⟩ ?_
     clear HE HS; intro y a w ⟨oAB410_1, ocB410_1, oCB410_1, GL45, hle46, HS, HE, oHB410_1, ⟨hy1, hy2, hy3⟩⟩
     replace hR := hR.le hle46
     replace hR38 := hR38.le hle46
     refine wp_seq_k (fun K48 hK47 => ?_)
     refine wp_seq_k (fun K hK => ?_); refine wp_region_lit ?_
     refine o_move HE rfl rfl ?_; clear HE; intro a HE
     refine o_move HE rfl rfl ?_; clear HE; intro a HE
     refine o_lenL HE rfl rfl Tryd.underlying114 ?_; clear HE; intro a HE
     refine o_lss HE rfl rfl rfl ?_; clear HE; intro a HE
     refine hK _ _ ?_; clear hK K
     refine cond HE rfl (fun h50 => ?_) (fun h50 => ?_)
     ·have h50r := h50; try simp only [zz1, zz2, zz3, zz4, zz5, zz6, zz7, zz8, zz9, zza, zzb] at h50
      refine wp_skip ?_
      refine hK47 _ _ ?_; clear hK47
      refine wp_seq_k (fun K52 hK51 => ?_)
      refine wp_block ?_
      refine wp_seq_k (fun K54 hK53 => ?_)
      refine wp_seq_k (fun K hK => ?_); refine wp_region_lit ?_
      refine o_move HE rfl rfl ?_; clear HE; intro a HE
      refine o_lenL HE rfl rfl Tryd.underlying29 ?_; clear HE; intro a HE
      refine o_move HE rfl rfl ?_; clear HE; intro a HE
      refine o_add HE rfl rfl rfl (by omega) ?_; clear HE; intro a HE
      refine o_leq HE rfl rfl rfl ?_; clear HE; intro a HE
      refine hK _ _ ?_; clear hK K
      refine cond HE rfl (fun h56 => ?_) (fun h56 => ?_)
      ·have h56r := h56; try simp only [zz1, zz2, zz3, zz4, zz5, zz6, zz7, zz8, zz9, zza, zzb] at h56
       refine wp_seq_k (fun K hK => ?_); refine wp_region_lit ?_
       refine o_ldA HE rfl HS rfl T.a44 (.there (.here .here)) rfl ?_; clear HE; intro a HE
       refine o_stA HE HS rfl rfl rfl T.a44 (.there (.there (.here .here))) rfl ?_; clear HS; intro w HS
       refine o_assign HE rfl rfl ?_; clear HE; intro a HE
       refine hK _ _ ?_; clear hK K
       refine wp_ret ?_
       have hcphR59 := oHB410_1.cap
       obtain ⟨G58, hle60, HS', hR59⟩ := X.Own.still HS .here oHB410_1; clear HS; have HS := HS'; clear HS'
       replace hR := hR.le hle60
       replace hR38 := hR38.le hle60
       replace oHB410_1 := oHB410_1.le hle60
       show Q .ret _ _
       refine ret hQ HE rfl (HE.resA HS rfl T.a44 (.there (.here .here)) rfl (HE.res rfl .nil)) ⟨_, _, HS.stop (List.nil_sublist _), rfl, ?_⟩
       have g3 := getD_at (l := l) (i := 3) (by omega)
       have hm : ¬ (modelS (l.getD 3 [])).1 = 0 := h10.2
       have g4 := getD_at (l := l) (i := 4) (by omega)
       have hk : nameE (l.getD 4 []) = 0 := by simpa using h24
       have g5 := getD_at (l := l) (i := 5) (by omega)
       have ho : (findS (modelS (l.getD 3 [])).1 (opS (l.getD 5 [])).1).2 = true := by simpa using h34.2
       have he : invF (l.drop 3) = 2 := inv_e1 g3 hm g4 hk g5 ho rfl hy3 (by omega) (by omega)
       rw [he]
       exact ⟨⟨0, ⟨0, 0, []⟩, 0, (modelS (l.getD 3 [])).1, ((parseV (l.getD 4 [])).1), (opS (l.getD 5 [])).1, y.2, [], false, []⟩, _, _, rfl, hcphR59, hR59, rfl, fun h => absurd h (by first | decide | assumption)⟩
      ·have h56r := h56; try simp only [zz1, zz2, zz3, zz4, zz5, zz6, zz7, zz8, zz9, zza, zzb] at h56
       refine wp_skip ?_
       refine hK53 _ _ ?_; clear hK53
       refine wp_seq_k (fun K hK => ?_); refine wp_region_lit ?_
       refine o_move HE rfl rfl ?_; clear HE; intro a HE
       refine o_move HE rfl rfl ?_; clear HE; intro a HE
       refine o_add HE rfl rfl rfl (by omega) ?_; clear HE; intro a HE
       have hi61 : (6 + ((y.1 : Nat) : Int)).toNat < l.length := by omega
       obtain ⟨eb61, eo61, hA61, el61⟩ := Rd.at hR (List.getElem?_eq_getElem hi61); cases hA61
       rw [show l[(6 + ((y.1 : Nat) : Int)).toNat] = (l.getD (6 + ((y.1 : Nat) : Int)).toNat []) from getD_get (i := (6 + ((y.1 : Nat) : Int)).toNat) hi61 _] at el61
       have el61 := kof_open (enc := fun l => str l) el61
       refine o_ixL HE rfl rfl rfl T.l29 ⟨by omega, by omega⟩ ?_; clear HE; intro a HE
       refine o_ldI HE rfl HS rfl T.s9 el61 (j := 0) rfl rfl ?_; clear HE; intro a HE
       have hb6 := hls _ (getD_mem (l := l) (i := (6 + ((y.1 : Nat) : Int)).toNat) (by omega))
       refine o_callP HE rfl HS rfl rfl T.g53 (c_ParseV (l.getD (6 + ((y.1 : Nat) : Int)).toNat []) _ _ HS.sub (by first | omega | (simp; done) | (simp; omega))) ?_
       clear HE HS; rintro _ w a HS rfl HE
       refine o_move HE rfl rfl ?_; clear HE; intro a HE
       refine o_extract HE rfl rfl rfl ?_; clear HE; intro a HE
       refine o_extract HE rfl rfl rfl ?_; clear HE; intro a HE
       refine o_allocL [(0, _), (1, _), (2, _)] HE rfl HS T.z41 ⟨rfl, rfl, rfl, trivial⟩ ?_; clear HE HS; intro B9 w a HS HE
       refine o_stA HE HS rfl rfl rfl T.a41 (.here .here) rfl ?_; clear HS; intro w HS
       refine o_assign HE rfl rfl ?_; clear HE; intro a HE
       refine hK _ _ ?_; clear hK K
       refine wp_seq_k (fun K64 hK63 => ?_)
       refine wp_seq_k (fun K hK => ?_); refine wp_region_lit ?_
       refine o_move HE rfl rfl ?_; clear HE; intro a HE
       refine o_neI HE rfl rfl rfl ?_; clear HE; intro a HE
       refine hK _ _ ?_; clear hK K
       refine cond HE rfl (fun h66 => ?_) (fun h66 => ?_)
       ·have h66r := h66; try simp only [zz1, zz2, zz3, zz4, zz5, zz6, zz7, zz8, zz9, zza, zzb] at h66
        refine wp_seq_k (fun K hK => ?_); refine wp_region_lit ?_
        refine o_ldA HE rfl HS rfl T.a44 (.there (.there (.here .here))) rfl ?_; clear HE; intro a HE
        refine o_move HE rfl rfl ?_; clear HE; intro a HE
        refine o_stA HE HS rfl rfl rfl T.a44 (.there (.there (.there (.here .here)))) rfl ?_; clear HS; intro w HS
        refine o_assign HE rfl rfl ?_; clear HE; intro a HE
        refine hK _ _ ?_; clear hK K
        refine wp_ret ?_
        have hcphR69 := oHB410_1.cap
        obtain ⟨G68, hle70, HS', hR69⟩ := X.Own.still HS (.there .here) oHB410_1; clear HS; have HS := HS'; clear HS'
        replace hR := hR.le hle70
        replace hR38 := hR38.le hle70
        replace oHB410_1 := oHB410_1.le hle70
        show Q .ret _ _
        refine ret hQ HE rfl (HE.resA HS rfl T.a44 (.there (.there (.here .here))) rfl (HE.res rfl .nil)) ⟨_, _, HS.stop (List.nil_sublist _), rfl, ?_⟩
        have g3 := getD_at (l := l) (i := 3) (by omega)
        have hm : ¬ (modelS (l.getD 3 [])).1 = 0 := h10.2
        have g4 := getD_at (l := l) (i := 4) (by omega)
        have hk : nameE (l.getD 4 []) = 0 := by simpa using h24
        have g5 := getD_at (l := l) (i := 5) (by omega)
        have ho : (findS (modelS (l.getD 3 [])).1 (opS (l.getD 5 [])).1).2 = true := by simpa using h34.2
        have g6 : l[6 + y.1]? = some (l.getD (6 + ((y.1 : Nat) : Int)).toNat []) := by rw [show (6 + ((y.1 : Nat) : Int)).toNat = 6 + y.1 by omega]; exact getD_at (by omega)
        have he : invF (l.drop 3) = (parseV (l.getD (6 + ((y.1 : Nat) : Int)).toNat [])).2 := inv_e2 g3 hm g4 hk g5 ho rfl hy3 (by omega) g6 h66
        rw [he]
        exact ⟨⟨0, ⟨0, 0, []⟩, 0, (modelS (l.getD 3 [])).1, ((parseV (l.getD 4 [])).1), (opS (l.getD 5 [])).1, y.2, [], false, []⟩, _, _, rfl, hcphR69, hR69, rfl, fun h9 => absurd h9 h66⟩
       ·have h66r := h66; try simp only [zz1, zz2, zz3, zz4, zz5, zz6, zz7, zz8, zz9, zza, zzb] at h66
        refine wp_skip ?_
        refine hK63 _ _ ?_; clear hK63
        refine wp_seq_k (fun K72 hK71 => ?_)
        refine wp_seq_k (fun K74 hK73 => ?_)
        replace HS := HS.conv (L2 := [(0, _), (1, _), (2, _)]) (.here .here) ⟨rfl, rfl, rfl, trivial⟩
        have hi75 : ((y.1 : Nat) : Int).toNat < (doms (findS ((modelS (l.getD 3 [])).1) ((opS (l.getD 5 [])).1)).1.ins).length := by omega
        obtain ⟨eb75, eo75, hA75, el75⟩ := Rd.at hR38 (List.getElem?_eq_getElem hi75); cases hA75
        rw [show (doms (findS ((modelS (l.getD 3 [])).1) ((opS (l.getD 5 [])).1)).1.ins)[((y.1 : Nat) : Int).toNat] = ((doms (findS ((modelS (l.getD 3 [])).1) ((opS (l.getD 5 [])).1)).1.ins).getD y.1 0) from getD_get (i := y.1) hi75 _] at el75
        have el75 := kof_open el75
        have hvw6 : (parseV (l.getD (6 + ((y.1 : Nat) : Int)).toNat [])).1.Wf := parse_wf (by omega)
        replace HE := HE.cut (L' := [(0, .slice (some ⟨eb12, eo12, none⟩) l.length c), (2, .pointer (some ⟨B2, 0, none⟩)), (4, .pointer (some ⟨B4, 0, none⟩)), (7, .slice (some ⟨eb75, eo75, none⟩) ((doms (findS ((modelS (l.getD 3 [])).1) ((opS (l.getD 5 [])).1)).1.ins).length) vc38), (8, .int .i64 ((y.1 : Nat) : Int)), (9, .pointer (some ⟨B9, 0, none⟩)), (10, .int .i64 ((parseV (l.getD (6 + ((y.1 : Nat) : Int)).toNat [])).2)), (70, .int .i64 ((y.1 : Nat) : Int)), (71, .slice (some ⟨eb75, eo75, none⟩) ((doms (findS ((modelS (l.getD 3 [])).1) ((opS (l.getD 5 [])).1)).1.ins).length) vc38), (72, .int .i64 ((doms (findS ((modelS (l.getD 3 [])).1) ((opS (l.getD 5 [])).1)).1.ins).length : Int)), (73, .bool (decide (((y.1 : Nat) : Int) < ((doms (findS ((modelS (l.getD 3 [])).1) ((opS (l.getD 5 [])).1)).1.ins).length : Int)))), (76, .slice (some ⟨eb12, eo12, none⟩) l.length c), (77, .int .i64 (l.length : Int)), (78, .int .i64 ((y.1 : Nat) : Int)), (79, .int .i64 (6 + ((y.1 : Nat) : Int))), (80, .bool (decide ((l.length : Int) ≤ (6 + ((y.1 : Nat) : Int))))), (82, .tuple #[.agg #[.int .i64 ((parseV (l.getD (6 + ((y.1 : Nat) : Int)).toNat [])).1.k), .int .i64 ((parseV (l.getD (6 + ((y.1 : Nat) : Int)).toNat [])).1.n), str ((parseV (l.getD (6 + ((y.1 : Nat) : Int)).toNat [])).1.s)], .int .i64 ((parseV (l.getD (6 + ((y.1 : Nat) : Int)).toNat [])).2)]), (83, .slice (some ⟨eb12, eo12, none⟩) l.length c), (84, .int .i64 ((y.1 : Nat) : Int)), (85, .int .i64 (6 + ((y.1 : Nat) : Int))), (86, .pointer (some ⟨eb12, eo12 + (6 + ((y.1 : Nat) : Int)).toNat * 1, none⟩)), (87, str (l.getD (6 + ((y.1 : Nat) : Int)).toNat [])), (88, .tuple #[.agg #[.int .i64 ((parseV (l.getD (6 + ((y.1 : Nat) : Int)).toNat [])).1.k), .int .i64 ((parseV (l.getD (6 + ((y.1 : Nat) : Int)).toNat [])).1.n), str ((parseV (l.getD (6 + ((y.1 : Nat) : Int)).toNat [])).1.s)], .int .i64 ((parseV (l.getD (6 + ((y.1 : Nat) : Int)).toNat [])).2)]), (89, .agg #[.int .i64 ((parseV (l.getD (6 + ((y.1 : Nat) : Int)).toNat [])).1.k), .int .i64 ((parseV (l.getD (6 + ((y.1 : Nat) : Int)).toNat [])).1.n), str ((parseV (l.getD (6 + ((y.1 : Nat) : Int)).toNat [])).1.s)]), (90, .int .i64 ((parseV (l.getD (6 + ((y.1 : Nat) : Int)).toNat [])).2)), (91, .int .i64 ((parseV (l.getD (6 + ((y.1 : Nat) : Int)).toNat [])).2)), (92, .bool (!decide (((parseV (l.getD (6 + ((y.1 : Nat) : Int)).toNat [])).2) = 0)))]) ⟨rfl, rfl, rfl, rfl, rfl, rfl, rfl, rfl, rfl, rfl, rfl, rfl, rfl, rfl, rfl, rfl, rfl, rfl, rfl, rfl, rfl, rfl, rfl, rfl, rfl, rfl, rfl, trivial⟩
        refine drawnP [fun v => v = .slice (some ⟨eb75, eo75, none⟩) ((doms (findS ((modelS (l.getD 3 [])).1) ((opS (l.getD 5 [])).1)).1.ins).length) vc38, fun v => v = .int .i64 ((y.1 : Nat) : Int), fun v => v = .pointer (some ⟨eb75, eo75 + ((y.1 : Nat) : Int).toNat * 1, none⟩), fun v => v = .int .i64 ((doms (findS ((modelS (l.getD 3 [])).1) ((opS (l.getD 5 [])).1)).1.ins).getD y.1 0), fun v => v = .agg #[.int .i64 ((parseV (l.getD (6 + ((y.1 : Nat) : Int)).toNat [])).1.k), .int .i64 ((parseV (l.getD (6 + ((y.1 : Nat) : Int)).toNat [])).1.n), str ((parseV (l.getD (6 + ((y.1 : Nat) : Int)).toNat [])).1.s)], fun v => v = .bool (takesB ((doms (findS ((modelS (l.getD 3 [])).1) ((opS (l.getD 5 [])).1)).1.ins).getD y.1 0) ((parseV (l.getD (6 + ((y.1 : Nat) : Int)).toNat [])).1)), fun v => v = .bool (!(takesB ((doms (findS ((modelS (l.getD 3 [])).1) ((opS (l.getD 5 [])).1)).1.ins).getD y.1 0) ((parseV (l.getD (6 + ((y.1 : Nat) : Int)).toNat [])).1)))] T.mix rfl HE HS rfl ⟨?_, ?_, ?_, ?_, ?_, ?_, ?_, trivial⟩ ?_
        ·intro a w G1 hl HS HE hp
         refine o_move HE rfl rfl ?_; clear HE; intro a HE
         exact ⟨_, _, HS, rfl, HE.get _ _ rfl, HE.defers, rfl⟩
        ·intro a w G1 hl HS HE hp
         refine o_move HE rfl rfl ?_; clear HE; intro a HE
         exact ⟨_, _, HS, rfl, HE.get _ _ rfl, HE.defers, rfl⟩
        ·intro a w G1 hl HS HE hp
         obtain ⟨_, e0, rfl⟩ := hp 0 95 _ rfl rfl rfl; replace HE := HE.add e0
         obtain ⟨_, e1, rfl⟩ := hp 1 96 _ rfl rfl rfl; replace HE := HE.add e1
         refine o_ixL HE rfl rfl rfl T.l114 ⟨by omega, by omega⟩ ?_; clear HE; intro a HE
         exact ⟨_, _, HS, rfl, HE.get _ _ rfl, HE.defers, rfl⟩
        ·intro a w G1 hl HS HE hp
         obtain ⟨_, e2, rfl⟩ := hp 2 97 _ rfl rfl rfl; replace HE := HE.add e2
         refine o_ldI HE rfl HS rfl T.s3 (el75.le hl) (j := 0) rfl rfl ?_; clear HE; intro a HE
         exact ⟨_, _, HS, rfl, HE.get _ _ rfl, HE.defers, rfl⟩
        ·intro a w G1 hl HS HE hp
         refine o_ldA HE rfl HS rfl T.a41 (.here .here) rfl ?_; clear HE; intro a HE
         exact ⟨_, _, HS, rfl, HE.get _ _ rfl, HE.defers, rfl⟩
        ·intro a w G1 hl HS HE hp
         obtain ⟨_, e3, rfl⟩ := hp 3 98 _ rfl rfl rfl; replace HE := HE.add e3
         obtain ⟨_, e4, rfl⟩ := hp 4 99 _ rfl rfl rfl; replace HE := HE.add e4
         refine o_callP HE rfl HS rfl rfl T.g96 (c_Takes9 ((doms (findS ((modelS (l.getD 3 [])).1) ((opS (l.getD 5 [])).1)).1.ins).getD y.1 0) ((parseV (l.getD (6 + ((y.1 : Nat) : Int)).toNat [])).1) _ _ HS.sub (by first | assumption | exact parse_wf (by omega) | (constructor <;> first | assumption | (simp only [I64]; omega) | (simp; omega)))) ?_
         clear HE HS; rintro _ w a HS rfl HE
         exact ⟨_, _, HS, rfl, HE.get _ _ rfl, HE.defers, rfl⟩
        ·intro a w G1 hl HS HE hp
         obtain ⟨_, e5, rfl⟩ := hp 5 100 _ rfl rfl rfl; replace HE := HE.add e5
         refine o_not HE rfl rfl ?_; clear HE; intro a HE
         exact ⟨_, _, HS, rfl, HE.get _ _ rfl, HE.defers, rfl⟩
        clear HE HS; intro a w HS HE hp
        obtain ⟨_, e6, rfl⟩ := hp 6 101 _ rfl rfl; replace HE := HE.add e6
        clear hp
        refine hK73 _ _ ?_; clear hK73
        refine cond HE rfl (fun h76 => ?_) (fun h76 => ?_)
        ·have h76r := h76; try simp only [zz1, zz2, zz3, zz4, zz5, zz6, zz7, zz8, zz9, zza, zzb] at h76
         refine wp_seq_k (fun K hK => ?_); refine wp_region_lit ?_
         refine o_ldA HE rfl HS rfl T.a44 (.there (.there (.here .here))) rfl ?_; clear HE; intro a HE
         refine o_stA HE HS rfl rfl rfl T.a44 (.there (.there (.there (.here .here)))) rfl ?_; clear HS; intro w HS
         refine o_assign HE rfl rfl ?_; clear HE; intro a HE
         refine hK _ _ ?_; clear hK K
         refine wp_ret ?_
         have hcphR79 := oHB410_1.cap
         obtain ⟨G78, hle80, HS', hR79⟩ := X.Own.still HS (.there .here) oHB410_1; clear HS; have HS := HS'; clear HS'
         replace hR := hR.le hle80
         replace hR38 := hR38.le hle80
         replace oHB410_1 := oHB410_1.le hle80
         show Q .ret _ _
         refine ret hQ HE rfl (HE.resA HS rfl T.a44 (.there (.there (.here .here))) rfl (HE.res rfl .nil)) ⟨_, _, HS.stop (List.nil_sublist _), rfl, ?_⟩
         have g3 := getD_at (l := l) (i := 3) (by omega)
         have hm : ¬ (modelS (l.getD 3 [])).1 = 0 := h10.2
         have g4 := getD_at (l := l) (i := 4) (by omega)
         have hk : nameE (l.getD 4 []) = 0 := by simpa using h24
         have g5 := getD_at (l := l) (i := 5) (by omega)
         have ho : (findS (modelS (l.getD 3 [])).1 (opS (l.getD 5 [])).1).2 = true := by simpa using h34.2
         have g6 : l[6 + y.1]? = some (l.getD (6 + ((y.1 : Nat) : Int)).toNat []) := by rw [show (6 + ((y.1 : Nat) : Int)).toNat = 6 + y.1 by omega]; exact getD_at (by omega)
         have hv0 : (parseV (l.getD (6 + ((y.1 : Nat) : Int)).toNat [])).2 = 0 := by simpa using h66
         have he : invF (l.drop 3) = 2 := inv_e3 g3 hm g4 hk g5 ho rfl hy3 (by omega) g6 hv0 (getD_int (by omega)) (by simpa using h76)
         rw [he]
         exact ⟨⟨0, ⟨0, 0, []⟩, 0, (modelS (l.getD 3 [])).1, ((parseV (l.getD 4 [])).1), (opS (l.getD 5 [])).1, y.2, [], false, []⟩, _, _, rfl, hcphR79, hR79, rfl, fun h => absurd h (by first | decide | assumption)⟩
        ·have h76r := h76; try simp only [zz1, zz2, zz3, zz4, zz5, zz6, zz7, zz8, zz9, zza, zzb] at h76
         refine wp_skip ?_
         refine hK71 _ _ ?_; clear hK71
         refine wp_region_lit ?_
         refine o_fld HE rfl rfl T.f44_6 ?_; clear HE; intro a HE
         refine o_ld HE rfl HS rfl T.s42 (.there (.there (.here .here))) rfl ?_; clear HE; intro a HE
         refine o_ldA HE rfl HS rfl T.a41 (.here .here) rfl ?_; clear HE; intro a HE
         refine o_buildSl (cs := #[.int .i64 ((parseV (l.getD (6 + ((y.1 : Nat) : Int)).toNat [])).1.k), .int .i64 ((parseV (l.getD (6 + ((y.1 : Nat) : Int)).toNat [])).1.n), str ((parseV (l.getD (6 + ((y.1 : Nat) : Int)).toNat [])).1.s)]) [(0, _), (1, _), (2, _)] HE rfl HS rfl T.l42 (by kernel_rfl) ⟨rfl, rfl, rfl, trivial⟩ ?_; clear HE HS; intro B106 w a HS HE
         refine o_appendL (K := kVal) (ys := [(parseV (l.getD (6 + ((y.1 : Nat) : Int)).toNat [])).1]) (n := 3) HE rfl HS (.there (.there .here)) oHB410_1 rfl rfl T.p42 (.here .here) rfl ⟨rfl, rfl⟩ rfl rfl (by (simp; omega)) (by (simp; omega)) ?_
         clear HE HS; intro oA81 oc81 oC81 w a HS oH81 HE
         refine o_fld HE rfl rfl T.f44_6 ?_; clear HE; intro a HE
         refine o_st HE HS rfl rfl rfl T.s42 (.there (.there (.there (.here .here)))) rfl ?_; clear HS; intro w HS
         refine hK51 _ _ ?_; clear hK51
         refine wp_region_lit ?_
         refine o_move HE rfl rfl ?_; clear HE; intro a HE
         refine o_add HE rfl rfl rfl (by omega) ?_; clear HE; intro a HE
         refine o_assign HE rfl rfl ?_; clear HE; intro a HE
         replace HS := HS.drop (M' := [_, _, _]) (sub_keep (sub_drop (sub_drop (sub_keep (sub_keep sub_nil)))))
         replace HS := HS.conv (L2 := [(0, _), (1, _), (2, _), (3, _), (4, _), (5, _), (6, _), (7, _), (8, _), (9, _), (10, _), (11, _), (12, _), (13, _)]) (.there (.here .here)) ⟨rfl, rfl, rfl, rfl, rfl, rfl, rfl, rfl, rfl, rfl, rfl, rfl, rfl, rfl, trivial⟩
         have g6 : l[6 + y.1]? = some (l.getD (6 + ((y.1 : Nat) : Int)).toNat []) := by rw [show (6 + ((y.1 : Nat) : Int)).toNat = 6 + y.1 by omega]; exact getD_at (by omega)
         have hnx := inv_next hy3 (by omega) g6 (by simpa using h66) (getD_int (by omega)) (by simpa using h76)
         exact ⟨(y.1 + 1, y.2 ++ [(parseV (l.getD (6 + ((y.1 : Nat) : Int)).toNat [])).1]), ⟨_, _, _, _, hle46, HS, HE.cut ⟨rfl, rfl, rfl, rfl, rfl, trivial⟩, oH81, ⟨by show y.1 + 1 ≤ _; omega, by simp; omega, hnx⟩⟩, by show (doms (findS (modelS (l.getD 3 [])).1 (opS (l.getD 5 [])).1).1.ins).length - (y.1 + 1) < _; omega⟩
     ·have h50r := h50; try simp only [zz1, zz2, zz3, zz4, zz5, zz6, zz7, zz8, zz9, zza, zzb] at h50
      refine wp_exit ?_
      refine hK40 _ _ ?_; clear hK40
      refine wp_seq_k (fun K83 hK82 => ?_)
      refine wp_seq_k (fun K hK => ?_); refine wp_region_lit ?_
      refine o_move HE rfl rfl ?_; clear HE; intro a HE
      refine o_lenL HE rfl rfl Tryd.underlying29 ?_; clear HE; intro a HE
      refine o_move HE rfl rfl ?_; clear HE; intro a HE
      refine o_lenL HE rfl rfl Tryd.underlying114 ?_; clear HE; intro a HE
      refine o_add HE rfl rfl rfl (by omega) ?_; clear HE; intro a HE
      refine o_gtr HE rfl rfl rfl ?_; clear HE; intro a HE
      refine hK _ _ ?_; clear hK K
      refine cond HE rfl (fun h85 => ?_) (fun h85 => ?_)
      ·have h85r := h85; try simp only [zz1, zz2, zz3, zz4, zz5, zz6, zz7, zz8, zz9, zza, zzb] at h85
       refine wp_seq_k (fun K hK => ?_); refine wp_region_lit ?_
       refine o_ldA HE rfl HS rfl T.a44 (.there (.here .here)) rfl ?_; clear HE; intro a HE
       refine o_stA HE HS rfl rfl rfl T.a44 (.there (.there (.here .here))) rfl ?_; clear HS; intro w HS
       refine o_assign HE rfl rfl ?_; clear HE; intro a HE
       refine hK _ _ ?_; clear hK K
       refine wp_ret ?_
       have hcphR88 := oHB410_1.cap
       obtain ⟨G87, hle89, HS', hR88⟩ := X.Own.still HS .here oHB410_1; clear HS; have HS := HS'; clear HS'
       replace hR := hR.le hle89
       replace hR38 := hR38.le hle89
       replace oHB410_1 := oHB410_1.le hle89
       show Q .ret _ _
       refine ret hQ HE rfl (HE.resA HS rfl T.a44 (.there (.here .here)) rfl (HE.res rfl .nil)) ⟨_, _, HS.stop (List.nil_sublist _), rfl, ?_⟩
       have g3 := getD_at (l := l) (i := 3) (by omega)
       have hm : ¬ (modelS (l.getD 3 [])).1 = 0 := h10.2
       have g4 := getD_at (l := l) (i := 4) (by omega)
       have hk : nameE (l.getD 4 []) = 0 := by simpa using h24
       have g5 := getD_at (l := l) (i := 5) (by omega)
       have ho : (findS (modelS (l.getD 3 [])).1 (opS (l.getD 5 [])).1).2 = true := by simpa using h34.2
       have hy9 : y.1 = (doms (findS (modelS (l.getD 3 [])).1 (opS (l.getD 5 [])).1).1.ins).length := by omega
       have hd := inv_done g3 hm g4 hk g5 ho rfl hy3 (by omega)
       have he : invF (l.drop 3) = 2 := by
        unfold invF
        rw [hd]
        show (if 0 < (l.drop (6 + y.1)).length then _ else _) = (2 : Int)
        rw [List.length_drop, if_pos (by omega)]
        rfl
       rw [he]
       exact ⟨⟨0, ⟨0, 0, []⟩, 0, (modelS (l.getD 3 [])).1, ((parseV (l.getD 4 [])).1), (opS (l.getD 5 [])).1, y.2, [], false, []⟩, _, _, rfl, hcphR88, hR88, rfl, fun h => absurd h (by first | decide | assumption)⟩
      ·have h85r := h85; try simp only [zz1, zz2, zz3, zz4, zz5, zz6, zz7, zz8, zz9, zza, zzb] at h85
       refine wp_skip ?_
       refine hK82 _ _ ?_; clear hK82
       refine wp_seq_k (fun K hK => ?_); refine wp_region_lit ?_
       refine o_ldA HE rfl HS rfl T.a44 (.there (.here .here)) rfl ?_; clear HE; intro a HE
       refine o_stA HE HS rfl rfl rfl T.a44 (.there (.there (.here .here))) rfl ?_; clear HS; intro w HS
       refine o_assign HE rfl rfl ?_; clear HE; intro a HE
       refine hK _ _ ?_; clear hK K
       refine wp_ret ?_
       have hcphR92 := oHB410_1.cap
       obtain ⟨G91, hle93, HS', hR92⟩ := X.Own.still HS .here oHB410_1; clear HS; have HS := HS'; clear HS'
       replace hR := hR.le hle93
       replace hR38 := hR38.le hle93
       replace oHB410_1 := oHB410_1.le hle93
       show Q .ret _ _
       refine ret hQ HE rfl (HE.resA HS rfl T.a44 (.there (.here .here)) rfl (HE.res rfl .nil)) ⟨_, _, HS.stop (List.nil_sublist _), rfl, ?_⟩
       have g3 := getD_at (l := l) (i := 3) (by omega)
       have hm : ¬ (modelS (l.getD 3 [])).1 = 0 := h10.2
       have g4 := getD_at (l := l) (i := 4) (by omega)
       have hk : nameE (l.getD 4 []) = 0 := by simpa using h24
       have g5 := getD_at (l := l) (i := 5) (by omega)
       have ho : (findS (modelS (l.getD 3 [])).1 (opS (l.getD 5 [])).1).2 = true := by simpa using h34.2
       have hy9 : y.1 = (doms (findS (modelS (l.getD 3 [])).1 (opS (l.getD 5 [])).1).1.ins).length := by omega
       have hd := inv_done g3 hm g4 hk g5 ho rfl hy3 (by omega)
       have he : invF (l.drop 3) = 0 := by
        unfold invF
        rw [hd]
        show (if 0 < (l.drop (6 + y.1)).length then _ else _) = (0 : Int)
        rw [List.length_drop, if_neg (by omega)]
       rw [he]
       exact ⟨⟨0, ⟨0, 0, []⟩, 0, (modelS (l.getD 3 [])).1, ((parseV (l.getD 4 [])).1), (opS (l.getD 5 [])).1, y.2, [], false, []⟩, _, _, rfl, hcphR92, hR92, rfl, fun _ => by unfold invE; rw [hd]⟩

/-! `incognito/incognitoref10.Parse` -/
set_option maxRecDepth 100000 in
set_option maxHeartbeats 4000000 in
theorem c_ParseE10 (s : Bs) (w0 : World) (G : Heap) (hG : Sub G w0) (hl : s.length ≤ 4294967280):
  Calls Tryd.prog 23 #[str s] w0 (Ret w0 G (fun v G' => ∃ A1 c1 A2 c2, v = .tuple #[.agg (evtCells (parseE s).1 A1 c1 A2 c2).toArray, .int .i64 (parseE s).2] ∧ (parseE s).1.args.length ≤ c1 ∧ Rd kVal G' A1 (parseE s).1.args ∧ (parseE s).1.out.length ≤ c2 ∧ Rd kVal G' A2 (parseE s).1.out)) := by
 refine enter Tryd.func23 rfl Tryd.ntmps23 rfl ?_
 intro Q hQ a HE
 have HS := St.start0 hG
 refine wp_seq_k (fun K hK => ?_); refine wp_region_lit ?_
 refine o_allocL [(0, _), (1, _), (2, _), (3, _), (4, _), (5, _), (6, _), (7, _), (8, _), (9, _), (10, _), (11, _), (12, _), (13, _)] HE rfl HS T.z44 ⟨rfl, rfl, rfl, rfl, rfl, rfl, rfl, rfl, rfl, rfl, rfl, rfl, rfl, rfl, trivial⟩ ?_; clear HE HS; intro B2 w a HS HE
 refine o_assign HE rfl rfl ?_; clear HE; intro a HE
 refine hK _ _ ?_; clear hK K
 refine wp_seq_k (fun K hK => ?_); refine wp_region_lit ?_
 refine o_build (cs := #[.int .i64 0, .int .i64 0, .int .i64 0, str [], .int .i64 0, .int .i64 0, .int .i64 0, .int .i64 0, str [], .int .i64 0, .slice none 0 0, .slice none 0 0, .bool false, str []]) HE rfl rfl (by kernel_rfl) ?_; clear HE; intro a HE
 refine o_allocL [(0, _), (1, _), (2, _), (3, _), (4, _), (5, _), (6, _), (7, _), (8, _), (9, _), (10, _), (11, _), (12, _), (13, _)] HE rfl HS T.z44 ⟨rfl, rfl, rfl, rfl, rfl, rfl, rfl, rfl, rfl, rfl, rfl, rfl, rfl, rfl, trivial⟩ ?_; clear HE HS; intro B4 w a HS HE
 refine o_stA HE HS rfl rfl rfl T.a44 (.here .here) rfl ?_; clear HS; intro w HS
 refine hK _ _ ?_; clear hK K
 refine wp_seq_k (fun K hK => ?_); refine wp_region_lit ?_
 refine o_move HE rfl rfl ?_; clear HE; intro a HE
 refine o_callP HE rfl HS rfl rfl T.g48 (c_Note8 s _ _ HS.sub (by first | omega | (simp; done) | (simp; omega) | (have := cutA_len s 59; have := cutB_len s 59; omega))) ?_
 clear HE HS; rintro _ w a HS rfl HE
 refine o_allocL [(0, _), (1, _), (2, _), (3, _)] HE rfl HS T.z97 ⟨rfl, rfl, rfl, rfl, trivial⟩ ?_; clear HE HS; intro B5 w a HS HE
 refine o_stA HE HS rfl rfl rfl T.a97 (.here .here) rfl ?_; clear HS; intro w HS
 refine hK _ _ ?_; clear hK K
 refine wp_seq_k (fun K hK => ?_); refine wp_region_lit ?_
 have hnl := note_len s
 refine o_fld HE rfl rfl T.f97_0 ?_; clear HE; intro a HE
 refine o_ld HE rfl HS rfl T.s9 (.here .here) rfl ?_; clear HE; intro a HE
 refine o_call HE rfl HS rfl rfl T.g49 (c_Words8 ((noteS s).1) _ _ HS.sub (by first | omega | (simp; done) | (simp; omega) | (have := cutA_len s 59; have := cutB_len s 59; omega))) ?_
 clear HE HS; rintro _ G4 w a HS hle4 ⟨vA4, vc4, rfl, hcp4, hR4⟩ HE
 refine o_move HE rfl rfl ?_; clear HE; intro a HE
 refine o_extract HE rfl rfl rfl ?_; clear HE; intro a HE
 refine o_extract HE rfl rfl rfl ?_; clear HE; intro a HE
 refine o_assign HE rfl rfl ?_; clear HE; intro a HE
 refine o_assign HE rfl rfl ?_; clear HE; intro a HE
 refine hK _ _ ?_; clear hK K
 refine wp_seq_k (fun K7 hK6 => ?_)
 refine wp_seq_k (fun K hK => ?_); refine wp_region_lit ?_
 refine o_fld HE rfl rfl T.f97_3 ?_; clear HE; intro a HE
 refine o_ld HE rfl HS rfl T.s4 (.here .here) rfl ?_; clear HE; intro a HE
 refine o_not HE rfl rfl ?_; clear HE; intro a HE
 refine o_move HE rfl rfl ?_; clear HE; intro a HE
 refine cutL 3 (fun a' w' => w = w' ∧ Env a' 128 [] [(30, .bool ((!(decide ((noteS s).2.2.2 = 0))) || (!(decide ((wordsS ((noteS s).1)).2 = 0))))), (0, str s), (2, .pointer (some ⟨B2, 0, none⟩)), (3, .int .i64 0), (4, .pointer (some ⟨B4, 0, none⟩)), (5, .pointer (some ⟨B5, 0, none⟩)), (6, .slice vA4 ((wordsS ((noteS s).1)).1.length) vc4), (15, .agg #[.int .i64 0, .int .i64 0, .int .i64 0, str [], .int .i64 0, .int .i64 0, .int .i64 0, .int .i64 0, str [], .int .i64 0, .slice none 0 0, .slice none 0 0, .bool false, str []]), (16, str s), (17, .agg #[str ((noteS s).1), str ((noteS s).2.1), .bool ((noteS s).2.2.1), .bool (decide ((noteS s).2.2.2 = 0))]), (18, .tuple #[.slice vA4 ((wordsS ((noteS s).1)).1.length) vc4, .bool (decide ((wordsS ((noteS s).1)).2 = 0))]), (19, .pointer (some ⟨B5, 0, none⟩)), (20, str ((noteS s).1)), (21, .tuple #[.slice vA4 ((wordsS ((noteS s).1)).1.length) vc4, .bool (decide ((wordsS ((noteS s).1)).2 = 0))]), (22, .slice vA4 ((wordsS ((noteS s).1)).1.length) vc4), (23, .bool (decide ((wordsS ((noteS s).1)).2 = 0)))]) ?_ ?_
 ·refine (Bool.eq_false_or_eq_true (!(decide ((noteS s).2.2.2 = 0)))).elim (fun hb8 => ?_) (fun hb8 => ?_)
  ·skip
   have hk9 := hb8; try simp only [zz1, zz2, zz3, zz4, zz5, zz7, zz8, zz9, zza, zzb] at hk9
   refine g_off HE rfl rfl rfl hb8 ?_; clear HE; intro a HE
   refine g_off HE rfl rfl rfl hb8 ?_; clear HE; intro a HE
   refine o_pick_t HE rfl rfl hb8 rfl ?_; clear HE; intro a HE
   exact ⟨rfl, HE.cut ⟨by rw [hb8]; rfl, rfl, rfl, rfl, rfl, rfl, rfl, rfl, rfl, rfl, rfl, rfl, rfl, rfl, rfl, rfl, trivial⟩⟩
  ·skip
   have hk10 := hb8; try simp only [zz1, zz2, zz3, zz4, zz5, zz7, zz8, zz9, zza, zzb] at hk10
   refine op_on HE rfl rfl hb8 ?_
   refine o_move HE rfl rfl ?_; clear HE; intro a HE
   refine op_on HE rfl rfl hb8 ?_
   refine o_not HE rfl rfl ?_; clear HE; intro a HE
   refine o_pick_f HE rfl rfl hb8 rfl ?_; clear HE; intro a HE
   exact ⟨rfl, HE.cut ⟨by rw [hb8]; rfl, rfl, rfl, rfl, rfl, rfl, rfl, rfl, rfl, rfl, rfl, rfl, rfl, rfl, rfl, rfl, trivial⟩⟩
 clear HE; rintro a _ ⟨rfl, HE⟩
 refine hK _ _ ?_; clear hK K
 refine cond HE rfl (fun h12 => ?_) (fun h12 => ?_)
 ·have h12r := h12; try simp only [zz1, zz2, zz3, zz4, zz5, zz6, zz7, zz8, zz9, zza, zzb] at h12
  refine wp_seq_k (fun K hK => ?_); refine wp_region_lit ?_
  refine o_ldA HE rfl HS rfl T.a44 (.there (.here .here)) rfl ?_; clear HE; intro a HE
  refine o_stA HE HS rfl rfl rfl T.a44 (.there (.there (.here .here))) rfl ?_; clear HS; intro w HS
  refine o_assign HE rfl rfl ?_; clear HE; intro a HE
  refine hK _ _ ?_; clear hK K
  refine wp_ret ?_
  show Q .ret _ _
  refine ret hQ HE rfl (HE.resA HS rfl T.a44 (.there (.there (.here .here))) rfl (HE.res rfl .nil)) ⟨_, _, HS.stop (List.nil_sublist _), rfl, ?_⟩
  have he : parseE s = (E0, 2) := parseE_bad (by simpa using h12)
  rw [he]
  exact ⟨_, _, _, _, rfl, Nat.zero_le _, .nil, Nat.zero_le _, .nil⟩
 ·have h12r := h12; try simp only [zz1, zz2, zz3, zz4, zz5, zz6, zz7, zz8, zz9, zza, zzb] at h12
  refine wp_skip ?_
  refine hK6 _ _ ?_; clear hK6
  refine wp_seq_k (fun K hK => ?_); refine wp_region_lit ?_
  have hn1 : (noteS s).2.2.2 = 0 := by simpa using h12.1
  have hn2 : (wordsS (noteS s).1).2 = 0 := by simpa using h12.2
  have hpos := words_pos hn2
  have hwl := wordsS_len (noteS s).1
  have hlsw : ∀ x ∈ (wordsS (noteS s).1).1, x.length ≤ 4294967280 := fun x hx => by have := words_mem hx; omega
  have g0 := getD_at (l := (wordsS (noteS s).1).1) (i := 0) (by omega)
  have hb0 := hlsw _ (getD_mem (l := (wordsS (noteS s).1).1) (i := 0) (by omega))
  refine o_move HE rfl rfl ?_; clear HE; intro a HE
  have hi14 : (0 : Int).toNat < ((wordsS ((noteS s).1)).1).length := by omega
  obtain ⟨eb14, eo14, hA14, el14⟩ := Rd.at hR4 (List.getElem?_eq_getElem hi14); cases hA14
  rw [show ((wordsS ((noteS s).1)).1)[(0 : Int).toNat] = (((wordsS ((noteS s).1)).1).getD 0 []) from getD_get (i := 0) hi14 _] at el14
  have el14 := kof_open (enc := fun l => str l) el14
  refine o_ixL HE rfl rfl rfl T.l29 ⟨by omega, by omega⟩ ?_; clear HE; intro a HE
  refine o_ldI HE rfl HS rfl T.s9 el14 (j := 0) rfl rfl ?_; clear HE; intro a HE
  refine o_callP HE rfl HS rfl rfl T.g50 (c_Count (((wordsS ((noteS s).1)).1).getD 0 []) 9223372036854775807 _ _ HS.sub (by first | omega | (simp; done) | (simp; omega))) ?_
  clear HE HS; rintro _ w a HS rfl HE
  refine o_move HE rfl rfl ?_; clear HE; intro a HE
  refine o_extract HE rfl rfl rfl ?_; clear HE; intro a HE
  refine o_extract HE rfl rfl rfl ?_; clear HE; intro a HE
  refine o_assign HE rfl rfl ?_; clear HE; intro a HE
  refine o_assign HE rfl rfl ?_; clear HE; intro a HE
  refine hK _ _ ?_; clear hK K
  refine wp_seq_k (fun K17 hK16 => ?_)
  refine wp_seq_k (fun K hK => ?_); refine wp_region_lit ?_
  refine o_move HE rfl rfl ?_; clear HE; intro a HE
  refine o_neI HE rfl rfl rfl ?_; clear HE; intro a HE
  refine hK _ _ ?_; clear hK K
  refine cond HE rfl (fun h19 => ?_) (fun h19 => ?_)
  ·have h19r := h19; try simp only [zz1, zz2, zz3, zz4, zz5, zz6, zz7, zz8, zz9, zza, zzb] at h19
   refine wp_seq_k (fun K hK => ?_); refine wp_region_lit ?_
   refine o_ldA HE rfl HS rfl T.a44 (.there (.here .here)) rfl ?_; clear HE; intro a HE
   refine o_move HE rfl rfl ?_; clear HE; intro a HE
   refine o_stA HE HS rfl rfl rfl T.a44 (.there (.there (.here .here))) rfl ?_; clear HS; intro w HS
   refine o_assign HE rfl rfl ?_; clear HE; intro a HE
   refine hK _ _ ?_; clear hK K
   refine wp_ret ?_
   show Q .ret _ _
   refine ret hQ HE rfl (HE.resA HS rfl T.a44 (.there (.there (.here .here))) rfl (HE.res rfl .nil)) ⟨_, _, HS.stop (List.nil_sublist _), rfl, ?_⟩
   have he : parseE s = (E0, erv (countS (((wordsS ((noteS s).1)).1).getD 0 []) 9223372036854775807)) := parseE_err' hn1 hn2 (all_t g0 h19) (h19)
   rw [he]
   exact ⟨_, _, _, _, rfl, Nat.zero_le _, .nil, Nat.zero_le _, .nil⟩
  ·have h19r := h19; try simp only [zz1, zz2, zz3, zz4, zz5, zz6, zz7, zz8, zz9, zza, zzb] at h19
   refine wp_skip ?_
   refine hK16 _ _ ?_; clear hK16
   refine wp_seq_k (fun K22 hK21 => ?_)
   refine wp_seq_k (fun K hK => ?_); refine wp_region_lit ?_
   refine o_move HE rfl rfl ?_; clear HE; intro a HE
   refine o_lenL HE rfl rfl Tryd.underlying29 ?_; clear HE; intro a HE
   refine o_lss HE rfl rfl rfl ?_; clear HE; intro a HE
   refine hK _ _ ?_; clear hK K
   refine cond HE rfl (fun h24 => ?_) (fun h24 => ?_)
   ·have h24r := h24; try simp only [zz1, zz2, zz3, zz4, zz5, zz6, zz7, zz8, zz9, zza, zzb] at h24
    refine wp_seq_k (fun K hK => ?_); refine wp_region_lit ?_
    refine o_ldA HE rfl HS rfl T.a44 (.there (.here .here)) rfl ?_; clear HE; intro a HE
    refine o_stA HE HS rfl rfl rfl T.a44 (.there (.there (.here .here))) rfl ?_; clear HS; intro w HS
    refine o_assign HE rfl rfl ?_; clear HE; intro a HE
    refine hK _ _ ?_; clear hK K
    refine wp_ret ?_
    show Q .ret _ _
    refine ret hQ HE rfl (HE.resA HS rfl T.a44 (.there (.there (.here .here))) rfl (HE.res rfl .nil)) ⟨_, _, HS.stop (List.nil_sublist _), rfl, ?_⟩
    have hc0 : erv (C9 ((wordsS (noteS s).1).1.getD 0 [])) = 0 := by simpa [C9] using h19
    have he : parseE s = (E0, 2) := parseE_err' hn1 hn2 (all_1 g0 hc0 (by omega)) (by decide)
    rw [he]
    exact ⟨_, _, _, _, rfl, Nat.zero_le _, .nil, Nat.zero_le _, .nil⟩
   ·have h24r := h24; try simp only [zz1, zz2, zz3, zz4, zz5, zz6, zz7, zz8, zz9, zza, zzb] at h24
    refine wp_skip ?_
    refine hK21 _ _ ?_; clear hK21
    refine wp_seq_k (fun K hK => ?_); refine wp_region_lit ?_
    refine o_move HE rfl rfl ?_; clear HE; intro a HE
    have hi26 : (1 : Int).toNat < ((wordsS ((noteS s).1)).1).length := by omega
    obtain ⟨eb26, eo26, hA26, el26⟩ := Rd.at hR4 (List.getElem?_eq_getElem hi26); cases hA26
    rw [show ((wordsS ((noteS s).1)).1)[(1 : Int).toNat] = (((wordsS ((noteS s).1)).1).getD 1 []) from getD_get (i := 1) hi26 _] at el26
    have el26 := kof_open (enc := fun l => str l) el26
    refine o_ixL HE rfl rfl rfl T.l29 ⟨by omega, by omega⟩ ?_; clear HE; intro a HE
    have hb1 := hlsw _ (getD_mem (l := (wordsS (noteS s).1).1) (i := 1) (by omega))
    refine o_ldI HE rfl HS rfl T.s9 el26 (j := 0) rfl rfl ?_; clear HE; intro a HE
    refine o_callP HE rfl HS rfl rfl T.g51 (c_name10 (((wordsS ((noteS s).1)).1).getD 1 []) _ _ HS.sub (by omega)) ?_
    clear HE HS; rintro _ w a HS rfl HE
    refine o_move HE rfl rfl ?_; clear HE; intro a HE
    refine o_extract HE rfl rfl rfl ?_; clear HE; intro a HE
    refine o_extract HE rfl rfl rfl ?_; clear HE; intro a HE
    refine o_allocL [(0, _), (1, _), (2, _)] HE rfl HS T.z41 ⟨rfl, rfl, rfl, trivial⟩ ?_; clear HE HS; intro B10 w a HS HE
    refine o_stA HE HS rfl rfl rfl T.a41 (.here .here) rfl ?_; clear HS; intro w HS
    refine o_assign HE rfl rfl ?_; clear HE; intro a HE
    refine hK _ _ ?_; clear hK K
    refine wp_seq_k (fun K29 hK28 => ?_)
    refine wp_seq_k (fun K hK => ?_); refine wp_region_lit ?_
    refine o_move HE rfl rfl ?_; clear HE; intro a HE
    refine o_neI HE rfl rfl rfl ?_; clear HE; intro a HE
    refine hK _ _ ?_; clear hK K
    refine cond HE rfl (fun h31 => ?_) (fun h31 => ?_)
    ·have h31r := h31; try simp only [zz1, zz2, zz3, zz4, zz5, zz6, zz7, zz8, zz9, zza, zzb] at h31
     refine wp_seq_k (fun K hK => ?_); refine wp_region_lit ?_
     refine o_ldA HE rfl HS rfl T.a44 (.there (.there (.here .here))) rfl ?_; clear HE; intro a HE
     refine o_move HE rfl rfl ?_; clear HE; intro a HE
     refine o_stA HE HS rfl rfl rfl T.a44 (.there (.there (.there (.here .here)))) rfl ?_; clear HS; intro w HS
     refine o_assign HE rfl rfl ?_; clear HE; intro a HE
     refine hK _ _ ?_; clear hK K
     refine wp_ret ?_
     show Q .ret _ _
     refine ret hQ HE rfl (HE.resA HS rfl T.a44 (.there (.there (.there (.here .here)))) rfl (HE.res rfl .nil)) ⟨_, _, HS.stop (List.nil_sublist _), rfl, ?_⟩
     have hc0 : erv (C9 ((wordsS (noteS s).1).1.getD 0 [])) = 0 := by simpa [C9] using h19
     have g1 := getD_at (l := (wordsS (noteS s).1).1) (i := 1) (by omega)
     have he : parseE s = (E0, nameE (((wordsS ((noteS s).1)).1).getD 1 [])) := parseE_err' hn1 hn2 (all_c g0 hc0 g1 h31) (h31)
     rw [he]
     exact ⟨_, _, _, _, rfl, Nat.zero_le _, .nil, Nat.zero_le _, .nil⟩
    ·have h31r := h31; try simp only [zz1, zz2, zz3, zz4, zz5, zz6, zz7, zz8, zz9, zza, zzb] at h31
     refine wp_skip ?_
     refine hK28 _ _ ?_; clear hK28
     refine wp_seq_k (fun K34 hK33 => ?_)
     refine wp_seq_k (fun K hK => ?_); refine wp_region_lit ?_
     refine o_move HE rfl rfl ?_; clear HE; intro a HE
     refine o_lenL HE rfl rfl Tryd.underlying29 ?_; clear HE; intro a HE
     refine o_lss HE rfl rfl rfl ?_; clear HE; intro a HE
     refine hK _ _ ?_; clear hK K
     refine cond HE rfl (fun h36 => ?_) (fun h36 => ?_)
     ·have h36r := h36; try simp only [zz1, zz2, zz3, zz4, zz5, zz6, zz7, zz8, zz9, zza, zzb] at h36
      refine wp_seq_k (fun K hK => ?_); refine wp_region_lit ?_
      refine o_ldA HE rfl HS rfl T.a44 (.there (.there (.here .here))) rfl ?_; clear HE; intro a HE
      refine o_stA HE HS rfl rfl rfl T.a44 (.there (.there (.there (.here .here)))) rfl ?_; clear HS; intro w HS
      refine o_assign HE rfl rfl ?_; clear HE; intro a HE
      refine hK _ _ ?_; clear hK K
      refine wp_ret ?_
      show Q .ret _ _
      refine ret hQ HE rfl (HE.resA HS rfl T.a44 (.there (.there (.there (.here .here)))) rfl (HE.res rfl .nil)) ⟨_, _, HS.stop (List.nil_sublist _), rfl, ?_⟩
      have hc0 : erv (C9 ((wordsS (noteS s).1).1.getD 0 [])) = 0 := by simpa [C9] using h19
      have g1 := getD_at (l := (wordsS (noteS s).1).1) (i := 1) (by omega)
      have hc1 : nameE ((wordsS (noteS s).1).1.getD 1 []) = 0 := by simpa using h31
      have he : parseE s = (E0, 2) := parseE_err' hn1 hn2 (all_2 g0 hc0 g1 hc1 (by omega)) (by decide)
      rw [he]
      exact ⟨_, _, _, _, rfl, Nat.zero_le _, .nil, Nat.zero_le _, .nil⟩
     ·have h36r := h36; try simp only [zz1, zz2, zz3, zz4, zz5, zz6, zz7, zz8, zz9, zza, zzb] at h36
      refine wp_skip ?_
      refine hK33 _ _ ?_; clear hK33
      refine wp_seq_k (fun K hK => ?_); refine wp_region_lit ?_
      refine o_allocL [(0, _), (1, _), (2, _), (3, _), (4, _), (5, _), (6, _), (7, _), (8, _), (9, _), (10, _), (11, _), (12, _), (13, _)] HE rfl HS T.z44 ⟨rfl, rfl, rfl, rfl, rfl, rfl, rfl, rfl, rfl, rfl, rfl, rfl, rfl, rfl, trivial⟩ ?_; clear HE HS; intro B11 w a HS HE
      refine hK _ _ ?_; clear hK K
      refine wp_seq_k (fun K40 hK39 => ?_)
      refine wp_seq_k (fun K hK => ?_); refine wp_region_lit ?_
      refine o_move HE rfl rfl ?_; clear HE; intro a HE
      have hi41 : (2 : Int).toNat < ((wordsS ((noteS s).1)).1).length := by omega
      obtain ⟨eb41, eo41, hA41, el41⟩ := Rd.at hR4 (List.getElem?_eq_getElem hi41); cases hA41
      rw [show ((wordsS ((noteS s).1)).1)[(2 : Int).toNat] = (((wordsS ((noteS s).1)).1).getD 2 []) from getD_get (i := 2) hi41 _] at el41
      have el41 := kof_open (enc := fun l => str l) el41
      refine o_ixL HE rfl rfl rfl T.l29 ⟨by omega, by omega⟩ ?_; clear HE; intro a HE
      refine o_ldI HE rfl HS rfl T.s9 el41 (j := 0) rfl rfl ?_; clear HE; intro a HE
      refine hK _ _ ?_; clear hK K
      refine wp_block ?_
      refine wp_seq_k (fun K hK => ?_); refine wp_region_lit ?_
      refine o_eqS HE rfl rfl rfl ?_; clear HE; intro a HE
      refine o_assign HE rfl rfl ?_; clear HE; intro a HE
      refine hK _ _ ?_; clear hK K
      refine cond HE rfl (fun h44 => ?_) (fun h44 => ?_)
      ·have h44r := h44; try simp only [zz1, zz2, zz3, zz4, zz5, zz6, zz7, zz8, zz9, zza, zzb] at h44
       refine wp_seq_k (fun K hK => ?_); refine wp_region_lit ?_
       refine o_move HE rfl rfl ?_; clear HE; intro a HE
       refine o_call HE rfl HS rfl rfl T.g52 (c_invoked10 ((wordsS ((noteS s).1)).1) _ _ _ _ HS.sub hR4 hlsw (by omega) (by omega)) ?_
       clear HE HS; rintro _ G45 w a HS hle45 ⟨ev45, vA45, vc45, rfl, hap45, hA45, hxo45, hxe45⟩ HE
       replace hR4 := hR4.le hle45
       refine o_move HE rfl rfl ?_; clear HE; intro a HE
       refine o_extract HE rfl rfl rfl ?_; clear HE; intro a HE
       refine o_extract HE rfl rfl rfl ?_; clear HE; intro a HE
       refine o_stA HE HS rfl rfl rfl T.a44 (.here .here) rfl ?_; clear HS; intro w HS
       refine o_assign HE rfl rfl ?_; clear HE; intro a HE
       refine hK _ _ ?_; clear hK K
       refine wp_region_lit ?_
       refine o_fld HE rfl rfl T.f44_2 ?_; clear HE; intro a HE
       refine o_st HE HS rfl rfl rfl T.s3 (.here .here) rfl ?_; clear HS; intro w HS
       refine hK39 _ _ ?_; clear hK39
       refine wp_seq_k (fun K48 hK47 => ?_)
       refine wp_seq_k (fun K hK => ?_); refine wp_region_lit ?_
       refine o_move HE rfl rfl ?_; clear HE; intro a HE
       refine o_neI HE rfl rfl rfl ?_; clear HE; intro a HE
       refine hK _ _ ?_; clear hK K
       refine cond HE rfl (fun h50 => ?_) (fun h50 => ?_)
       ·have h50r := h50; try simp only [zz1, zz2, zz3, zz4, zz5, zz6, zz7, zz8, zz9, zza, zzb] at h50
        refine wp_seq_k (fun K hK => ?_); refine wp_region_lit ?_
        refine o_ldA HE rfl HS rfl T.a44 (.there (.there (.there (.here .here)))) rfl ?_; clear HE; intro a HE
        refine o_move HE rfl rfl ?_; clear HE; intro a HE
        refine o_stA HE HS rfl rfl rfl T.a44 (.there (.there (.there (.there (.here .here))))) rfl ?_; clear HS; intro w HS
        refine o_assign HE rfl rfl ?_; clear HE; intro a HE
        refine hK _ _ ?_; clear hK K
        refine wp_ret ?_
        show Q .ret _ _
        refine ret hQ HE rfl (HE.resA HS rfl T.a44 (.there (.there (.there (.there (.here .here))))) rfl (HE.res rfl .nil)) ⟨_, _, HS.stop (List.nil_sublist _), rfl, ?_⟩
        have hc0 : erv (C9 ((wordsS (noteS s).1).1.getD 0 [])) = 0 := by simpa [C9] using h19
        have g1 := getD_at (l := (wordsS (noteS s).1).1) (i := 1) (by omega)
        have hc1 : nameE ((wordsS (noteS s).1).1.getD 1 []) = 0 := by simpa using h31
        have g2 := getD_at (l := (wordsS (noteS s).1).1) (i := 2) (by omega)
        have he : parseE s = (E0, invF (((wordsS ((noteS s).1)).1).drop 3)) := parseE_err' hn1 hn2 ((all_inv g0 hc0 g1 hc1 g2 h44).1) (h50)
        rw [he]
        exact ⟨_, _, _, _, rfl, Nat.zero_le _, .nil, Nat.zero_le _, .nil⟩
       ·have h50r := h50; try simp only [zz1, zz2, zz3, zz4, zz5, zz6, zz7, zz8, zz9, zza, zzb] at h50
        refine wp_skip ?_
        refine hK47 _ _ ?_; clear hK47
        refine wp_seq_k (fun K53 hK52 => ?_)
        replace HS := HS.conv (L2 := [(0, _), (1, _), (2, _), (3, _), (4, _), (5, _), (6, _), (7, _), (8, _), (9, _), (10, _), (11, _), (12, _), (13, _)]) (.here .here) ⟨rfl, rfl, rfl, rfl, rfl, rfl, rfl, rfl, rfl, rfl, rfl, rfl, rfl, rfl, trivial⟩
        replace HS := HS.conv (L2 := [(0, _), (1, _), (2, _)]) (.there (.here .here)) ⟨rfl, rfl, rfl, trivial⟩
        replace HS := HS.conv (L2 := [(0, _), (1, _), (2, _), (3, _)]) (.there (.there (.here .here))) ⟨rfl, rfl, rfl, rfl, trivial⟩
        replace HS := HS.conv (L2 := [(0, _), (1, _), (2, _), (3, _), (4, _), (5, _), (6, _), (7, _), (8, _), (9, _), (10, _), (11, _), (12, _), (13, _)]) (.there (.there (.there (.here .here)))) ⟨rfl, rfl, rfl, rfl, rfl, rfl, rfl, rfl, rfl, rfl, rfl, rfl, rfl, rfl, trivial⟩
        replace HE := HE.cut (L' := [(0, str s), (2, .pointer (some ⟨B2, 0, none⟩)), (3, .int .i64 0), (4, .pointer (some ⟨B4, 0, none⟩)), (5, .pointer (some ⟨B5, 0, none⟩)), (6, .slice (some ⟨eb14, eo14, none⟩) ((wordsS ((noteS s).1)).1.length) vc4), (8, .int .i64 (okv (countS (((wordsS ((noteS s).1)).1).getD 0 []) 9223372036854775807))), (9, .int .i64 (invF (((wordsS ((noteS s).1)).1).drop 3))), (10, .pointer (some ⟨B10, 0, none⟩)), (11, .pointer (some ⟨B11, 0, none⟩)), (15, .agg #[.int .i64 0, .int .i64 0, .int .i64 0, str [], .int .i64 0, .int .i64 0, .int .i64 0, .int .i64 0, str [], .int .i64 0, .slice none 0 0, .slice none 0 0, .bool false, str []]), (16, str s), (17, .agg #[str ((noteS s).1), str ((noteS s).2.1), .bool ((noteS s).2.2.1), .bool (decide ((noteS s).2.2.2 = 0))]), (18, .tuple #[.slice (some ⟨eb14, eo14, none⟩) ((wordsS ((noteS s).1)).1.length) vc4, .bool (decide ((wordsS ((noteS s).1)).2 = 0))]), (19, .pointer (some ⟨B5, 0, none⟩)), (20, str ((noteS s).1)), (21, .tuple #[.slice (some ⟨eb14, eo14, none⟩) ((wordsS ((noteS s).1)).1.length) vc4, .bool (decide ((wordsS ((noteS s).1)).2 = 0))]), (22, .slice (some ⟨eb14, eo14, none⟩) ((wordsS ((noteS s).1)).1.length) vc4), (23, .bool (decide ((wordsS ((noteS s).1)).2 = 0))), (30, .bool ((!(decide ((noteS s).2.2.2 = 0))) || (!(decide ((wordsS ((noteS s).1)).2 = 0))))), (32, .tuple #[.int .i64 (okv (countS (((wordsS ((noteS s).1)).1).getD 0 []) 9223372036854775807)), .int .i64 (erv (countS (((wordsS ((noteS s).1)).1).getD 0 []) 9223372036854775807))]), (33, .slice (some ⟨eb14, eo14, none⟩) ((wordsS ((noteS s).1)).1.length) vc4), (34, .pointer (some ⟨eb14, eo14 + (0 : Int).toNat * 1, none⟩)), (35, str (((wordsS ((noteS s).1)).1).getD 0 [])), (36, .tuple #[.int .i64 (okv (countS (((wordsS ((noteS s).1)).1).getD 0 []) 9223372036854775807)), .int .i64 (erv (countS (((wordsS ((noteS s).1)).1).getD 0 []) 9223372036854775807))]), (37, .int .i64 (okv (countS (((wordsS ((noteS s).1)).1).getD 0 []) 9223372036854775807))), (38, .int .i64 (erv (countS (((wordsS ((noteS s).1)).1).getD 0 []) 9223372036854775807))), (39, .int .i64 (erv (countS (((wordsS ((noteS s).1)).1).getD 0 []) 9223372036854775807))), (40, .bool (!decide ((erv (countS (((wordsS ((noteS s).1)).1).getD 0 []) 9223372036854775807)) = 0))), (43, .slice (some ⟨eb14, eo14, none⟩) ((wordsS ((noteS s).1)).1.length) vc4), (44, .int .i64 ((wordsS ((noteS s).1)).1.length : Int)), (45, .bool (decide (((wordsS ((noteS s).1)).1.length : Int) < 2))), (47, .tuple #[.agg #[.int .i64 ((parseV (((wordsS ((noteS s).1)).1).getD 1 [])).1.k), .int .i64 ((parseV (((wordsS ((noteS s).1)).1).getD 1 [])).1.n), str ((parseV (((wordsS ((noteS s).1)).1).getD 1 [])).1.s)], .int .i64 (nameE (((wordsS ((noteS s).1)).1).getD 1 []))]), (48, .slice (some ⟨eb14, eo14, none⟩) ((wordsS ((noteS s).1)).1.length) vc4), (49, .pointer (some ⟨eb14, eo14 + (1 : Int).toNat * 1, none⟩)), (50, str (((wordsS ((noteS s).1)).1).getD 1 [])), (51, .tuple #[.agg #[.int .i64 ((parseV (((wordsS ((noteS s).1)).1).getD 1 [])).1.k), .int .i64 ((parseV (((wordsS ((noteS s).1)).1).getD 1 [])).1.n), str ((parseV (((wordsS ((noteS s).1)).1).getD 1 [])).1.s)], .int .i64 (nameE (((wordsS ((noteS s).1)).1).getD 1 []))]), (52, .agg #[.int .i64 ((parseV (((wordsS ((noteS s).1)).1).getD 1 [])).1.k), .int .i64 ((parseV (((wordsS ((noteS s).1)).1).getD 1 [])).1.n), str ((parseV (((wordsS ((noteS s).1)).1).getD 1 [])).1.s)]), (53, .int .i64 (nameE (((wordsS ((noteS s).1)).1).getD 1 []))), (54, .int .i64 (nameE (((wordsS ((noteS s).1)).1).getD 1 []))), (55, .bool (!decide ((nameE (((wordsS ((noteS s).1)).1).getD 1 [])) = 0))), (58, .slice (some ⟨eb14, eo14, none⟩) ((wordsS ((noteS s).1)).1.length) vc4), (59, .int .i64 ((wordsS ((noteS s).1)).1.length : Int)), (60, .bool (decide (((wordsS ((noteS s).1)).1.length : Int) < 3))), (62, .slice (some ⟨eb14, eo14, none⟩) ((wordsS ((noteS s).1)).1.length) vc4), (63, .pointer (some ⟨eb14, eo14 + (2 : Int).toNat * 1, none⟩)), (64, str (((wordsS ((noteS s).1)).1).getD 2 [])), (65, .bool ((((wordsS ((noteS s).1)).1).getD 2 []) == [105, 110, 118, 111, 107, 101])), (66, .bool ((((wordsS ((noteS s).1)).1).getD 2 []) == [105, 110, 118, 111, 107, 101])), (67, .tuple #[.agg #[.int .i64 ev45.time, .int .i64 ev45.client.k, .int .i64 ev45.client.n, str ev45.client.s, .int .i64 ev45.type, .int .i64 ev45.model, .int .i64 ev45.key.k, .int .i64 ev45.key.n, str ev45.key.s, .int .i64 ev45.op, .slice vA45 ev45.args.length vc45, .slice none ev45.out.length 0, .bool ev45.noted, str ev45.note], .int .i64 (invF (((wordsS ((noteS s).1)).1).drop 3))]), (68, .slice (some ⟨eb14, eo14, none⟩) ((wordsS ((noteS s).1)).1.length) vc4), (69, .tuple #[.agg #[.int .i64 ev45.time, .int .i64 ev45.client.k, .int .i64 ev45.client.n, str ev45.client.s, .int .i64 ev45.type, .int .i64 ev45.model, .int .i64 ev45.key.k, .int .i64 ev45.key.n, str ev45.key.s, .int .i64 ev45.op, .slice vA45 ev45.args.length vc45, .slice none ev45.out.length 0, .bool ev45.noted, str ev45.note], .int .i64 (invF (((wordsS ((noteS s).1)).1).drop 3))]), (70, .agg #[.int .i64 ev45.time, .int .i64 ev45.client.k, .int .i64 ev45.client.n, str ev45.client.s, .int .i64 ev45.type, .int .i64 ev45.model, .int .i64 ev45.key.k, .int .i64 ev45.key.n, str ev45.key.s, .int .i64 ev45.op, .slice vA45 ev45.args.length vc45, .slice none ev45.out.length 0, .bool ev45.noted, str ev45.note]), (71, .int .i64 (invF (((wordsS ((noteS s).1)).1).drop 3))), (72, .pointer (some ⟨B11, 4, none⟩)), (113, .int .i64 (invF (((wordsS ((noteS s).1)).1).drop 3))), (114, .bool (!decide ((invF (((wordsS ((noteS s).1)).1).drop 3)) = 0)))]) ⟨rfl, rfl, rfl, rfl, rfl, rfl, rfl, rfl, rfl, rfl, rfl, rfl, rfl, rfl, rfl, rfl, rfl, rfl, rfl, rfl, rfl, rfl, rfl, rfl, rfl, rfl, rfl, rfl, rfl, rfl, rfl, rfl, rfl, rfl, rfl, rfl, rfl, rfl, rfl, rfl, rfl, rfl, rfl, rfl, rfl, rfl, rfl, rfl, rfl, rfl, rfl, rfl, rfl, rfl, rfl, rfl, rfl, trivial⟩
        refine drawnF (fun f G' w => Heap.le G45 G' ∧ St w0 G [] G' w [[(B11, Cells 44 [(0, bif f 7 then .int .i64 (okv (countS (((wordsS ((noteS s).1)).1).getD 0 []) 9223372036854775807)) else .int .i64 ev45.time), (1, bif f 9 then .int .i64 ((parseV (((wordsS ((noteS s).1)).1).getD 1 [])).1.k) else .int .i64 ev45.client.k), (2, bif f 9 then .int .i64 ((parseV (((wordsS ((noteS s).1)).1).getD 1 [])).1.n) else .int .i64 ev45.client.n), (3, bif f 9 then str ((parseV (((wordsS ((noteS s).1)).1).getD 1 [])).1.s) else str ev45.client.s), (4, .int .i64 1), (5, .int .i64 ev45.model), (6, .int .i64 ev45.key.k), (7, .int .i64 ev45.key.n), (8, str ev45.key.s), (9, .int .i64 ev45.op), (10, .slice vA45 ev45.args.length vc45), (11, .slice none ev45.out.length 0), (12, bif f 11 then .bool ((noteS s).2.2.1) else .bool ev45.noted), (13, bif f 13 then str ((noteS s).2.1) else str ev45.note)])], [(B10, Cells 41 [(0, .int .i64 ((parseV (((wordsS ((noteS s).1)).1).getD 1 [])).1.k)), (1, .int .i64 ((parseV (((wordsS ((noteS s).1)).1).getD 1 [])).1.n)), (2, str ((parseV (((wordsS ((noteS s).1)).1).getD 1 [])).1.s))])], [(B5, Cells 97 [(0, str ((noteS s).1)), (1, str ((noteS s).2.1)), (2, .bool ((noteS s).2.2.1)), (3, .bool (decide ((noteS s).2.2.2 = 0)))])], [(B4, Cells 44 [(0, .int .i64 0), (1, .int .i64 0), (2, .int .i64 0), (3, str []), (4, .int .i64 0), (5, .int .i64 0), (6, .int .i64 0), (7, .int .i64 0), (8, str []), (9, .int .i64 0), (10, .slice none 0 0), (11, .slice none 0 0), (12, .bool false), (13, str [])])], [(B2, Cells 44 [(0, .int .i64 0), (1, .int .i64 0), (2, .int .i64 0), (3, str []), (4, .int .i64 0), (5, .int .i64 0), (6, .int .i64 0), (7, .int .i64 0), (8, str []), (9, .int .i64 0), (10, .slice none 0 0), (11, .slice none 0 0), (12, .bool false), (13, str [])])]]) [fun v _ => v = .int .i64 (okv (countS (((wordsS ((noteS s).1)).1).getD 0 []) 9223372036854775807)), fun v _ => v = .agg #[.int .i64 ((parseV (((wordsS ((noteS s).1)).1).getD 1 [])).1.k), .int .i64 ((parseV (((wordsS ((noteS s).1)).1).getD 1 [])).1.n), str ((parseV (((wordsS ((noteS s).1)).1).getD 1 [])).1.s)], fun v _ => v = .pointer (some ⟨B5, 2, none⟩), fun v _ => v = .bool ((noteS s).2.2.1), fun v _ => v = .pointer (some ⟨B5, 1, none⟩), fun v _ => v = str ((noteS s).2.1), fun v _ => v = .pointer (some ⟨B11, 0, none⟩), fun _ _ => True, fun v _ => v = .pointer (some ⟨B11, 1, none⟩), fun _ _ => True, fun v _ => v = .pointer (some ⟨B11, 12, none⟩), fun _ _ => True, fun v _ => v = .pointer (some ⟨B11, 13, none⟩), fun _ _ => True] [] T.mix rfl HE ⟨Heap.le.refl _, HS.drew⟩ rfl (by simp) (AllM.get ⟨fun _ _ _ _ h => h, fun _ _ _ _ h => h, fun _ _ _ _ h => h, fun _ _ _ _ h => h, fun _ _ _ _ h => h, fun _ _ _ _ h => h, fun _ _ _ _ h => h, fun _ _ _ _ h => h, fun _ _ _ _ h => h, fun _ _ _ _ h => h, fun _ _ _ _ h => h, fun _ _ _ _ h => h, fun _ _ _ _ h => h, fun _ _ _ _ h => h, trivial⟩) ⟨?_, ?_, ?_, ?_, ?_, ?_, ?_, ?_, ?_, ?_, ?_, ?_, ?_, ?_, trivial⟩ ?_
        ·intro a w G1 f hcl hfi hon hW HE hp hO; obtain ⟨hl, HS⟩ := hW
         refine o_move HE rfl rfl ?_; clear HE; intro a HE
         exact ⟨_, _, Heap.le.refl _, ⟨hl, HS⟩, fun d hd => (by cases hd; exact HE.get _ _ rfl), HE.defers, rfl⟩
        ·intro a w G1 f hcl hfi hon hW HE hp hO; obtain ⟨hl, HS⟩ := hW
         refine o_ldA HE rfl HS rfl T.a41 (.there (.here .here)) rfl ?_; clear HE; intro a HE
         exact ⟨_, _, Heap.le.refl _, ⟨hl, HS⟩, fun d hd => (by cases hd; exact HE.get _ _ rfl), HE.defers, rfl⟩
        ·intro a w G1 f hcl hfi hon hW HE hp hO; obtain ⟨hl, HS⟩ := hW
         refine o_fld HE rfl rfl T.f97_2 ?_; clear HE; intro a HE
         exact ⟨_, _, Heap.le.refl _, ⟨hl, HS⟩, fun d hd => (by cases hd; exact HE.get _ _ rfl), HE.defers, rfl⟩
        ·intro a w G1 f hcl hfi hon hW HE hp hO; obtain ⟨hl, HS⟩ := hW
         obtain ⟨_, e2, rfl⟩ := hp 2 119 _ (hon 2 rfl) rfl rfl; replace HE := HE.add e2
         refine o_ld HE rfl HS rfl T.s4 (.there (.there (.here .here))) rfl ?_; clear HE; intro a HE
         exact ⟨_, _, Heap.le.refl _, ⟨hl, HS⟩, fun d hd => (by cases hd; exact HE.get _ _ rfl), HE.defers, rfl⟩
        ·intro a w G1 f hcl hfi hon hW HE hp hO; obtain ⟨hl, HS⟩ := hW
         refine o_fld HE rfl rfl T.f97_1 ?_; clear HE; intro a HE
         exact ⟨_, _, Heap.le.refl _, ⟨hl, HS⟩, fun d hd => (by cases hd; exact HE.get _ _ rfl), HE.defers, rfl⟩
        ·intro a w G1 f hcl hfi hon hW HE hp hO; obtain ⟨hl, HS⟩ := hW
         obtain ⟨_, e4, rfl⟩ := hp 4 121 _ (hon 4 rfl) rfl rfl; replace HE := HE.add e4
         refine o_ld HE rfl HS rfl T.s9 (.there (.there (.here .here))) rfl ?_; clear HE; intro a HE
         exact ⟨_, _, Heap.le.refl _, ⟨hl, HS⟩, fun d hd => (by cases hd; exact HE.get _ _ rfl), HE.defers, rfl⟩
        ·intro a w G1 f hcl hfi hon hW HE hp hO; obtain ⟨hl, HS⟩ := hW
         refine o_fld HE rfl rfl T.f44_0 ?_; clear HE; intro a HE
         exact ⟨_, _, Heap.le.refl _, ⟨hl, HS⟩, fun d hd => (by cases hd; exact HE.get _ _ rfl), HE.defers, rfl⟩
        ·intro a w G1 f hcl hfi hon hW HE hp hO; obtain ⟨hl, HS⟩ := hW
         obtain ⟨_, e6, rfl⟩ := hp 6 123 _ (hon 6 rfl) rfl rfl; replace HE := HE.add e6
         obtain ⟨_, e0, rfl⟩ := hp 0 117 _ (hon 0 rfl) rfl rfl; replace HE := HE.add e0
         refine o_st HE HS rfl rfl rfl T.s2 (.here .here) rfl ?_; clear HS; intro w HS
         replace HS := HS.conv (L2 := [(0, _), (1, _), (2, _), (3, _), (4, _), (5, _), (6, _), (7, _), (8, _), (9, _), (10, _), (11, _), (12, _), (13, _)]) (.here .here) ⟨rfl, rfl, rfl, rfl, rfl, rfl, rfl, rfl, rfl, rfl, rfl, rfl, rfl, rfl, trivial⟩
         exact ⟨.bool true, _, Heap.le.refl _, ⟨hl, HS⟩, fun d hd => (by cases hd), HE.defers, trivial⟩
        ·intro a w G1 f hcl hfi hon hW HE hp hO; obtain ⟨hl, HS⟩ := hW
         refine o_fld HE rfl rfl T.f44_1 ?_; clear HE; intro a HE
         exact ⟨_, _, Heap.le.refl _, ⟨hl, HS⟩, fun d hd => (by cases hd; exact HE.get _ _ rfl), HE.defers, rfl⟩
        ·intro a w G1 f hcl hfi hon hW HE hp hO; obtain ⟨hl, HS⟩ := hW
         obtain ⟨_, e8, rfl⟩ := hp 8 124 _ (hon 8 rfl) rfl rfl; replace HE := HE.add e8
         obtain ⟨_, e1, rfl⟩ := hp 1 118 _ (hon 1 rfl) rfl rfl; replace HE := HE.add e1
         refine o_stA HE HS rfl rfl rfl T.a41 (.here .here) rfl ?_; clear HS; intro w HS
         replace HS := HS.conv (L2 := [(0, _), (1, _), (2, _), (3, _), (4, _), (5, _), (6, _), (7, _), (8, _), (9, _), (10, _), (11, _), (12, _), (13, _)]) (.here .here) ⟨rfl, rfl, rfl, rfl, rfl, rfl, rfl, rfl, rfl, rfl, rfl, rfl, rfl, rfl, trivial⟩
         exact ⟨.bool true, _, Heap.le.refl _, ⟨hl, HS⟩, fun d hd => (by cases hd), HE.defers, trivial⟩
        ·intro a w G1 f hcl hfi hon hW HE hp hO; obtain ⟨hl, HS⟩ := hW
         refine o_fld HE rfl rfl T.f44_8 ?_; clear HE; intro a HE
         exact ⟨_, _, Heap.le.refl _, ⟨hl, HS⟩, fun d hd => (by cases hd; exact HE.get _ _ rfl), HE.defers, rfl⟩
        ·intro a w G1 f hcl hfi hon hW HE hp hO; obtain ⟨hl, HS⟩ := hW
         obtain ⟨_, e10, rfl⟩ := hp 10 125 _ (hon 10 rfl) rfl rfl; replace HE := HE.add e10
         obtain ⟨_, e3, rfl⟩ := hp 3 120 _ (hon 3 rfl) rfl rfl; replace HE := HE.add e3
         refine o_st HE HS rfl rfl rfl T.s4 (.here .here) rfl ?_; clear HS; intro w HS
         replace HS := HS.conv (L2 := [(0, _), (1, _), (2, _), (3, _), (4, _), (5, _), (6, _), (7, _), (8, _), (9, _), (10, _), (11, _), (12, _), (13, _)]) (.here .here) ⟨rfl, rfl, rfl, rfl, rfl, rfl, rfl, rfl, rfl, rfl, rfl, rfl, rfl, rfl, trivial⟩
         exact ⟨.bool true, _, Heap.le.refl _, ⟨hl, HS⟩, fun d hd => (by cases hd), HE.defers, trivial⟩
        ·intro a w G1 f hcl hfi hon hW HE hp hO; obtain ⟨hl, HS⟩ := hW
         refine o_fld HE rfl rfl T.f44_9 ?_; clear HE; intro a HE
         exact ⟨_, _, Heap.le.refl _, ⟨hl, HS⟩, fun d hd => (by cases hd; exact HE.get _ _ rfl), HE.defers, rfl⟩
        ·intro a w G1 f hcl hfi hon hW HE hp hO; obtain ⟨hl, HS⟩ := hW
         obtain ⟨_, e12, rfl⟩ := hp 12 126 _ (hon 12 rfl) rfl rfl; replace HE := HE.add e12
         obtain ⟨_, e5, rfl⟩ := hp 5 122 _ (hon 5 rfl) rfl rfl; replace HE := HE.add e5
         refine o_st HE HS rfl rfl rfl T.s9 (.here .here) rfl ?_; clear HS; intro w HS
         replace HS := HS.conv (L2 := [(0, _), (1, _), (2, _), (3, _), (4, _), (5, _), (6, _), (7, _), (8, _), (9, _), (10, _), (11, _), (12, _), (13, _)]) (.here .here) ⟨rfl, rfl, rfl, rfl, rfl, rfl, rfl, rfl, rfl, rfl, rfl, rfl, rfl, rfl, trivial⟩
         exact ⟨.bool true, _, Heap.le.refl _, ⟨hl, HS⟩, fun d hd => (by cases hd), HE.defers, trivial⟩
        clear HE HS; intro a w G54 f hle55 hall HW HE hp; obtain ⟨_, HS⟩ := HW
        have hfw7 := hall 7 (by decide)
        have hfw9 := hall 9 (by decide)
        have hfw11 := hall 11 (by decide)
        have hfw13 := hall 13 (by decide)
        simp only [hfw7, hfw9, hfw11, hfw13, cond_true] at HS
        replace hR4 := hR4.le hle55
        replace hA45 := hA45.le hle55
        clear hp hall
        refine hK52 _ _ ?_; clear hK52
        refine wp_seq_k (fun K hK => ?_); refine wp_region_lit ?_
        refine o_ldA HE rfl HS rfl T.a44 (.here .here) rfl ?_; clear HE; intro a HE
        refine o_stA HE HS rfl rfl rfl T.a44 (.there (.there (.there (.there (.here .here))))) rfl ?_; clear HS; intro w HS
        refine o_assign HE rfl rfl ?_; clear HE; intro a HE
        refine hK _ _ ?_; clear hK K
        refine wp_ret ?_
        show Q .ret _ _
        refine ret hQ HE rfl (HE.resA HS rfl T.a44 (.there (.there (.there (.there (.here .here))))) rfl (HE.res rfl .nil)) ⟨_, _, HS.stop (List.nil_sublist _), rfl, ?_⟩
        have hc0 : erv (C9 ((wordsS (noteS s).1).1.getD 0 [])) = 0 := by simpa [C9] using h19
        have g1 := getD_at (l := (wordsS (noteS s).1).1) (i := 1) (by omega)
        have hc1 : nameE ((wordsS (noteS s).1).1.getD 1 []) = 0 := by simpa using h31
        have g2 := getD_at (l := (wordsS (noteS s).1).1) (i := 2) (by omega)
        have hf0 : invF ((wordsS (noteS s).1).1.drop 3) = 0 := by simpa using h50
        have hev := hxe45 hf0
        subst hev
        have he : parseE s = ({ { invE ((wordsS (noteS s).1).1.drop 3) with time := okv (C9 ((wordsS (noteS s).1).1.getD 0 [])), client := (parseV ((wordsS (noteS s).1).1.getD 1 [])).1, type := 1 } with noted := (noteS s).2.2.1, note := (noteS s).2.1 }, 0) := parseE_yes' hn1 hn2 ((all_inv g0 hc0 g1 hc1 g2 h44).1.trans hf0) ((all_inv g0 hc0 g1 hc1 g2 h44).2)
        rw [he]
        exact ⟨_, _, _, _, rfl, hap45, hA45, Nat.zero_le _, .nil⟩
      ·have h44r := h44; try simp only [zz1, zz2, zz3, zz4, zz5, zz6, zz7, zz8, zz9, zza, zzb] at h44
       refine wp_seq_k (fun K hK => ?_); refine wp_region_lit ?_
       refine o_eqS HE rfl rfl rfl ?_; clear HE; intro a HE
       refine o_assign HE rfl rfl ?_; clear HE; intro a HE
       refine hK _ _ ?_; clear hK K
       refine cond HE rfl (fun h58 => ?_) (fun h58 => ?_)
       ·have h58r := h58; try simp only [zz1, zz2, zz3, zz4, zz5, zz6, zz7, zz8, zz9, zza, zzb] at h58
        refine wp_seq_k (fun K hK => ?_); refine wp_region_lit ?_
        refine o_fld HE rfl rfl T.f44_2 ?_; clear HE; intro a HE
        refine o_st HE HS rfl rfl rfl T.s3 (.here .here) rfl ?_; clear HS; intro w HS
        refine hK _ _ ?_; clear hK K
        refine wp_seq_k (fun K hK => ?_); refine wp_region_lit ?_
        refine o_assign HE rfl rfl ?_; clear HE; intro a HE
        refine hK _ _ ?_; clear hK K
        refine wp_block ?_
        replace HS := HS.conv (L2 := [(0, _), (1, _), (2, _), (3, _), (4, _), (5, _), (6, _), (7, _), (8, _), (9, _), (10, _), (11, _), (12, _), (13, _)]) (.here .here) ⟨rfl, rfl, rfl, rfl, rfl, rfl, rfl, rfl, rfl, rfl, rfl, rfl, rfl, rfl, trivial⟩
        replace HS := HS.conv (L2 := [(0, _), (1, _), (2, _)]) (.there (.here .here)) ⟨rfl, rfl, rfl, trivial⟩
        replace HS := HS.conv (L2 := [(0, _), (1, _), (2, _), (3, _)]) (.there (.there (.here .here))) ⟨rfl, rfl, rfl, rfl, trivial⟩
        replace HS := HS.conv (L2 := [(0, _), (1, _), (2, _), (3, _), (4, _), (5, _), (6, _), (7, _), (8, _), (9, _), (10, _), (11, _), (12, _), (13, _)]) (.there (.there (.there (.here .here)))) ⟨rfl, rfl, rfl, rfl, rfl, rfl, rfl, rfl, rfl, rfl, rfl, rfl, rfl, rfl, trivial⟩
        replace HS := HS.nilChunk
        have oH62 : X.Own kVal 41 G4 none 0 ([] : List Val) [] := X.Own.nil
        refine loop (fun (y : Nat × Int × List Val) a' w' => ∃ (oAB1111_1 : Option Addr) (ocB1111_1 : Nat) (oCB1111_1 : Chunk), ∃ GL63, Heap.le G4 GL63 ∧ St w0 G [] GL63 w' [oCB1111_1, [(B11, Cells 44 [(0, .int .i64 0), (1, .int .i64 0), (2, .int .i64 0), (3, str []), (4, .int .i64 2), (5, .int .i64 0), (6, .int .i64 0), (7, .int .i64 0), (8, str []), (9, .int .i64 0), (10, .slice none 0 0), (11, .slice oAB1111_1 ((y.2.2).length) ocB1111_1), (12, .bool false), (13, str [])])], [(B10, Cells 41 [(0, .int .i64 ((parseV (((wordsS ((noteS s).1)).1).getD 1 [])).1.k)), (1, .int .i64 ((parseV (((wordsS ((noteS s).1)).1).getD 1 [])).1.n)), (2, str ((parseV (((wordsS ((noteS s).1)).1).getD 1 [])).1.s))])], [(B5, Cells 97 [(0, str ((noteS s).1)), (1, str ((noteS s).2.1)), (2, .bool ((noteS s).2.2.1)), (3, .bool (decide ((noteS s).2.2.2 = 0)))])], [(B4, Cells 44 [(0, .int .i64 0), (1, .int .i64 0), (2, .int .i64 0), (3, str []), (4, .int .i64 0), (5, .int .i64 0), (6, .int .i64 0), (7, .int .i64 0), (8, str []), (9, .int .i64 0), (10, .slice none 0 0), (11, .slice none 0 0), (12, .bool false), (13, str [])])], [(B2, Cells 44 [(0, .int .i64 0), (1, .int .i64 0), (2, .int .i64 0), (3, str []), (4, .int .i64 0), (5, .int .i64 0), (6, .int .i64 0), (7, .int .i64 0), (8, str []), (9, .int .i64 0), (10, .slice none 0 0), (11, .slice none 0 0), (12, .bool false), (13, str [])])]] ∧ Env a' 128 [] [(2, .pointer (some ⟨B2, 0, none⟩)), (4, .pointer (some ⟨B4, 0, none⟩)), (5, .pointer (some ⟨B5, 0, none⟩)), (6, .slice (some ⟨eb14, eo14, none⟩) ((wordsS ((noteS s).1)).1.length) vc4), (8, .int .i64 (okv (countS (((wordsS ((noteS s).1)).1).getD 0 []) 9223372036854775807))), (9, .int .i64 y.2.1), (10, .pointer (some ⟨B10, 0, none⟩)), (11, .pointer (some ⟨B11, 0, none⟩)), (12, .int .i64 ((y.1 : Nat) : Int))] ∧ X.Own kVal 41 GL63 oAB1111_1 ocB1111_1 (y.2.2) oCB1111_1 ∧ (3 ≤ y.1 ∧ y.1 ≤ (wordsS (noteS s).1).1.length ∧ y.2.2.length ≤ y.1 ∧ outL ((wordsS (noteS s).1).1.drop 3) 0 = (y.2.2 ++ (outL ((wordsS (noteS s).1).1.drop y.1) y.2.1).1, (outL ((wordsS (noteS s).1).1.drop y.1) y.2.1).2))) (fun (y : Nat × Int × List Val) => (wordsS (noteS s).1).1.length - y.1) (3, nameE (((wordsS ((noteS s).1)).1).getD 1 []), []) ⟨_, _, _, _, Heap.le.refl _, HS, HE.cut ⟨rfl, rfl, rfl, rfl, rfl, rfl, rfl, rfl, rfl, trivial⟩, X.Own.nil (K := kVal), ⟨Nat.le_refl _, by dsimp only; omega, Nat.zero_le _, by have hc9 : nameE (((wordsS ((noteS s).1)).1).getD 1 []) = 0 := (by simpa using h31); dsimp only; rw [hc9]; rfl⟩⟩ ?_
        clear HE HS; intro y a w ⟨oAB1111_1, ocB1111_1, oCB1111_1, GL63, hle64, HS, HE, oHB1111_1, ⟨hy1, hy2, hy3, hy4⟩⟩
        replace hR4 := hR4.le hle64
        refine wp_seq_k (fun K66 hK65 => ?_)
        refine wp_seq_k (fun K hK => ?_); refine wp_region_lit ?_
        refine o_move HE rfl rfl ?_; clear HE; intro a HE
        refine o_move HE rfl rfl ?_; clear HE; intro a HE
        refine o_lenL HE rfl rfl Tryd.underlying29 ?_; clear HE; intro a HE
        refine o_lss HE rfl rfl rfl ?_; clear HE; intro a HE
        refine o_move HE rfl rfl ?_; clear HE; intro a HE
        refine cutL 3 (fun a' w' => w = w' ∧ Env a' 128 [] [(83, .bool ((decide (((y.1 : Nat) : Int) < ((wordsS ((noteS s).1)).1.length : Int))) && (decide (y.2.1 = 0)))), (2, .pointer (some ⟨B2, 0, none⟩)), (4, .pointer (some ⟨B4, 0, none⟩)), (5, .pointer (some ⟨B5, 0, none⟩)), (6, .slice (some ⟨eb14, eo14, none⟩) ((wordsS ((noteS s).1)).1.length) vc4), (8, .int .i64 (okv (countS (((wordsS ((noteS s).1)).1).getD 0 []) 9223372036854775807))), (9, .int .i64 y.2.1), (10, .pointer (some ⟨B10, 0, none⟩)), (11, .pointer (some ⟨B11, 0, none⟩)), (12, .int .i64 ((y.1 : Nat) : Int))]) ?_ ?_
        ·refine (Bool.eq_false_or_eq_true (decide (((y.1 : Nat) : Int) < ((wordsS ((noteS s).1)).1.length : Int)))).elim (fun hb67 => ?_) (fun hb67 => ?_)
         ·skip
          have hk68 := hb67; try simp only [zz1, zz2, zz3, zz4, zz5, zz7, zz8, zz9, zza, zzb] at hk68
          refine op_on HE rfl rfl hb67 ?_
          refine o_move HE rfl rfl ?_; clear HE; intro a HE
          refine op_on HE rfl rfl hb67 ?_
          refine o_eqI HE rfl rfl rfl ?_; clear HE; intro a HE
          refine o_pick_t HE rfl rfl hb67 rfl ?_; clear HE; intro a HE
          exact ⟨rfl, HE.cut ⟨by rw [hb67]; rfl, rfl, rfl, rfl, rfl, rfl, rfl, rfl, rfl, rfl, trivial⟩⟩
         ·skip
          have hk69 := hb67; try simp only [zz1, zz2, zz3, zz4, zz5, zz7, zz8, zz9, zza, zzb] at hk69
          refine g_off HE rfl rfl rfl hb67 ?_; clear HE; intro a HE
          refine g_off HE rfl rfl rfl hb67 ?_; clear HE; intro a HE
          refine o_pick_f HE rfl rfl hb67 rfl ?_; clear HE; intro a HE
          exact ⟨rfl, HE.cut ⟨by rw [hb67]; rfl, rfl, rfl, rfl, rfl, rfl, rfl, rfl, rfl, rfl, trivial⟩⟩
        clear HE; rintro a _ ⟨rfl, HE⟩
        refine hK _ _ ?_; clear hK K
        refine cond HE rfl (fun h71 => ?_) (fun h71 => ?_)
        ·have h71r := h71; try simp only [zz1, zz2, zz3, zz4, zz5, zz6, zz7, zz8, zz9, zza, zzb] at h71
         refine wp_skip ?_
         refine hK65 _ _ ?_; clear hK65
         refine wp_seq_k (fun K73 hK72 => ?_)
         refine wp_block ?_
         refine wp_seq_k (fun K hK => ?_); refine wp_region_lit ?_
         refine o_move HE rfl rfl ?_; clear HE; intro a HE
         refine o_move HE rfl rfl ?_; clear HE; intro a HE
         have hi74 : ((y.1 : Nat) : Int).toNat < ((wordsS ((noteS s).1)).1).length := by omega
         obtain ⟨eb74, eo74, hA74, el74⟩ := Rd.at hR4 (List.getElem?_eq_getElem hi74); cases hA74
         rw [show ((wordsS ((noteS s).1)).1)[((y.1 : Nat) : Int).toNat] = (((wordsS ((noteS s).1)).1).getD y.1 []) from getD_get (i := y.1) hi74 _] at el74
         have el74 := kof_open (enc := fun l => str l) el74
         refine o_ixL HE rfl rfl rfl T.l29 ⟨by omega, by omega⟩ ?_; clear HE; intro a HE
         refine o_ldI HE rfl HS rfl T.s9 el74 (j := 0) rfl rfl ?_; clear HE; intro a HE
         have hb9 := hlsw _ (getD_mem (l := (wordsS (noteS s).1).1) (i := y.1) (by omega))
         refine o_callP HE rfl HS rfl rfl T.g53 (c_ParseV (((wordsS ((noteS s).1)).1).getD y.1 []) _ _ HS.sub (by first | omega | (simp; done) | (simp; omega))) ?_
         clear HE HS; rintro _ w a HS rfl HE
         refine o_move HE rfl rfl ?_; clear HE; intro a HE
         refine o_extract HE rfl rfl rfl ?_; clear HE; intro a HE
         refine o_extract HE rfl rfl rfl ?_; clear HE; intro a HE
         refine o_allocL [(0, _), (1, _), (2, _)] HE rfl HS T.z41 ⟨rfl, rfl, rfl, trivial⟩ ?_; clear HE HS; intro B13 w a HS HE
         refine o_stA HE HS rfl rfl rfl T.a41 (.here .here) rfl ?_; clear HS; intro w HS
         refine o_assign HE rfl rfl ?_; clear HE; intro a HE
         refine hK _ _ ?_; clear hK K
         refine wp_seq_k (fun K hK => ?_); refine wp_region_lit ?_
         refine o_fld HE rfl rfl T.f44_7 ?_; clear HE; intro a HE
         refine o_ld HE rfl HS rfl T.s42 (.there (.there (.here .here))) rfl ?_; clear HE; intro a HE
         refine o_ldA HE rfl HS rfl T.a41 (.here .here) rfl ?_; clear HE; intro a HE
         refine o_buildSl (cs := #[.int .i64 ((parseV (((wordsS ((noteS s).1)).1).getD y.1 [])).1.k), .int .i64 ((parseV (((wordsS ((noteS s).1)).1).getD y.1 [])).1.n), str ((parseV (((wordsS ((noteS s).1)).1).getD y.1 [])).1.s)]) [(0, _), (1, _), (2, _)] HE rfl HS rfl T.l42 (by kernel_rfl) ⟨rfl, rfl, rfl, trivial⟩ ?_; clear HE HS; intro B97 w a HS HE
         replace HS := HS.conv (L2 := [(0, _), (1, _), (2, _)]) (.there (.here .here)) ⟨rfl, rfl, rfl, trivial⟩
         refine o_appendL (K := kVal) (ys := [(parseV (((wordsS ((noteS s).1)).1).getD y.1 [])).1]) (n := 3) HE rfl HS (.there (.there .here)) oHB1111_1 rfl rfl T.p42 (.here .here) rfl ⟨rfl, rfl⟩ rfl rfl (by (simp; omega)) (by (simp; omega)) ?_
         clear HE HS; intro oA76 oc76 oC76 w a HS oH76 HE
         refine o_fld HE rfl rfl T.f44_7 ?_; clear HE; intro a HE
         refine o_st HE HS rfl rfl rfl T.s42 (.there (.there (.there (.here .here)))) rfl ?_; clear HS; intro w HS
         refine hK _ _ ?_; clear hK K
         refine wp_region_lit ?_
         refine o_move HE rfl rfl ?_; clear HE; intro a HE
         refine o_assign HE rfl rfl ?_; clear HE; intro a HE
         refine hK72 _ _ ?_; clear hK72
         refine wp_region_lit ?_
         refine o_move HE rfl rfl ?_; clear HE; intro a HE
         refine o_add HE rfl rfl rfl (by omega) ?_; clear HE; intro a HE
         refine o_assign HE rfl rfl ?_; clear HE; intro a HE
         replace HS := HS.drop (M' := [_, _, _, _, _, _]) (sub_keep (sub_drop (sub_drop (sub_keep (sub_keep (sub_keep (sub_keep (sub_keep sub_nil))))))))
         replace HS := HS.conv (L2 := [(0, _), (1, _), (2, _), (3, _), (4, _), (5, _), (6, _), (7, _), (8, _), (9, _), (10, _), (11, _), (12, _), (13, _)]) (.there (.here .here)) ⟨rfl, rfl, rfl, rfl, rfl, rfl, rfl, rfl, rfl, rfl, rfl, rfl, rfl, rfl, trivial⟩
         have g9 : (wordsS (noteS s).1).1[y.1]? = some ((wordsS (noteS s).1).1.getD y.1 []) := getD_at (by omega)
         have hnx := outL_app g9 (by have h9 := hy4; rw [show y.2.1 = 0 by omega] at h9; exact h9)
         exact ⟨(y.1 + 1, (parseV (((wordsS ((noteS s).1)).1).getD y.1 [])).2, y.2.2 ++ [(parseV (((wordsS ((noteS s).1)).1).getD y.1 [])).1]), ⟨_, _, _, _, hle64, HS, HE.cut ⟨rfl, rfl, rfl, rfl, rfl, rfl, rfl, rfl, rfl, trivial⟩, oH76, ⟨by dsimp only; omega, by dsimp only; omega, by simp; omega, hnx⟩⟩, by show (wordsS (noteS s).1).1.length - (y.1 + 1) < _; omega⟩
        ·have h71r := h71; try simp only [zz1, zz2, zz3, zz4, zz5, zz6, zz7, zz8, zz9, zza, zzb] at h71
         refine wp_exit ?_
         refine hK39 _ _ ?_; clear hK39
         refine wp_seq_k (fun K79 hK78 => ?_)
         refine wp_seq_k (fun K hK => ?_); refine wp_region_lit ?_
         refine o_move HE rfl rfl ?_; clear HE; intro a HE
         refine o_neI HE rfl rfl rfl ?_; clear HE; intro a HE
         refine hK _ _ ?_; clear hK K
         refine cond HE rfl (fun h81 => ?_) (fun h81 => ?_)
         ·have h81r := h81; try simp only [zz1, zz2, zz3, zz4, zz5, zz6, zz7, zz8, zz9, zza, zzb] at h81
          refine wp_seq_k (fun K hK => ?_); refine wp_region_lit ?_
          refine o_ldA HE rfl HS rfl T.a44 (.there (.there (.there (.there (.here .here))))) rfl ?_; clear HE; intro a HE
          refine o_move HE rfl rfl ?_; clear HE; intro a HE
          refine o_stA HE HS rfl rfl rfl T.a44 (.there (.there (.there (.there (.there (.here .here)))))) rfl ?_; clear HS; intro w HS
          refine o_assign HE rfl rfl ?_; clear HE; intro a HE
          refine hK _ _ ?_; clear hK K
          refine wp_ret ?_
          show Q .ret _ _
          refine ret hQ HE rfl (HE.resA HS rfl T.a44 (.there (.there (.there (.there (.there (.here .here)))))) rfl (HE.res rfl .nil)) ⟨_, _, HS.stop (List.nil_sublist _), rfl, ?_⟩
          have hc0 : erv (C9 ((wordsS (noteS s).1).1.getD 0 [])) = 0 := by simpa [C9] using h19
          have g1 := getD_at (l := (wordsS (noteS s).1).1) (i := 1) (by omega)
          have hc1 : nameE ((wordsS (noteS s).1).1.getD 1 []) = 0 := by simpa using h31
          have g2 := getD_at (l := (wordsS (noteS s).1).1) (i := 2) (by omega)
          have hend : outL ((wordsS (noteS s).1).1.drop y.1) y.2.1 = ([], (wordsS (noteS s).1).1.drop y.1, y.2.1) := outL_end (fun hh => by rcases h71 with h9 | h9; exact hh.2 (drop_end (by omega)); exact h9 hh.1)
          have hoo := hy4
          rw [hend] at hoo
          have hcode : (allS (wordsS (noteS s).1).1).2.2 = y.2.1 := by
           rw [(all_ok g0 hc0 g1 hc1 g2 h58).1, hoo]
           dsimp only
           split
           ·exact faultS_stuck h81
           ·rfl
          have he : parseE s = (E0, y.2.1) := parseE_err' hn1 hn2 (hcode) (h81)
          rw [he]
          exact ⟨_, _, _, _, rfl, Nat.zero_le _, .nil, Nat.zero_le _, .nil⟩
         ·have h81r := h81; try simp only [zz1, zz2, zz3, zz4, zz5, zz6, zz7, zz8, zz9, zza, zzb] at h81
          refine wp_skip ?_
          refine hK78 _ _ ?_; clear hK78
          refine wp_seq_k (fun K84 hK83 => ?_)
          replace HE := HE.cut (L' := [(2, .pointer (some ⟨B2, 0, none⟩)), (4, .pointer (some ⟨B4, 0, none⟩)), (5, .pointer (some ⟨B5, 0, none⟩)), (6, .slice (some ⟨eb14, eo14, none⟩) ((wordsS ((noteS s).1)).1.length) vc4), (8, .int .i64 (okv (countS (((wordsS ((noteS s).1)).1).getD 0 []) 9223372036854775807))), (9, .int .i64 y.2.1), (10, .pointer (some ⟨B10, 0, none⟩)), (11, .pointer (some ⟨B11, 0, none⟩)), (12, .int .i64 ((y.1 : Nat) : Int)), (83, .bool ((decide (((y.1 : Nat) : Int) < ((wordsS ((noteS s).1)).1.length : Int))) && (decide (y.2.1 = 0)))), (113, .int .i64 y.2.1), (114, .bool (!decide (y.2.1 = 0)))]) ⟨rfl, rfl, rfl, rfl, rfl, rfl, rfl, rfl, rfl, rfl, rfl, rfl, trivial⟩
          refine drawnF (fun f G' w => Heap.le GL63 G' ∧ St w0 G [] G' w [oCB1111_1, [(B11, Cells 44 [(0, bif f 7 then .int .i64 (okv (countS (((wordsS ((noteS s).1)).1).getD 0 []) 9223372036854775807)) else .int .i64 0), (1, bif f 9 then .int .i64 ((parseV (((wordsS ((noteS s).1)).1).getD 1 [])).1.k) else .int .i64 0), (2, bif f 9 then .int .i64 ((parseV (((wordsS ((noteS s).1)).1).getD 1 [])).1.n) else .int .i64 0), (3, bif f 9 then str ((parseV (((wordsS ((noteS s).1)).1).getD 1 [])).1.s) else str []), (4, .int .i64 2), (5, .int .i64 0), (6, .int .i64 0), (7, .int .i64 0), (8, str []), (9, .int .i64 0), (10, .slice none 0 0), (11, .slice oAB1111_1 ((y.2.2).length) ocB1111_1), (12, bif f 11 then .bool ((noteS s).2.2.1) else .bool false), (13, bif f 13 then str ((noteS s).2.1) else str [])])], [(B10, Cells 41 [(0, .int .i64 ((parseV (((wordsS ((noteS s).1)).1).getD 1 [])).1.k)), (1, .int .i64 ((parseV (((wordsS ((noteS s).1)).1).getD 1 [])).1.n)), (2, str ((parseV (((wordsS ((noteS s).1)).1).getD 1 [])).1.s))])], [(B5, Cells 97 [(0, str ((noteS s).1)), (1, str ((noteS s).2.1)), (2, .bool ((noteS s).2.2.1)), (3, .bool (decide ((noteS s).2.2.2 = 0)))])], [(B4, Cells 44 [(0, .int .i64 0), (1, .int .i64 0), (2, .int .i64 0), (3, str []), (4, .int .i64 0), (5, .int .i64 0), (6, .int .i64 0), (7, .int .i64 0), (8, str []), (9, .int .i64 0), (10, .slice none 0 0), (11, .slice none 0 0), (12, .bool false), (13, str [])])], [(B2, Cells 44 [(0, .int .i64 0), (1, .int .i64 0), (2, .int .i64 0), (3, str []), (4, .int .i64 0), (5, .int .i64 0), (6, .int .i64 0), (7, .int .i64 0), (8, str []), (9, .int .i64 0), (10, .slice none 0 0), (11, .slice none 0 0), (12, .bool false), (13, str [])])]]) [fun v _ => v = .int .i64 (okv (countS (((wordsS ((noteS s).1)).1).getD 0 []) 9223372036854775807)), fun v _ => v = .agg #[.int .i64 ((parseV (((wordsS ((noteS s).1)).1).getD 1 [])).1.k), .int .i64 ((parseV (((wordsS ((noteS s).1)).1).getD 1 [])).1.n), str ((parseV (((wordsS ((noteS s).1)).1).getD 1 [])).1.s)], fun v _ => v = .pointer (some ⟨B5, 2, none⟩), fun v _ => v = .bool ((noteS s).2.2.1), fun v _ => v = .pointer (some ⟨B5, 1, none⟩), fun v _ => v = str ((noteS s).2.1), fun v _ => v = .pointer (some ⟨B11, 0, none⟩), fun _ _ => True, fun v _ => v = .pointer (some ⟨B11, 1, none⟩), fun _ _ => True, fun v _ => v = .pointer (some ⟨B11, 12, none⟩), fun _ _ => True, fun v _ => v = .pointer (some ⟨B11, 13, none⟩), fun _ _ => True] [] T.mix rfl HE ⟨Heap.le.refl _, HS.drew⟩ rfl (by simp) (AllM.get ⟨fun _ _ _ _ h => h, fun _ _ _ _ h => h, fun _ _ _ _ h => h, fun _ _ _ _ h => h, fun _ _ _ _ h => h, fun _ _ _ _ h => h, fun _ _ _ _ h => h, fun _ _ _ _ h => h, fun _ _ _ _ h => h, fun _ _ _ _ h => h, fun _ _ _ _ h => h, fun _ _ _ _ h => h, fun _ _ _ _ h => h, fun _ _ _ _ h => h, trivial⟩) ⟨?_, ?_, ?_, ?_, ?_, ?_, ?_, ?_, ?_, ?_, ?_, ?_, ?_, ?_, trivial⟩ ?_
          ·intro a w G1 f hcl hfi hon hW HE hp hO; obtain ⟨hl, HS⟩ := hW
           refine o_move HE rfl rfl ?_; clear HE; intro a HE
           exact ⟨_, _, Heap.le.refl _, ⟨hl, HS⟩, fun d hd => (by cases hd; exact HE.get _ _ rfl), HE.defers, rfl⟩
          ·intro a w G1 f hcl hfi hon hW HE hp hO; obtain ⟨hl, HS⟩ := hW
           refine o_ldA HE rfl HS rfl T.a41 (.there (.there (.here .here))) rfl ?_; clear HE; intro a HE
           exact ⟨_, _, Heap.le.refl _, ⟨hl, HS⟩, fun d hd => (by cases hd; exact HE.get _ _ rfl), HE.defers, rfl⟩
          ·intro a w G1 f hcl hfi hon hW HE hp hO; obtain ⟨hl, HS⟩ := hW
           refine o_fld HE rfl rfl T.f97_2 ?_; clear HE; intro a HE
           exact ⟨_, _, Heap.le.refl _, ⟨hl, HS⟩, fun d hd => (by cases hd; exact HE.get _ _ rfl), HE.defers, rfl⟩
          ·intro a w G1 f hcl hfi hon hW HE hp hO; obtain ⟨hl, HS⟩ := hW
           obtain ⟨_, e2, rfl⟩ := hp 2 119 _ (hon 2 rfl) rfl rfl; replace HE := HE.add e2
           refine o_ld HE rfl HS rfl T.s4 (.there (.there (.there (.here .here)))) rfl ?_; clear HE; intro a HE
           exact ⟨_, _, Heap.le.refl _, ⟨hl, HS⟩, fun d hd => (by cases hd; exact HE.get _ _ rfl), HE.defers, rfl⟩
          ·intro a w G1 f hcl hfi hon hW HE hp hO; obtain ⟨hl, HS⟩ := hW
           refine o_fld HE rfl rfl T.f97_1 ?_; clear HE; intro a HE
           exact ⟨_, _, Heap.le.refl _, ⟨hl, HS⟩, fun d hd => (by cases hd; exact HE.get _ _ rfl), HE.defers, rfl⟩
          ·intro a w G1 f hcl hfi hon hW HE hp hO; obtain ⟨hl, HS⟩ := hW
           obtain ⟨_, e4, rfl⟩ := hp 4 121 _ (hon 4 rfl) rfl rfl; replace HE := HE.add e4
           refine o_ld HE rfl HS rfl T.s9 (.there (.there (.there (.here .here)))) rfl ?_; clear HE; intro a HE
           exact ⟨_, _, Heap.le.refl _, ⟨hl, HS⟩, fun d hd => (by cases hd; exact HE.get _ _ rfl), HE.defers, rfl⟩
          ·intro a w G1 f hcl hfi hon hW HE hp hO; obtain ⟨hl, HS⟩ := hW
           refine o_fld HE rfl rfl T.f44_0 ?_; clear HE; intro a HE
           exact ⟨_, _, Heap.le.refl _, ⟨hl, HS⟩, fun d hd => (by cases hd; exact HE.get _ _ rfl), HE.defers, rfl⟩
          ·intro a w G1 f hcl hfi hon hW HE hp hO; obtain ⟨hl, HS⟩ := hW
           obtain ⟨_, e6, rfl⟩ := hp 6 123 _ (hon 6 rfl) rfl rfl; replace HE := HE.add e6
           obtain ⟨_, e0, rfl⟩ := hp 0 117 _ (hon 0 rfl) rfl rfl; replace HE := HE.add e0
           refine o_st HE HS rfl rfl rfl T.s2 (.there (.here .here)) rfl ?_; clear HS; intro w HS
           replace HS := HS.conv (L2 := [(0, _), (1, _), (2, _), (3, _), (4, _), (5, _), (6, _), (7, _), (8, _), (9, _), (10, _), (11, _), (12, _), (13, _)]) (.there (.here .here)) ⟨rfl, rfl, rfl, rfl, rfl, rfl, rfl, rfl, rfl, rfl, rfl, rfl, rfl, rfl, trivial⟩
           exact ⟨.bool true, _, Heap.le.refl _, ⟨hl, HS⟩, fun d hd => (by cases hd), HE.defers, trivial⟩
          ·intro a w G1 f hcl hfi hon hW HE hp hO; obtain ⟨hl, HS⟩ := hW
           refine o_fld HE rfl rfl T.f44_1 ?_; clear HE; intro a HE
           exact ⟨_, _, Heap.le.refl _, ⟨hl, HS⟩, fun d hd => (by cases hd; exact HE.get _ _ rfl), HE.defers, rfl⟩
          ·intro a w G1 f hcl hfi hon hW HE hp hO; obtain ⟨hl, HS⟩ := hW
           obtain ⟨_, e8, rfl⟩ := hp 8 124 _ (hon 8 rfl) rfl rfl; replace HE := HE.add e8
           obtain ⟨_, e1, rfl⟩ := hp 1 118 _ (hon 1 rfl) rfl rfl; replace HE := HE.add e1
           refine o_stA HE HS rfl rfl rfl T.a41 (.there (.here .here)) rfl ?_; clear HS; intro w HS
           replace HS := HS.conv (L2 := [(0, _), (1, _), (2, _), (3, _), (4, _), (5, _), (6, _), (7, _), (8, _), (9, _), (10, _), (11, _), (12, _), (13, _)]) (.there (.here .here)) ⟨rfl, rfl, rfl, rfl, rfl, rfl, rfl, rfl, rfl, rfl, rfl, rfl, rfl, rfl, trivial⟩
           exact ⟨.bool true, _, Heap.le.refl _, ⟨hl, HS⟩, fun d hd => (by cases hd), HE.defers, trivial⟩
          ·intro a w G1 f hcl hfi hon hW HE hp hO; obtain ⟨hl, HS⟩ := hW
           refine o_fld HE rfl rfl T.f44_8 ?_; clear HE; intro a HE
           exact ⟨_, _, Heap.le.refl _, ⟨hl, HS⟩, fun d hd => (by cases hd; exact HE.get _ _ rfl), HE.defers, rfl⟩
          ·intro a w G1 f hcl hfi hon hW HE hp hO; obtain ⟨hl, HS⟩ := hW
           obtain ⟨_, e10, rfl⟩ := hp 10 125 _ (hon 10 rfl) rfl rfl; replace HE := HE.add e10
           obtain ⟨_, e3, rfl⟩ := hp 3 120 _ (hon 3 rfl) rfl rfl; replace HE := HE.add e3
           refine o_st HE HS rfl rfl rfl T.s4 (.there (.here .here)) rfl ?_; clear HS; intro w HS
           replace HS := HS.conv (L2 := [(0, _), (1, _), (2, _), (3, _), (4, _), (5, _), (6, _), (7, _), (8, _), (9, _), (10, _), (11, _), (12, _), (13, _)]) (.there (.here .here)) ⟨rfl, rfl, rfl, rfl, rfl, rfl, rfl, rfl, rfl, rfl, rfl, rfl, rfl, rfl, trivial⟩
           exact ⟨.bool true, _, Heap.le.refl _, ⟨hl, HS⟩, fun d hd => (by cases hd), HE.defers, trivial⟩
          ·intro a w G1 f hcl hfi hon hW HE hp hO; obtain ⟨hl, HS⟩ := hW
           refine o_fld HE rfl rfl T.f44_9 ?_; clear HE; intro a HE
           exact ⟨_, _, Heap.le.refl _, ⟨hl, HS⟩, fun d hd => (by cases hd; exact HE.get _ _ rfl), HE.defers, rfl⟩
          ·intro a w G1 f hcl hfi hon hW HE hp hO; obtain ⟨hl, HS⟩ := hW
           obtain ⟨_, e12, rfl⟩ := hp 12 126 _ (hon 12 rfl) rfl rfl; replace HE := HE.add e12
           obtain ⟨_, e5, rfl⟩ := hp 5 122 _ (hon 5 rfl) rfl rfl; replace HE := HE.add e5
           refine o_st HE HS rfl rfl rfl T.s9 (.there (.here .here)) rfl ?_; clear HS; intro w HS
           replace HS := HS.conv (L2 := [(0, _), (1, _), (2, _), (3, _), (4, _), (5, _), (6, _), (7, _), (8, _), (9, _), (10, _), (11, _), (12, _), (13, _)]) (.there (.here .here)) ⟨rfl, rfl, rfl, rfl, rfl, rfl, rfl, rfl, rfl, rfl, rfl, rfl, rfl, rfl, trivial⟩
           exact ⟨.bool true, _, Heap.le.refl _, ⟨hl, HS⟩, fun d hd => (by cases hd), HE.defers, trivial⟩
          clear HE HS; intro a w G85 f hle86 hall HW HE hp; obtain ⟨_, HS⟩ := HW
          have hfw7 := hall 7 (by decide)
          have hfw9 := hall 9 (by decide)
          have hfw11 := hall 11 (by decide)
          have hfw13 := hall 13 (by decide)
          simp only [hfw7, hfw9, hfw11, hfw13, cond_true] at HS
          replace hR4 := hR4.le hle86
          replace oHB1111_1 := oHB1111_1.le hle86
          clear hp hall
          refine hK83 _ _ ?_; clear hK83
          refine wp_seq_k (fun K hK => ?_); refine wp_region_lit ?_
          refine o_ldA HE rfl HS rfl T.a44 (.there (.here .here)) rfl ?_; clear HE; intro a HE
          refine o_stA HE HS rfl rfl rfl T.a44 (.there (.there (.there (.there (.there (.here .here)))))) rfl ?_; clear HS; intro w HS
          refine o_assign HE rfl rfl ?_; clear HE; intro a HE
          refine hK _ _ ?_; clear hK K
          refine wp_ret ?_
          have hcphR89 := oHB1111_1.cap
          obtain ⟨G88, hle90, HS', hR89⟩ := X.Own.still HS .here oHB1111_1; clear HS; have HS := HS'; clear HS'
          replace hR4 := hR4.le hle90
          replace oHB1111_1 := oHB1111_1.le hle90
          show Q .ret _ _
          refine ret hQ HE rfl (HE.resA HS rfl T.a44 (.there (.there (.there (.there (.here .here))))) rfl (HE.res rfl .nil)) ⟨_, _, HS.stop (List.nil_sublist _), rfl, ?_⟩
          have hc0 : erv (C9 ((wordsS (noteS s).1).1.getD 0 [])) = 0 := by simpa [C9] using h19
          have g1 := getD_at (l := (wordsS (noteS s).1).1) (i := 1) (by omega)
          have hc1 : nameE ((wordsS (noteS s).1).1.getD 1 []) = 0 := by simpa using h31
          have g2 := getD_at (l := (wordsS (noteS s).1).1) (i := 2) (by omega)
          have hend : outL ((wordsS (noteS s).1).1.drop y.1) y.2.1 = ([], (wordsS (noteS s).1).1.drop y.1, y.2.1) := outL_end (fun hh => by rcases h71 with h9 | h9; exact hh.2 (drop_end (by omega)); exact h9 hh.1)
          have hoo := hy4
          rw [hend] at hoo
          have hy0 : y.2.1 = 0 := by simpa using h81
          have hy9 : (wordsS (noteS s).1).1.length ≤ y.1 := by rcases h71 with h9 | h9 <;> omega
          rw [hy0, drop_end hy9] at hoo
          have hcode : (allS (wordsS (noteS s).1).1).2.2 = 0 := by rw [(all_ok g0 hc0 g1 hc1 g2 h58).1, hoo]; rfl
          have hev : (allS (wordsS (noteS s).1).1).1 = (⟨okv (C9 ((wordsS (noteS s).1).1.getD 0 [])), (parseV ((wordsS (noteS s).1).1.getD 1 [])).1, 2, 0, ⟨0, 0, []⟩, 0, [], y.2.2, false, []⟩ : Evt) := by rw [(all_ok g0 hc0 g1 hc1 g2 h58).2, hoo]; simp
          have he : parseE s = ({ (⟨okv (C9 ((wordsS (noteS s).1).1.getD 0 [])), (parseV ((wordsS (noteS s).1).1.getD 1 [])).1, 2, 0, ⟨0, 0, []⟩, 0, [], y.2.2, false, []⟩ : Evt) with noted := (noteS s).2.2.1, note := (noteS s).2.1 }, 0) := parseE_yes' hn1 hn2 (hcode) (hev)
          rw [he]
          exact ⟨_, _, _, _, rfl, Nat.zero_le _, .nil, hcphR89, hR89⟩
       ·have h58r := h58; try simp only [zz1, zz2, zz3, zz4, zz5, zz6, zz7, zz8, zz9, zza, zzb] at h58
        refine wp_seq_k (fun K92 hK91 => ?_)
        refine wp_seq_k (fun K hK => ?_); refine wp_region_lit ?_
        refine o_eqS HE rfl rfl rfl ?_; clear HE; intro a HE
        refine o_assign HE rfl rfl ?_; clear HE; intro a HE
        refine hK _ _ ?_; clear hK K
        refine cond HE rfl (fun h94 => ?_) (fun h94 => ?_)
        ·have h94r := h94; try simp only [zz1, zz2, zz3, zz4, zz5, zz6, zz7, zz8, zz9, zza, zzb] at h94
         refine wp_skip ?_
         refine hK91 _ _ ?_; clear hK91
         refine cond HE rfl (fun h95 => ?_) (fun h95 => ?_)
         ·have h95r := h95; try simp only [zz1, zz2, zz3, zz4, zz5, zz6, zz7, zz8, zz9, zza, zzb] at h95
          refine wp_seq_k (fun K hK => ?_); refine wp_region_lit ?_
          refine o_fld HE rfl rfl T.f44_2 ?_; clear HE; intro a HE
          refine o_st HE HS rfl rfl rfl T.s3 (.here .here) rfl ?_; clear HS; intro w HS
          refine hK _ _ ?_; clear hK K
          refine wp_seq_k (fun K98 hK97 => ?_)
          refine wp_seq_k (fun K hK => ?_); refine wp_region_lit ?_
          refine o_move HE rfl rfl ?_; clear HE; intro a HE
          refine o_ixL HE rfl rfl rfl T.l29 ⟨by omega, by omega⟩ ?_; clear HE; intro a HE
          refine o_ldI HE rfl HS rfl T.s9 el41 (j := 0) rfl rfl ?_; clear HE; intro a HE
          refine o_eqS HE rfl rfl rfl ?_; clear HE; intro a HE
          refine hK _ _ ?_; clear hK K
          refine cond HE rfl (fun h100 => ?_) (fun h100 => ?_)
          ·have h100r := h100; try simp only [zz1, zz2, zz3, zz4, zz5, zz6, zz7, zz8, zz9, zza, zzb] at h100
           refine wp_region_lit ?_
           refine o_fld HE rfl rfl T.f44_2 ?_; clear HE; intro a HE
           refine o_st HE HS rfl rfl rfl T.s3 (.here .here) rfl ?_; clear HS; intro w HS
           refine hK97 _ _ ?_; clear hK97
           refine wp_seq_k (fun K hK => ?_); refine wp_region_lit ?_
           refine o_move HE rfl rfl ?_; clear HE; intro a HE
           refine o_lenL HE rfl rfl Tryd.underlying29 ?_; clear HE; intro a HE
           refine o_gtr HE rfl rfl rfl ?_; clear HE; intro a HE
           refine hK _ _ ?_; clear hK K
           refine cond HE rfl (fun h102 => ?_) (fun h102 => ?_)
           ·have h102r := h102; try simp only [zz1, zz2, zz3, zz4, zz5, zz6, zz7, zz8, zz9, zza, zzb] at h102
            refine wp_region_lit ?_
            refine o_assign HE rfl rfl ?_; clear HE; intro a HE
            refine hK39 _ _ ?_; clear hK39
            refine wp_seq_k (fun K104 hK103 => ?_)
            refine wp_seq_k (fun K hK => ?_); refine wp_region_lit ?_
            refine o_move HE rfl rfl ?_; clear HE; intro a HE
            refine o_neI HE rfl rfl rfl ?_; clear HE; intro a HE
            refine hK _ _ ?_; clear hK K
            refine cond HE rfl (fun h106 => ?_) (fun h106 => ?_)
            ·have h106r := h106; try simp only [zz1, zz2, zz3, zz4, zz5, zz6, zz7, zz8, zz9, zza, zzb] at h106
             refine wp_seq_k (fun K hK => ?_); refine wp_region_lit ?_
             refine o_ldA HE rfl HS rfl T.a44 (.there (.there (.there (.here .here)))) rfl ?_; clear HE; intro a HE
             refine o_move HE rfl rfl ?_; clear HE; intro a HE
             refine o_stA HE HS rfl rfl rfl T.a44 (.there (.there (.there (.there (.here .here))))) rfl ?_; clear HS; intro w HS
             refine o_assign HE rfl rfl ?_; clear HE; intro a HE
             refine hK _ _ ?_; clear hK K
             refine wp_ret ?_
             show Q .ret _ _
             refine ret hQ HE rfl (HE.resA HS rfl T.a44 (.there (.there (.there (.there (.here .here))))) rfl (HE.res rfl .nil)) ⟨_, _, HS.stop (List.nil_sublist _), rfl, ?_⟩
             exact absurd (h94.symm.trans h100) (by decide)
            ·exact absurd h106 (by decide)
           ·have h102r := h102; try simp only [zz1, zz2, zz3, zz4, zz5, zz6, zz7, zz8, zz9, zza, zzb] at h102
            refine wp_skip ?_
            refine hK39 _ _ ?_; clear hK39
            refine wp_seq_k (fun K109 hK108 => ?_)
            refine wp_seq_k (fun K hK => ?_); refine wp_region_lit ?_
            refine o_move HE rfl rfl ?_; clear HE; intro a HE
            refine o_neI HE rfl rfl rfl ?_; clear HE; intro a HE
            refine hK _ _ ?_; clear hK K
            refine cond HE rfl (fun h111 => ?_) (fun h111 => ?_)
            ·exact absurd (h31r.symm.trans h111) (by decide)
            ·have h111r := h111; try simp only [zz1, zz2, zz3, zz4, zz5, zz6, zz7, zz8, zz9, zza, zzb] at h111
             refine wp_skip ?_
             refine hK108 _ _ ?_; clear hK108
             refine wp_seq_k (fun K113 hK112 => ?_)
             replace HS := HS.conv (L2 := [(0, _), (1, _), (2, _), (3, _), (4, _), (5, _), (6, _), (7, _), (8, _), (9, _), (10, _), (11, _), (12, _), (13, _)]) (.here .here) ⟨rfl, rfl, rfl, rfl, rfl, rfl, rfl, rfl, rfl, rfl, rfl, rfl, rfl, rfl, trivial⟩
             replace HS := HS.conv (L2 := [(0, _), (1, _), (2, _)]) (.there (.here .here)) ⟨rfl, rfl, rfl, trivial⟩
             replace HS := HS.conv (L2 := [(0, _), (1, _), (2, _), (3, _)]) (.there (.there (.here .here))) ⟨rfl, rfl, rfl, rfl, trivial⟩
             replace HS := HS.conv (L2 := [(0, _), (1, _), (2, _), (3, _), (4, _), (5, _), (6, _), (7, _), (8, _), (9, _), (10, _), (11, _), (12, _), (13, _)]) (.there (.there (.there (.here .here)))) ⟨rfl, rfl, rfl, rfl, rfl, rfl, rfl, rfl, rfl, rfl, rfl, rfl, rfl, rfl, trivial⟩
             replace HE := HE.cut (L' := [(0, str s), (2, .pointer (some ⟨B2, 0, none⟩)), (3, .int .i64 0), (4, .pointer (some ⟨B4, 0, none⟩)), (5, .pointer (some ⟨B5, 0, none⟩)), (6, .slice (some ⟨eb14, eo14, none⟩) ((wordsS ((noteS s).1)).1.length) vc4), (8, .int .i64 (okv (countS (((wordsS ((noteS s).1)).1).getD 0 []) 9223372036854775807))), (9, .int .i64 (nameE (((wordsS ((noteS s).1)).1).getD 1 []))), (10, .pointer (some ⟨B10, 0, none⟩)), (11, .pointer (some ⟨B11, 0, none⟩)), (15, .agg #[.int .i64 0, .int .i64 0, .int .i64 0, str [], .int .i64 0, .int .i64 0, .int .i64 0, .int .i64 0, str [], .int .i64 0, .slice none 0 0, .slice none 0 0, .bool false, str []]), (16, str s), (17, .agg #[str ((noteS s).1), str ((noteS s).2.1), .bool ((noteS s).2.2.1), .bool (decide ((noteS s).2.2.2 = 0))]), (18, .tuple #[.slice (some ⟨eb14, eo14, none⟩) ((wordsS ((noteS s).1)).1.length) vc4, .bool (decide ((wordsS ((noteS s).1)).2 = 0))]), (19, .pointer (some ⟨B5, 0, none⟩)), (20, str ((noteS s).1)), (21, .tuple #[.slice (some ⟨eb14, eo14, none⟩) ((wordsS ((noteS s).1)).1.length) vc4, .bool (decide ((wordsS ((noteS s).1)).2 = 0))]), (22, .slice (some ⟨eb14, eo14, none⟩) ((wordsS ((noteS s).1)).1.length) vc4), (23, .bool (decide ((wordsS ((noteS s).1)).2 = 0))), (30, .bool ((!(decide ((noteS s).2.2.2 = 0))) || (!(decide ((wordsS ((noteS s).1)).2 = 0))))), (32, .tuple #[.int .i64 (okv (countS (((wordsS ((noteS s).1)).1).getD 0 []) 9223372036854775807)), .int .i64 (erv (countS (((wordsS ((noteS s).1)).1).getD 0 []) 9223372036854775807))]), (33, .slice (some ⟨eb14, eo14, none⟩) ((wordsS ((noteS s).1)).1.length) vc4), (34, .pointer (some ⟨eb14, eo14 + (0 : Int).toNat * 1, none⟩)), (35, str (((wordsS ((noteS s).1)).1).getD 0 [])), (36, .tuple #[.int .i64 (okv (countS (((wordsS ((noteS s).1)).1).getD 0 []) 9223372036854775807)), .int .i64 (erv (countS (((wordsS ((noteS s).1)).1).getD 0 []) 9223372036854775807))]), (37, .int .i64 (okv (countS (((wordsS ((noteS s).1)).1).getD 0 []) 9223372036854775807))), (38, .int .i64 (erv (countS (((wordsS ((noteS s).1)).1).getD 0 []) 9223372036854775807))), (39, .int .i64 (erv (countS (((wordsS ((noteS s).1)).1).getD 0 []) 9223372036854775807))), (40, .bool (!decide ((erv (countS (((wordsS ((noteS s).1)).1).getD 0 []) 9223372036854775807)) = 0))), (43, .slice (some ⟨eb14, eo14, none⟩) ((wordsS ((noteS s).1)).1.length) vc4), (44, .int .i64 ((wordsS ((noteS s).1)).1.length : Int)), (45, .bool (decide (((wordsS ((noteS s).1)).1.length : Int) < 2))), (47, .tuple #[.agg #[.int .i64 ((parseV (((wordsS ((noteS s).1)).1).getD 1 [])).1.k), .int .i64 ((parseV (((wordsS ((noteS s).1)).1).getD 1 [])).1.n), str ((parseV (((wordsS ((noteS s).1)).1).getD 1 [])).1.s)], .int .i64 (nameE (((wordsS ((noteS s).1)).1).getD 1 []))]), (48, .slice (some ⟨eb14, eo14, none⟩) ((wordsS ((noteS s).1)).1.length) vc4), (49, .pointer (some ⟨eb14, eo14 + (1 : Int).toNat * 1, none⟩)), (50, str (((wordsS ((noteS s).1)).1).getD 1 [])), (51, .tuple #[.agg #[.int .i64 ((parseV (((wordsS ((noteS s).1)).1).getD 1 [])).1.k), .int .i64 ((parseV (((wordsS ((noteS s).1)).1).getD 1 [])).1.n), str ((parseV (((wordsS ((noteS s).1)).1).getD 1 [])).1.s)], .int .i64 (nameE (((wordsS ((noteS s).1)).1).getD 1 []))]), (52, .agg #[.int .i64 ((parseV (((wordsS ((noteS s).1)).1).getD 1 [])).1.k), .int .i64 ((parseV (((wordsS ((noteS s).1)).1).getD 1 [])).1.n), str ((parseV (((wordsS ((noteS s).1)).1).getD 1 [])).1.s)]), (53, .int .i64 (nameE (((wordsS ((noteS s).1)).1).getD 1 []))), (54, .int .i64 (nameE (((wordsS ((noteS s).1)).1).getD 1 []))), (55, .bool (!decide ((nameE (((wordsS ((noteS s).1)).1).getD 1 [])) = 0))), (58, .slice (some ⟨eb14, eo14, none⟩) ((wordsS ((noteS s).1)).1.length) vc4), (59, .int .i64 ((wordsS ((noteS s).1)).1.length : Int)), (60, .bool (decide (((wordsS ((noteS s).1)).1.length : Int) < 3))), (62, .slice (some ⟨eb14, eo14, none⟩) ((wordsS ((noteS s).1)).1.length) vc4), (63, .pointer (some ⟨eb14, eo14 + (2 : Int).toNat * 1, none⟩)), (64, str (((wordsS ((noteS s).1)).1).getD 2 [])), (65, .bool ((((wordsS ((noteS s).1)).1).getD 2 []) == [105, 110, 118, 111, 107, 101])), (66, .bool ((((wordsS ((noteS s).1)).1).getD 2 []) == [105, 110, 118, 111, 107, 101])), (73, .bool ((((wordsS ((noteS s).1)).1).getD 2 []) == [111, 107])), (74, .bool ((((wordsS ((noteS s).1)).1).getD 2 []) == [111, 107])), (101, .bool ((((wordsS ((noteS s).1)).1).getD 2 []) == [102, 97, 105, 108])), (102, .bool ((((wordsS ((noteS s).1)).1).getD 2 []) == [102, 97, 105, 108])), (104, .pointer (some ⟨B11, 4, none⟩)), (105, .slice (some ⟨eb14, eo14, none⟩) ((wordsS ((noteS s).1)).1.length) vc4), (106, .pointer (some ⟨eb14, eo14 + (2 : Int).toNat * 1, none⟩)), (107, str (((wordsS ((noteS s).1)).1).getD 2 [])), (108, .bool ((((wordsS ((noteS s).1)).1).getD 2 []) == [105, 110, 102, 111])), (109, .pointer (some ⟨B11, 4, none⟩)), (110, .slice (some ⟨eb14, eo14, none⟩) ((wordsS ((noteS s).1)).1.length) vc4), (111, .int .i64 ((wordsS ((noteS s).1)).1.length : Int)), (112, .bool (decide (3 < ((wordsS ((noteS s).1)).1.length : Int)))), (113, .int .i64 (nameE (((wordsS ((noteS s).1)).1).getD 1 []))), (114, .bool (!decide ((nameE (((wordsS ((noteS s).1)).1).getD 1 [])) = 0)))]) ⟨rfl, rfl, rfl, rfl, rfl, rfl, rfl, rfl, rfl, rfl, rfl, rfl, rfl, rfl, rfl, rfl, rfl, rfl, rfl, rfl, rfl, rfl, rfl, rfl, rfl, rfl, rfl, rfl, rfl, rfl, rfl, rfl, rfl, rfl, rfl, rfl, rfl, rfl, rfl, rfl, rfl, rfl, rfl, rfl, rfl, rfl, rfl, rfl, rfl, rfl, rfl, rfl, rfl, rfl, rfl, rfl, rfl, rfl, rfl, rfl, rfl, rfl, rfl, rfl, trivial⟩
             refine drawnF (fun f G' w => Heap.le G4 G' ∧ St w0 G [] G' w [[(B11, Cells 44 [(0, bif f 7 then .int .i64 (okv (countS (((wordsS ((noteS s).1)).1).getD 0 []) 9223372036854775807)) else .int .i64 0), (1, bif f 9 then .int .i64 ((parseV (((wordsS ((noteS s).1)).1).getD 1 [])).1.k) else .int .i64 0), (2, bif f 9 then .int .i64 ((parseV (((wordsS ((noteS s).1)).1).getD 1 [])).1.n) else .int .i64 0), (3, bif f 9 then str ((parseV (((wordsS ((noteS s).1)).1).getD 1 [])).1.s) else str []), (4, .int .i64 4), (5, .int .i64 0), (6, .int .i64 0), (7, .int .i64 0), (8, str []), (9, .int .i64 0), (10, .slice none 0 0), (11, .slice none 0 0), (12, bif f 11 then .bool ((noteS s).2.2.1) else .bool false), (13, bif f 13 then str ((noteS s).2.1) else str [])])], [(B10, Cells 41 [(0, .int .i64 ((parseV (((wordsS ((noteS s).1)).1).getD 1 [])).1.k)), (1, .int .i64 ((parseV (((wordsS ((noteS s).1)).1).getD 1 [])).1.n)), (2, str ((parseV (((wordsS ((noteS s).1)).1).getD 1 [])).1.s))])], [(B5, Cells 97 [(0, str ((noteS s).1)), (1, str ((noteS s).2.1)), (2, .bool ((noteS s).2.2.1)), (3, .bool (decide ((noteS s).2.2.2 = 0)))])], [(B4, Cells 44 [(0, .int .i64 0), (1, .int .i64 0), (2, .int .i64 0), (3, str []), (4, .int .i64 0), (5, .int .i64 0), (6, .int .i64 0), (7, .int .i64 0), (8, str []), (9, .int .i64 0), (10, .slice none 0 0), (11, .slice none 0 0), (12, .bool false), (13, str [])])], [(B2, Cells 44 [(0, .int .i64 0), (1, .int .i64 0), (2, .int .i64 0), (3, str []), (4, .int .i64 0), (5, .int .i64 0), (6, .int .i64 0), (7, .int .i64 0), (8, str []), (9, .int .i64 0), (10, .slice none 0 0), (11, .slice none 0 0), (12, .bool false), (13, str [])])]]) [fun v _ => v = .int .i64 (okv (countS (((wordsS ((noteS s).1)).1).getD 0 []) 9223372036854775807)), fun v _ => v = .agg #[.int .i64 ((parseV (((wordsS ((noteS s).1)).1).getD 1 [])).1.k), .int .i64 ((parseV (((wordsS ((noteS s).1)).1).getD 1 [])).1.n), str ((parseV (((wordsS ((noteS s).1)).1).getD 1 [])).1.s)], fun v _ => v = .pointer (some ⟨B5, 2, none⟩), fun v _ => v = .bool ((noteS s).2.2.1), fun v _ => v = .pointer (some ⟨B5, 1, none⟩), fun v _ => v = str ((noteS s).2.1), fun v _ => v = .pointer (some ⟨B11, 0, none⟩), fun _ _ => True, fun v _ => v = .pointer (some ⟨B11, 1, none⟩), fun _ _ => True, fun v _ => v = .pointer (some ⟨B11, 12, none⟩), fun _ _ => True, fun v _ => v = .pointer (some ⟨B11, 13, none⟩), fun _ _ => True] [] T.mix rfl HE ⟨Heap.le.refl _, HS.drew⟩ rfl (by simp) (AllM.get ⟨fun _ _ _ _ h => h, fun _ _ _ _ h => h, fun _ _ _ _ h => h, fun _ _ _ _ h => h, fun _ _ _ _ h => h, fun _ _ _ _ h => h, fun _ _ _ _ h => h, fun _ _ _ _ h => h, fun _ _ _ _ h => h, fun _ _ _ _ h => h, fun _ _ _ _ h => h, fun _ _ _ _ h => h, fun _ _ _ _ h => h, fun _ _ _ _ h => h, trivial⟩) ⟨?_, ?_, ?_, ?_, ?_, ?_, ?_, ?_, ?_, ?_, ?_, ?_, ?_, ?_, trivial⟩ ?_
             ·intro a w G1 f hcl hfi hon hW HE hp hO; obtain ⟨hl, HS⟩ := hW
              refine o_move HE rfl rfl ?_; clear HE; intro a HE
              exact ⟨_, _, Heap.le.refl _, ⟨hl, HS⟩, fun d hd => (by cases hd; exact HE.get _ _ rfl), HE.defers, rfl⟩
             ·intro a w G1 f hcl hfi hon hW HE hp hO; obtain ⟨hl, HS⟩ := hW
              refine o_ldA HE rfl HS rfl T.a41 (.there (.here .here)) rfl ?_; clear HE; intro a HE
              exact ⟨_, _, Heap.le.refl _, ⟨hl, HS⟩, fun d hd => (by cases hd; exact HE.get _ _ rfl), HE.defers, rfl⟩
             ·intro a w G1 f hcl hfi hon hW HE hp hO; obtain ⟨hl, HS⟩ := hW
              refine o_fld HE rfl rfl T.f97_2 ?_; clear HE; intro a HE
              exact ⟨_, _, Heap.le.refl _, ⟨hl, HS⟩, fun d hd => (by cases hd; exact HE.get _ _ rfl), HE.defers, rfl⟩
             ·intro a w G1 f hcl hfi hon hW HE hp hO; obtain ⟨hl, HS⟩ := hW
              obtain ⟨_, e2, rfl⟩ := hp 2 119 _ (hon 2 rfl) rfl rfl; replace HE := HE.add e2
              refine o_ld HE rfl HS rfl T.s4 (.there (.there (.here .here))) rfl ?_; clear HE; intro a HE
              exact ⟨_, _, Heap.le.refl _, ⟨hl, HS⟩, fun d hd => (by cases hd; exact HE.get _ _ rfl), HE.defers, rfl⟩
             ·intro a w G1 f hcl hfi hon hW HE hp hO; obtain ⟨hl, HS⟩ := hW
              refine o_fld HE rfl rfl T.f97_1 ?_; clear HE; intro a HE
              exact ⟨_, _, Heap.le.refl _, ⟨hl, HS⟩, fun d hd => (by cases hd; exact HE.get _ _ rfl), HE.defers, rfl⟩
             ·intro a w G1 f hcl hfi hon hW HE hp hO; obtain ⟨hl, HS⟩ := hW
              obtain ⟨_, e4, rfl⟩ := hp 4 121 _ (hon 4 rfl) rfl rfl; replace HE := HE.add e4
              refine o_ld HE rfl HS rfl T.s9 (.there (.there (.here .here))) rfl ?_; clear HE; intro a HE
              exact ⟨_, _, Heap.le.refl _, ⟨hl, HS⟩, fun d hd => (by cases hd; exact HE.get _ _ rfl), HE.defers, rfl⟩
             ·intro a w G1 f hcl hfi hon hW HE hp hO; obtain ⟨hl, HS⟩ := hW
              refine o_fld HE rfl rfl T.f44_0 ?_; clear HE; intro a HE
              exact ⟨_, _, Heap.le.refl _, ⟨hl, HS⟩, fun d hd => (by cases hd; exact HE.get _ _ rfl), HE.defers, rfl⟩
             ·intro a w G1 f hcl hfi hon hW HE hp hO; obtain ⟨hl, HS⟩ := hW
              obtain ⟨_, e6, rfl⟩ := hp 6 123 _ (hon 6 rfl) rfl rfl; replace HE := HE.add e6
              obtain ⟨_, e0, rfl⟩ := hp 0 117 _ (hon 0 rfl) rfl rfl; replace HE := HE.add e0
              refine o_st HE HS rfl rfl rfl T.s2 (.here .here) rfl ?_; clear HS; intro w HS
              replace HS := HS.conv (L2 := [(0, _), (1, _), (2, _), (3, _), (4, _), (5, _), (6, _), (7, _), (8, _), (9, _), (10, _), (11, _), (12, _), (13, _)]) (.here .here) ⟨rfl, rfl, rfl, rfl, rfl, rfl, rfl, rfl, rfl, rfl, rfl, rfl, rfl, rfl, trivial⟩
              exact ⟨.bool true, _, Heap.le.refl _, ⟨hl, HS⟩, fun d hd => (by cases hd), HE.defers, trivial⟩
             ·intro a w G1 f hcl hfi hon hW HE hp hO; obtain ⟨hl, HS⟩ := hW
              refine o_fld HE rfl rfl T.f44_1 ?_; clear HE; intro a HE
              exact ⟨_, _, Heap.le.refl _, ⟨hl, HS⟩, fun d hd => (by cases hd; exact HE.get _ _ rfl), HE.defers, rfl⟩
             ·intro a w G1 f hcl hfi hon hW HE hp hO; obtain ⟨hl, HS⟩ := hW
              obtain ⟨_, e8, rfl⟩ := hp 8 124 _ (hon 8 rfl) rfl rfl; replace HE := HE.add e8
              obtain ⟨_, e1, rfl⟩ := hp 1 118 _ (hon 1 rfl) rfl rfl; replace HE := HE.add e1
              refine o_stA HE HS rfl rfl rfl T.a41 (.here .here) rfl ?_; clear HS; intro w HS
              replace HS := HS.conv (L2 := [(0, _), (1, _), (2, _), (3, _), (4, _), (5, _), (6, _), (7, _), (8, _), (9, _), (10, _), (11, _), (12, _), (13, _)]) (.here .here) ⟨rfl, rfl, rfl, rfl, rfl, rfl, rfl, rfl, rfl, rfl, rfl, rfl, rfl, rfl, trivial⟩
              exact ⟨.bool true, _, Heap.le.refl _, ⟨hl, HS⟩, fun d hd => (by cases hd), HE.defers, trivial⟩
             ·intro a w G1 f hcl hfi hon hW HE hp hO; obtain ⟨hl, HS⟩ := hW
              refine o_fld HE rfl rfl T.f44_8 ?_; clear HE; intro a HE
              exact ⟨_, _, Heap.le.refl _, ⟨hl, HS⟩, fun d hd => (by cases hd; exact HE.get _ _ rfl), HE.defers, rfl⟩
             ·intro a w G1 f hcl hfi hon hW HE hp hO; obtain ⟨hl, HS⟩ := hW
              obtain ⟨_, e10, rfl⟩ := hp 10 125 _ (hon 10 rfl) rfl rfl; replace HE := HE.add e10
              obtain ⟨_, e3, rfl⟩ := hp 3 120 _ (hon 3 rfl) rfl rfl; replace HE := HE.add e3
              refine o_st HE HS rfl rfl rfl T.s4 (.here .here) rfl ?_; clear HS; intro w HS
              replace HS := HS.conv (L2 := [(0, _), (1, _), (2, _), (3, _), (4, _), (5, _), (6, _), (7, _), (8, _), (9, _), (10, _), (11, _), (12, _), (13, _)]) (.here .here) ⟨rfl, rfl, rfl, rfl, rfl, rfl, rfl, rfl, rfl, rfl, rfl, rfl, rfl, rfl, trivial⟩
              exact ⟨.bool true, _, Heap.le.refl _, ⟨hl, HS⟩, fun d hd => (by cases hd), HE.defers, trivial⟩
             ·intro a w G1 f hcl hfi hon hW HE hp hO; obtain ⟨hl, HS⟩ := hW
              refine o_fld HE rfl rfl T.f44_9 ?_; clear HE; intro a HE
              exact ⟨_, _, Heap.le.refl _, ⟨hl, HS⟩, fun d hd => (by cases hd; exact HE.get _ _ rfl), HE.defers, rfl⟩
             ·intro a w G1 f hcl hfi hon hW HE hp hO; obtain ⟨hl, HS⟩ := hW
              obtain ⟨_, e12, rfl⟩ := hp 12 126 _ (hon 12 rfl) rfl rfl; replace HE := HE.add e12
              obtain ⟨_, e5, rfl⟩ := hp 5 122 _ (hon 5 rfl) rfl rfl; replace HE := HE.add e5
              refine o_st HE HS rfl rfl rfl T.s9 (.here .here) rfl ?_; clear HS; intro w HS
              replace HS := HS.conv (L2 := [(0, _), (1, _), (2, _), (3, _), (4, _), (5, _), (6, _), (7, _), (8, _), (9, _), (10, _), (11, _), (12, _), (13, _)]) (.here .here) ⟨rfl, rfl, rfl, rfl, rfl, rfl, rfl, rfl, rfl, rfl, rfl, rfl, rfl, rfl, trivial⟩
              exact ⟨.bool true, _, Heap.le.refl _, ⟨hl, HS⟩, fun d hd => (by cases hd), HE.defers, trivial⟩
             clear HE HS; intro a w G114 f hle115 hall HW HE hp; obtain ⟨_, HS⟩ := HW
             have hfw7 := hall 7 (by decide)
             have hfw9 := hall 9 (by decide)
             have hfw11 := hall 11 (by decide)
             have hfw13 := hall 13 (by decide)
             simp only [hfw7, hfw9, hfw11, hfw13, cond_true] at HS
             replace hR4 := hR4.le hle115
             clear hp hall
             refine hK112 _ _ ?_; clear hK112
             refine wp_seq_k (fun K hK => ?_); refine wp_region_lit ?_
             refine o_ldA HE rfl HS rfl T.a44 (.here .here) rfl ?_; clear HE; intro a HE
             refine o_stA HE HS rfl rfl rfl T.a44 (.there (.there (.there (.there (.here .here))))) rfl ?_; clear HS; intro w HS
             refine o_assign HE rfl rfl ?_; clear HE; intro a HE
             refine hK _ _ ?_; clear hK K
             refine wp_ret ?_
             show Q .ret _ _
             refine ret hQ HE rfl (HE.resA HS rfl T.a44 (.there (.there (.there (.there (.here .here))))) rfl (HE.res rfl .nil)) ⟨_, _, HS.stop (List.nil_sublist _), rfl, ?_⟩
             exact absurd (h94.symm.trans h100) (by decide)
          ·have h100r := h100; try simp only [zz1, zz2, zz3, zz4, zz5, zz6, zz7, zz8, zz9, zza, zzb] at h100
           refine wp_skip ?_
           refine hK97 _ _ ?_; clear hK97
           refine wp_seq_k (fun K hK => ?_); refine wp_region_lit ?_
           refine o_move HE rfl rfl ?_; clear HE; intro a HE
           refine o_lenL HE rfl rfl Tryd.underlying29 ?_; clear HE; intro a HE
           refine o_gtr HE rfl rfl rfl ?_; clear HE; intro a HE
           refine hK _ _ ?_; clear hK K
           refine cond HE rfl (fun h118 => ?_) (fun h118 => ?_)
           ·have h118r := h118; try simp only [zz1, zz2, zz3, zz4, zz5, zz6, zz7, zz8, zz9, zza, zzb] at h118
            refine wp_region_lit ?_
            refine o_assign HE rfl rfl ?_; clear HE; intro a HE
            refine hK39 _ _ ?_; clear hK39
            refine wp_seq_k (fun K120 hK119 => ?_)
            refine wp_seq_k (fun K hK => ?_); refine wp_region_lit ?_
            refine o_move HE rfl rfl ?_; clear HE; intro a HE
            refine o_neI HE rfl rfl rfl ?_; clear HE; intro a HE
            refine hK _ _ ?_; clear hK K
            refine cond HE rfl (fun h122 => ?_) (fun h122 => ?_)
            ·have h122r := h122; try simp only [zz1, zz2, zz3, zz4, zz5, zz6, zz7, zz8, zz9, zza, zzb] at h122
             refine wp_seq_k (fun K hK => ?_); refine wp_region_lit ?_
             refine o_ldA HE rfl HS rfl T.a44 (.there (.there (.there (.here .here)))) rfl ?_; clear HE; intro a HE
             refine o_move HE rfl rfl ?_; clear HE; intro a HE
             refine o_stA HE HS rfl rfl rfl T.a44 (.there (.there (.there (.there (.here .here))))) rfl ?_; clear HS; intro w HS
             refine o_assign HE rfl rfl ?_; clear HE; intro a HE
             refine hK _ _ ?_; clear hK K
             refine wp_ret ?_
             show Q .ret _ _
             refine ret hQ HE rfl (HE.resA HS rfl T.a44 (.there (.there (.there (.there (.here .here))))) rfl (HE.res rfl .nil)) ⟨_, _, HS.stop (List.nil_sublist _), rfl, ?_⟩
             have hc0 : erv (C9 ((wordsS (noteS s).1).1.getD 0 [])) = 0 := by simpa [C9] using h19
             have g1 := getD_at (l := (wordsS (noteS s).1).1) (i := 1) (by omega)
             have hc1 : nameE ((wordsS (noteS s).1).1.getD 1 []) = 0 := by simpa using h31
             have g2 := getD_at (l := (wordsS (noteS s).1).1) (i := 2) (by omega)
             have hcode : (allS (wordsS (noteS s).1).1).2.2 = 2 := by rw [(all_fail g0 hc0 g1 hc1 g2 h94).1, if_pos (by omega)]
             have he : parseE s = (E0, 2) := parseE_err' hn1 hn2 (hcode) (by decide)
             rw [he]
             exact ⟨_, _, _, _, rfl, Nat.zero_le _, .nil, Nat.zero_le _, .nil⟩
            ·exact absurd h122 (by decide)
           ·have h118r := h118; try simp only [zz1, zz2, zz3, zz4, zz5, zz6, zz7, zz8, zz9, zza, zzb] at h118
            refine wp_skip ?_
            refine hK39 _ _ ?_; clear hK39
            refine wp_seq_k (fun K125 hK124 => ?_)
            refine wp_seq_k (fun K hK => ?_); refine wp_region_lit ?_
            refine o_move HE rfl rfl ?_; clear HE; intro a HE
            refine o_neI HE rfl rfl rfl ?_; clear HE; intro a HE
            refine hK _ _ ?_; clear hK K
            refine cond HE rfl (fun h127 => ?_) (fun h127 => ?_)
            ·exact absurd (h31r.symm.trans h127) (by decide)
            ·have h127r := h127; try simp only [zz1, zz2, zz3, zz4, zz5, zz6, zz7, zz8, zz9, zza, zzb] at h127
             refine wp_skip ?_
             refine hK124 _ _ ?_; clear hK124
             refine wp_seq_k (fun K129 hK128 => ?_)
             replace HS := HS.conv (L2 := [(0, _), (1, _), (2, _), (3, _), (4, _), (5, _), (6, _), (7, _), (8, _), (9, _), (10, _), (11, _), (12, _), (13, _)]) (.here .here) ⟨rfl, rfl, rfl, rfl, rfl, rfl, rfl, rfl, rfl, rfl, rfl, rfl, rfl, rfl, trivial⟩
             replace HS := HS.conv (L2 := [(0, _), (1, _), (2, _)]) (.there (.here .here)) ⟨rfl, rfl, rfl, trivial⟩
             replace HS := HS.conv (L2 := [(0, _), (1, _), (2, _), (3, _)]) (.there (.there (.here .here))) ⟨rfl, rfl, rfl, rfl, trivial⟩
             replace HS := HS.conv (L2 := [(0, _), (1, _), (2, _), (3, _), (4, _), (5, _), (6, _), (7, _), (8, _), (9, _), (10, _), (11, _), (12, _), (13, _)]) (.there (.there (.there (.here .here)))) ⟨rfl, rfl, rfl, rfl, rfl, rfl, rfl, rfl, rfl, rfl, rfl, rfl, rfl, rfl, trivial⟩
             replace HE := HE.cut (L' := [(0, str s), (2, .pointer (some ⟨B2, 0, none⟩)), (3, .int .i64 0), (4, .pointer (some ⟨B4, 0, none⟩)), (5, .pointer (some ⟨B5, 0, none⟩)), (6, .slice (some ⟨eb14, eo14, none⟩) ((wordsS ((noteS s).1)).1.length) vc4), (8, .int .i64 (okv (countS (((wordsS ((noteS s).1)).1).getD 0 []) 9223372036854775807))), (9, .int .i64 (nameE (((wordsS ((noteS s).1)).1).getD 1 []))), (10, .pointer (some ⟨B10, 0, none⟩)), (11, .pointer (some ⟨B11, 0, none⟩)), (15, .agg #[.int .i64 0, .int .i64 0, .int .i64 0, str [], .int .i64 0, .int .i64 0, .int .i64 0, .int .i64 0, str [], .int .i64 0, .slice none 0 0, .slice none 0 0, .bool false, str []]), (16, str s), (17, .agg #[str ((noteS s).1), str ((noteS s).2.1), .bool ((noteS s).2.2.1), .bool (decide ((noteS s).2.2.2 = 0))]), (18, .tuple #[.slice (some ⟨eb14, eo14, none⟩) ((wordsS ((noteS s).1)).1.length) vc4, .bool (decide ((wordsS ((noteS s).1)).2 = 0))]), (19, .pointer (some ⟨B5, 0, none⟩)), (20, str ((noteS s).1)), (21, .tuple #[.slice (some ⟨eb14, eo14, none⟩) ((wordsS ((noteS s).1)).1.length) vc4, .bool (decide ((wordsS ((noteS s).1)).2 = 0))]), (22, .slice (some ⟨eb14, eo14, none⟩) ((wordsS ((noteS s).1)).1.length) vc4), (23, .bool (decide ((wordsS ((noteS s).1)).2 = 0))), (30, .bool ((!(decide ((noteS s).2.2.2 = 0))) || (!(decide ((wordsS ((noteS s).1)).2 = 0))))), (32, .tuple #[.int .i64 (okv (countS (((wordsS ((noteS s).1)).1).getD 0 []) 9223372036854775807)), .int .i64 (erv (countS (((wordsS ((noteS s).1)).1).getD 0 []) 9223372036854775807))]), (33, .slice (some ⟨eb14, eo14, none⟩) ((wordsS ((noteS s).1)).1.length) vc4), (34, .pointer (some ⟨eb14, eo14 + (0 : Int).toNat * 1, none⟩)), (35, str (((wordsS ((noteS s).1)).1).getD 0 [])), (36, .tuple #[.int .i64 (okv (countS (((wordsS ((noteS s).1)).1).getD 0 []) 9223372036854775807)), .int .i64 (erv (countS (((wordsS ((noteS s).1)).1).getD 0 []) 9223372036854775807))]), (37, .int .i64 (okv (countS (((wordsS ((noteS s).1)).1).getD 0 []) 9223372036854775807))), (38, .int .i64 (erv (countS (((wordsS ((noteS s).1)).1).getD 0 []) 9223372036854775807))), (39, .int .i64 (erv (countS (((wordsS ((noteS s).1)).1).getD 0 []) 9223372036854775807))), (40, .bool (!decide ((erv (countS (((wordsS ((noteS s).1)).1).getD 0 []) 9223372036854775807)) = 0))), (43, .slice (some ⟨eb14, eo14, none⟩) ((wordsS ((noteS s).1)).1.length) vc4), (44, .int .i64 ((wordsS ((noteS s).1)).1.length : Int)), (45, .bool (decide (((wordsS ((noteS s).1)).1.length : Int) < 2))), (47, .tuple #[.agg #[.int .i64 ((parseV (((wordsS ((noteS s).1)).1).getD 1 [])).1.k), .int .i64 ((parseV (((wordsS ((noteS s).1)).1).getD 1 [])).1.n), str ((parseV (((wordsS ((noteS s).1)).1).getD 1 [])).1.s)], .int .i64 (nameE (((wordsS ((noteS s).1)).1).getD 1 []))]), (48, .slice (some ⟨eb14, eo14, none⟩) ((wordsS ((noteS s).1)).1.length) vc4), (49, .pointer (some ⟨eb14, eo14 + (1 : Int).toNat * 1, none⟩)), (50, str (((wordsS ((noteS s).1)).1).getD 1 [])), (51, .tuple #[.agg #[.int .i64 ((parseV (((wordsS ((noteS s).1)).1).getD 1 [])).1.k), .int .i64 ((parseV (((wordsS ((noteS s).1)).1).getD 1 [])).1.n), str ((parseV (((wordsS ((noteS s).1)).1).getD 1 [])).1.s)], .int .i64 (nameE (((wordsS ((noteS s).1)).1).getD 1 []))]), (52, .agg #[.int .i64 ((parseV (((wordsS ((noteS s).1)).1).getD 1 [])).1.k), .int .i64 ((parseV (((wordsS ((noteS s).1)).1).getD 1 [])).1.n), str ((parseV (((wordsS ((noteS s).1)).1).getD 1 [])).1.s)]), (53, .int .i64 (nameE (((wordsS ((noteS s).1)).1).getD 1 []))), (54, .int .i64 (nameE (((wordsS ((noteS s).1)).1).getD 1 []))), (55, .bool (!decide ((nameE (((wordsS ((noteS s).1)).1).getD 1 [])) = 0))), (58, .slice (some ⟨eb14, eo14, none⟩) ((wordsS ((noteS s).1)).1.length) vc4), (59, .int .i64 ((wordsS ((noteS s).1)).1.length : Int)), (60, .bool (decide (((wordsS ((noteS s).1)).1.length : Int) < 3))), (62, .slice (some ⟨eb14, eo14, none⟩) ((wordsS ((noteS s).1)).1.length) vc4), (63, .pointer (some ⟨eb14, eo14 + (2 : Int).toNat * 1, none⟩)), (64, str (((wordsS ((noteS s).1)).1).getD 2 [])), (65, .bool ((((wordsS ((noteS s).1)).1).getD 2 []) == [105, 110, 118, 111, 107, 101])), (66, .bool ((((wordsS ((noteS s).1)).1).getD 2 []) == [105, 110, 118, 111, 107, 101])), (73, .bool ((((wordsS ((noteS s).1)).1).getD 2 []) == [111, 107])), (74, .bool ((((wordsS ((noteS s).1)).1).getD 2 []) == [111, 107])), (101, .bool ((((wordsS ((noteS s).1)).1).getD 2 []) == [102, 97, 105, 108])), (102, .bool ((((wordsS ((noteS s).1)).1).getD 2 []) == [102, 97, 105, 108])), (104, .pointer (some ⟨B11, 4, none⟩)), (105, .slice (some ⟨eb14, eo14, none⟩) ((wordsS ((noteS s).1)).1.length) vc4), (106, .pointer (some ⟨eb14, eo14 + (2 : Int).toNat * 1, none⟩)), (107, str (((wordsS ((noteS s).1)).1).getD 2 [])), (108, .bool ((((wordsS ((noteS s).1)).1).getD 2 []) == [105, 110, 102, 111])), (110, .slice (some ⟨eb14, eo14, none⟩) ((wordsS ((noteS s).1)).1.length) vc4), (111, .int .i64 ((wordsS ((noteS s).1)).1.length : Int)), (112, .bool (decide (3 < ((wordsS ((noteS s).1)).1.length : Int)))), (113, .int .i64 (nameE (((wordsS ((noteS s).1)).1).getD 1 []))), (114, .bool (!decide ((nameE (((wordsS ((noteS s).1)).1).getD 1 [])) = 0)))]) ⟨rfl, rfl, rfl, rfl, rfl, rfl, rfl, rfl, rfl, rfl, rfl, rfl, rfl, rfl, rfl, rfl, rfl, rfl, rfl, rfl, rfl, rfl, rfl, rfl, rfl, rfl, rfl, rfl, rfl, rfl, rfl, rfl, rfl, rfl, rfl, rfl, rfl, rfl, rfl, rfl, rfl, rfl, rfl, rfl, rfl, rfl, rfl, rfl, rfl, rfl, rfl, rfl, rfl, rfl, rfl, rfl, rfl, rfl, rfl, rfl, rfl, rfl, rfl, trivial⟩
             refine drawnF (fun f G' w => Heap.le G4 G' ∧ St w0 G [] G' w [[(B11, Cells 44 [(0, bif f 7 then .int .i64 (okv (countS (((wordsS ((noteS s).1)).1).getD 0 []) 9223372036854775807)) else .int .i64 0), (1, bif f 9 then .int .i64 ((parseV (((wordsS ((noteS s).1)).1).getD 1 [])).1.k) else .int .i64 0), (2, bif f 9 then .int .i64 ((parseV (((wordsS ((noteS s).1)).1).getD 1 [])).1.n) else .int .i64 0), (3, bif f 9 then str ((parseV (((wordsS ((noteS s).1)).1).getD 1 [])).1.s) else str []), (4, .int .i64 3), (5, .int .i64 0), (6, .int .i64 0), (7, .int .i64 0), (8, str []), (9, .int .i64 0), (10, .slice none 0 0), (11, .slice none 0 0), (12, bif f 11 then .bool ((noteS s).2.2.1) else .bool false), (13, bif f 13 then str ((noteS s).2.1) else str [])])], [(B10, Cells 41 [(0, .int .i64 ((parseV (((wordsS ((noteS s).1)).1).getD 1 [])).1.k)), (1, .int .i64 ((parseV (((wordsS ((noteS s).1)).1).getD 1 [])).1.n)), (2, str ((parseV (((wordsS ((noteS s).1)).1).getD 1 [])).1.s))])], [(B5, Cells 97 [(0, str ((noteS s).1)), (1, str ((noteS s).2.1)), (2, .bool ((noteS s).2.2.1)), (3, .bool (decide ((noteS s).2.2.2 = 0)))])], [(B4, Cells 44 [(0, .int .i64 0), (1, .int .i64 0), (2, .int .i64 0), (3, str []), (4, .int .i64 0), (5, .int .i64 0), (6, .int .i64 0), (7, .int .i64 0), (8, str []), (9, .int .i64 0), (10, .slice none 0 0), (11, .slice none 0 0), (12, .bool false), (13, str [])])], [(B2, Cells 44 [(0, .int .i64 0), (1, .int .i64 0), (2, .int .i64 0), (3, str []), (4, .int .i64 0), (5, .int .i64 0), (6, .int .i64 0), (7, .int .i64 0), (8, str []), (9, .int .i64 0), (10, .slice none 0 0), (11, .slice none 0 0), (12, .bool false), (13, str [])])]]) [fun v _ => v = .int .i64 (okv (countS (((wordsS ((noteS s).1)).1).getD 0 []) 9223372036854775807)), fun v _ => v = .agg #[.int .i64 ((parseV (((wordsS ((noteS s).1)).1).getD 1 [])).1.k), .int .i64 ((parseV (((wordsS ((noteS s).1)).1).getD 1 [])).1.n), str ((parseV (((wordsS ((noteS s).1)).1).getD 1 [])).1.s)], fun v _ => v = .pointer (some ⟨B5, 2, none⟩), fun v _ => v = .bool ((noteS s).2.2.1), fun v _ => v = .pointer (some ⟨B5, 1, none⟩), fun v _ => v = str ((noteS s).2.1), fun v _ => v = .pointer (some ⟨B11, 0, none⟩), fun _ _ => True, fun v _ => v = .pointer (some ⟨B11, 1, none⟩), fun _ _ => True, fun v _ => v = .pointer (some ⟨B11, 12, none⟩), fun _ _ => True, fun v _ => v = .pointer (some ⟨B11, 13, none⟩), fun _ _ => True] [] T.mix rfl HE ⟨Heap.le.refl _, HS.drew⟩ rfl (by simp) (AllM.get ⟨fun _ _ _ _ h => h, fun _ _ _ _ h => h, fun _ _ _ _ h => h, fun _ _ _ _ h => h, fun _ _ _ _ h => h, fun _ _ _ _ h => h, fun _ _ _ _ h => h, fun _ _ _ _ h => h, fun _ _ _ _ h => h, fun _ _ _ _ h => h, fun _ _ _ _ h => h, fun _ _ _ _ h => h, fun _ _ _ _ h => h, fun _ _ _ _ h => h, trivial⟩) ⟨?_, ?_, ?_, ?_, ?_, ?_, ?_, ?_, ?_, ?_, ?_, ?_, ?_, ?_, trivial⟩ ?_
             ·intro a w G1 f hcl hfi hon hW HE hp hO; obtain ⟨hl, HS⟩ := hW
              refine o_move HE rfl rfl ?_; clear HE; intro a HE
              exact ⟨_, _, Heap.le.refl _, ⟨hl, HS⟩, fun d hd => (by cases hd; exact HE.get _ _ rfl), HE.defers, rfl⟩
             ·intro a w G1 f hcl hfi hon hW HE hp hO; obtain ⟨hl, HS⟩ := hW
              refine o_ldA HE rfl HS rfl T.a41 (.there (.here .here)) rfl ?_; clear HE; intro a HE
              exact ⟨_, _, Heap.le.refl _, ⟨hl, HS⟩, fun d hd => (by cases hd; exact HE.get _ _ rfl), HE.defers, rfl⟩
             ·intro a w G1 f hcl hfi hon hW HE hp hO; obtain ⟨hl, HS⟩ := hW
              refine o_fld HE rfl rfl T.f97_2 ?_; clear HE; intro a HE
              exact ⟨_, _, Heap.le.refl _, ⟨hl, HS⟩, fun d hd => (by cases hd; exact HE.get _ _ rfl), HE.defers, rfl⟩
             ·intro a w G1 f hcl hfi hon hW HE hp hO; obtain ⟨hl, HS⟩ := hW
              obtain ⟨_, e2, rfl⟩ := hp 2 119 _ (hon 2 rfl) rfl rfl; replace HE := HE.add e2
              refine o_ld HE rfl HS rfl T.s4 (.there (.there (.here .here))) rfl ?_; clear HE; intro a HE
              exact ⟨_, _, Heap.le.refl _, ⟨hl, HS⟩, fun d hd => (by cases hd; exact HE.get _ _ rfl), HE.defers, rfl⟩
             ·intro a w G1 f hcl hfi hon hW HE hp hO; obtain ⟨hl, HS⟩ := hW
              refine o_fld HE rfl rfl T.f97_1 ?_; clear HE; intro a HE
              exact ⟨_, _, Heap.le.refl _, ⟨hl, HS⟩, fun d hd => (by cases hd; exact HE.get _ _ rfl), HE.defers, rfl⟩
             ·intro a w G1 f hcl hfi hon hW HE hp hO; obtain ⟨hl, HS⟩ := hW
              obtain ⟨_, e4, rfl⟩ := hp 4 121 _ (hon 4 rfl) rfl rfl; replace HE := HE.add e4
              refine o_ld HE rfl HS rfl T.s9 (.there (.there (.here .here))) rfl ?_; clear HE; intro a HE
              exact ⟨_, _, Heap.le.refl _, ⟨hl, HS⟩, fun d hd => (by cases hd; exact HE.get _ _ rfl), HE.defers, rfl⟩
             ·intro a w G1 f hcl hfi hon hW HE hp hO; obtain ⟨hl, HS⟩ := hW
              refine o_fld HE rfl rfl T.f44_0 ?_; clear HE; intro a HE
              exact ⟨_, _, Heap.le.refl _, ⟨hl, HS⟩, fun d hd => (by cases hd; exact HE.get _ _ rfl), HE.defers, rfl⟩
             ·intro a w G1 f hcl hfi hon hW HE hp hO; obtain ⟨hl, HS⟩ := hW
              obtain ⟨_, e6, rfl⟩ := hp 6 123 _ (hon 6 rfl) rfl rfl; replace HE := HE.add e6
              obtain ⟨_, e0, rfl⟩ := hp 0 117 _ (hon 0 rfl) rfl rfl; replace HE := HE.add e0
              refine o_st HE HS rfl rfl rfl T.s2 (.here .here) rfl ?_; clear HS; intro w HS
              replace HS := HS.conv (L2 := [(0, _), (1, _), (2, _), (3, _), (4, _), (5, _), (6, _), (7, _), (8, _), (9, _), (10, _), (11, _), (12, _), (13, _)]) (.here .here) ⟨rfl, rfl, rfl, rfl, rfl, rfl, rfl, rfl, rfl, rfl, rfl, rfl, rfl, rfl, trivial⟩
              exact ⟨.bool true, _, Heap.le.refl _, ⟨hl, HS⟩, fun d hd => (by cases hd), HE.defers, trivial⟩
             ·intro a w G1 f hcl hfi hon hW HE hp hO; obtain ⟨hl, HS⟩ := hW
              refine o_fld HE rfl rfl T.f44_1 ?_; clear HE; intro a HE
              exact ⟨_, _, Heap.le.refl _, ⟨hl, HS⟩, fun d hd => (by cases hd; exact HE.get _ _ rfl), HE.defers, rfl⟩
             ·intro a w G1 f hcl hfi hon hW HE hp hO; obtain ⟨hl, HS⟩ := hW
              obtain ⟨_, e8, rfl⟩ := hp 8 124 _ (hon 8 rfl) rfl rfl; replace HE := HE.add e8
              obtain ⟨_, e1, rfl⟩ := hp 1 118 _ (hon 1 rfl) rfl rfl; replace HE := HE.add e1
              refine o_stA HE HS rfl rfl rfl T.a41 (.here .here) rfl ?_; clear HS; intro w HS
              replace HS := HS.conv (L2 := [(0, _), (1, _), (2, _), (3, _), (4, _), (5, _), (6, _), (7, _), (8, _), (9, _), (10, _), (11, _), (12, _), (13, _)]) (.here .here) ⟨rfl, rfl, rfl, rfl, rfl, rfl, rfl, rfl, rfl, rfl, rfl, rfl, rfl, rfl, trivial⟩
              exact ⟨.bool true, _, Heap.le.refl _, ⟨hl, HS⟩, fun d hd => (by cases hd), HE.defers, trivial⟩
             ·intro a w G1 f hcl hfi hon hW HE hp hO; obtain ⟨hl, HS⟩ := hW
              refine o_fld HE rfl rfl T.f44_8 ?_; clear HE; intro a HE
              exact ⟨_, _, Heap.le.refl _, ⟨hl, HS⟩, fun d hd => (by cases hd; exact HE.get _ _ rfl), HE.defers, rfl⟩
             ·intro a w G1 f hcl hfi hon hW HE hp hO; obtain ⟨hl, HS⟩ := hW
              obtain ⟨_, e10, rfl⟩ := hp 10 125 _ (hon 10 rfl) rfl rfl; replace HE := HE.add e10
              obtain ⟨_, e3, rfl⟩ := hp 3 120 _ (hon 3 rfl) rfl rfl; replace HE := HE.add e3
              refine o_st HE HS rfl rfl rfl T.s4 (.here .here) rfl ?_; clear HS; intro w HS
              replace HS := HS.conv (L2 := [(0, _), (1, _), (2, _), (3, _), (4, _), (5, _), (6, _), (7, _), (8, _), (9, _), (10, _), (11, _), (12, _), (13, _)]) (.here .here) ⟨rfl, rfl, rfl, rfl, rfl, rfl, rfl, rfl, rfl, rfl, rfl, rfl, rfl, rfl, trivial⟩
              exact ⟨.bool true, _, Heap.le.refl _, ⟨hl, HS⟩, fun d hd => (by cases hd), HE.defers, trivial⟩
             ·intro a w G1 f hcl hfi hon hW HE hp hO; obtain ⟨hl, HS⟩ := hW
              refine o_fld HE rfl rfl T.f44_9 ?_; clear HE; intro a HE
              exact ⟨_, _, Heap.le.refl _, ⟨hl, HS⟩, fun d hd => (by cases hd; exact HE.get _ _ rfl), HE.defers, rfl⟩
             ·intro a w G1 f hcl hfi hon hW HE hp hO; obtain ⟨hl, HS⟩ := hW
              obtain ⟨_, e12, rfl⟩ := hp 12 126 _ (hon 12 rfl) rfl rfl; replace HE := HE.add e12
              obtain ⟨_, e5, rfl⟩ := hp 5 122 _ (hon 5 rfl) rfl rfl; replace HE := HE.add e5
              refine o_st HE HS rfl rfl rfl T.s9 (.here .here) rfl ?_; clear HS; intro w HS
              replace HS := HS.conv (L2 := [(0, _), (1, _), (2, _), (3, _), (4, _), (5, _), (6, _), (7, _), (8, _), (9, _), (10, _), (11, _), (12, _), (13, _)]) (.here .here) ⟨rfl, rfl, rfl, rfl, rfl, rfl, rfl, rfl, rfl, rfl, rfl, rfl, rfl, rfl, trivial⟩
              exact ⟨.bool true, _, Heap.le.refl _, ⟨hl, HS⟩, fun d hd => (by cases hd), HE.defers, trivial⟩
             clear HE HS; intro a w G130 f hle131 hall HW HE hp; obtain ⟨_, HS⟩ := HW
             have hfw7 := hall 7 (by decide)
             have hfw9 := hall 9 (by decide)
             have hfw11 := hall 11 (by decide)
             have hfw13 := hall 13 (by decide)
             simp only [hfw7, hfw9, hfw11, hfw13, cond_true] at HS
             replace hR4 := hR4.le hle131
             clear hp hall
             refine hK128 _ _ ?_; clear hK128
             refine wp_seq_k (fun K hK => ?_); refine wp_region_lit ?_
             refine o_ldA HE rfl HS rfl T.a44 (.here .here) rfl ?_; clear HE; intro a HE
             refine o_stA HE HS rfl rfl rfl T.a44 (.there (.there (.there (.there (.here .here))))) rfl ?_; clear HS; intro w HS
             refine o_assign HE rfl rfl ?_; clear HE; intro a HE
             refine hK _ _ ?_; clear hK K
             refine wp_ret ?_
             show Q .ret _ _
             refine ret hQ HE rfl (HE.resA HS rfl T.a44 (.there (.there (.there (.there (.here .here))))) rfl (HE.res rfl .nil)) ⟨_, _, HS.stop (List.nil_sublist _), rfl, ?_⟩
             have hc0 : erv (C9 ((wordsS (noteS s).1).1.getD 0 [])) = 0 := by simpa [C9] using h19
             have g1 := getD_at (l := (wordsS (noteS s).1).1) (i := 1) (by omega)
             have hc1 : nameE ((wordsS (noteS s).1).1.getD 1 []) = 0 := by simpa using h31
             have g2 := getD_at (l := (wordsS (noteS s).1).1) (i := 2) (by omega)
             have hcode : (allS (wordsS (noteS s).1).1).2.2 = 0 := by rw [(all_fail g0 hc0 g1 hc1 g2 h94).1, if_neg (by omega)]
             have he : parseE s = ({ (⟨okv (C9 ((wordsS (noteS s).1).1.getD 0 [])), (parseV ((wordsS (noteS s).1).1.getD 1 [])).1, 3, 0, ⟨0, 0, []⟩, 0, [], [], false, []⟩ : Evt) with noted := (noteS s).2.2.1, note := (noteS s).2.1 }, 0) := parseE_yes' hn1 hn2 (hcode) ((all_fail g0 hc0 g1 hc1 g2 h94).2)
             rw [he]
             exact ⟨_, _, _, _, rfl, Nat.zero_le _, .nil, Nat.zero_le _, .nil⟩
         ·exact absurd (h94r.symm.trans h95) (by decide)
        ·have h94r := h94; try simp only [zz1, zz2, zz3, zz4, zz5, zz6, zz7, zz8, zz9, zza, zzb] at h94
         refine wp_region_lit ?_
         refine o_eqS HE rfl rfl rfl ?_; clear HE; intro a HE
         refine o_assign HE rfl rfl ?_; clear HE; intro a HE
         refine hK91 _ _ ?_; clear hK91
         refine cond HE rfl (fun h133 => ?_) (fun h133 => ?_)
         ·have h133r := h133; try simp only [zz1, zz2, zz3, zz4, zz5, zz6, zz7, zz8, zz9, zza, zzb] at h133
          refine wp_seq_k (fun K hK => ?_); refine wp_region_lit ?_
          refine o_fld HE rfl rfl T.f44_2 ?_; clear HE; intro a HE
          refine o_st HE HS rfl rfl rfl T.s3 (.here .here) rfl ?_; clear HS; intro w HS
          refine hK _ _ ?_; clear hK K
          refine wp_seq_k (fun K136 hK135 => ?_)
          refine wp_seq_k (fun K hK => ?_); refine wp_region_lit ?_
          refine o_move HE rfl rfl ?_; clear HE; intro a HE
          refine o_ixL HE rfl rfl rfl T.l29 ⟨by omega, by omega⟩ ?_; clear HE; intro a HE
          refine o_ldI HE rfl HS rfl T.s9 el41 (j := 0) rfl rfl ?_; clear HE; intro a HE
          refine o_eqS HE rfl rfl rfl ?_; clear HE; intro a HE
          refine hK _ _ ?_; clear hK K
          refine cond HE rfl (fun h138 => ?_) (fun h138 => ?_)
          ·have h138r := h138; try simp only [zz1, zz2, zz3, zz4, zz5, zz6, zz7, zz8, zz9, zza, zzb] at h138
           refine wp_region_lit ?_
           refine o_fld HE rfl rfl T.f44_2 ?_; clear HE; intro a HE
           refine o_st HE HS rfl rfl rfl T.s3 (.here .here) rfl ?_; clear HS; intro w HS
           refine hK135 _ _ ?_; clear hK135
           refine wp_seq_k (fun K hK => ?_); refine wp_region_lit ?_
           refine o_move HE rfl rfl ?_; clear HE; intro a HE
           refine o_lenL HE rfl rfl Tryd.underlying29 ?_; clear HE; intro a HE
           refine o_gtr HE rfl rfl rfl ?_; clear HE; intro a HE
           refine hK _ _ ?_; clear hK K
           refine cond HE rfl (fun h140 => ?_) (fun h140 => ?_)
           ·have h140r := h140; try simp only [zz1, zz2, zz3, zz4, zz5, zz6, zz7, zz8, zz9, zza, zzb] at h140
            refine wp_region_lit ?_
            refine o_assign HE rfl rfl ?_; clear HE; intro a HE
            refine hK39 _ _ ?_; clear hK39
            refine wp_seq_k (fun K142 hK141 => ?_)
            refine wp_seq_k (fun K hK => ?_); refine wp_region_lit ?_
            refine o_move HE rfl rfl ?_; clear HE; intro a HE
            refine o_neI HE rfl rfl rfl ?_; clear HE; intro a HE
            refine hK _ _ ?_; clear hK K
            refine cond HE rfl (fun h144 => ?_) (fun h144 => ?_)
            ·have h144r := h144; try simp only [zz1, zz2, zz3, zz4, zz5, zz6, zz7, zz8, zz9, zza, zzb] at h144
             refine wp_seq_k (fun K hK => ?_); refine wp_region_lit ?_
             refine o_ldA HE rfl HS rfl T.a44 (.there (.there (.there (.here .here)))) rfl ?_; clear HE; intro a HE
             refine o_move HE rfl rfl ?_; clear HE; intro a HE
             refine o_stA HE HS rfl rfl rfl T.a44 (.there (.there (.there (.there (.here .here))))) rfl ?_; clear HS; intro w HS
             refine o_assign HE rfl rfl ?_; clear HE; intro a HE
             refine hK _ _ ?_; clear hK K
             refine wp_ret ?_
             show Q .ret _ _
             refine ret hQ HE rfl (HE.resA HS rfl T.a44 (.there (.there (.there (.there (.here .here))))) rfl (HE.res rfl .nil)) ⟨_, _, HS.stop (List.nil_sublist _), rfl, ?_⟩
             have hc0 : erv (C9 ((wordsS (noteS s).1).1.getD 0 [])) = 0 := by simpa [C9] using h19
             have g1 := getD_at (l := (wordsS (noteS s).1).1) (i := 1) (by omega)
             have hc1 : nameE ((wordsS (noteS s).1).1.getD 1 []) = 0 := by simpa using h31
             have g2 := getD_at (l := (wordsS (noteS s).1).1) (i := 2) (by omega)
             have hcode : (allS (wordsS (noteS s).1).1).2.2 = 2 := by rw [(all_info g0 hc0 g1 hc1 g2 h133).1, if_pos (by omega)]
             have he : parseE s = (E0, 2) := parseE_err' hn1 hn2 (hcode) (by decide)
             rw [he]
             exact ⟨_, _, _, _, rfl, Nat.zero_le _, .nil, Nat.zero_le _, .nil⟩
            ·exact absurd h144 (by decide)
           ·have h140r := h140; try simp only [zz1, zz2, zz3, zz4, zz5, zz6, zz7, zz8, zz9, zza, zzb] at h140
            refine wp_skip ?_
            refine hK39 _ _ ?_; clear hK39
            refine wp_seq_k (fun K147 hK146 => ?_)
            refine wp_seq_k (fun K hK => ?_); refine wp_region_lit ?_
            refine o_move HE rfl rfl ?_; clear HE; intro a HE
            refine o_neI HE rfl rfl rfl ?_; clear HE; intro a HE
            refine hK _ _ ?_; clear hK K
            refine cond HE rfl (fun h149 => ?_) (fun h149 => ?_)
            ·exact absurd (h31r.symm.trans h149) (by decide)
            ·have h149r := h149; try simp only [zz1, zz2, zz3, zz4, zz5, zz6, zz7, zz8, zz9, zza, zzb] at h149
             refine wp_skip ?_
             refine hK146 _ _ ?_; clear hK146
             refine wp_seq_k (fun K151 hK150 => ?_)
             replace HS := HS.conv (L2 := [(0, _), (1, _), (2, _), (3, _), (4, _), (5, _), (6, _), (7, _), (8, _), (9, _), (10, _), (11, _), (12, _), (13, _)]) (.here .here) ⟨rfl, rfl, rfl, rfl, rfl, rfl, rfl, rfl, rfl, rfl, rfl, rfl, rfl, rfl, trivial⟩
             replace HS := HS.conv (L2 := [(0, _), (1, _), (2, _)]) (.there (.here .here)) ⟨rfl, rfl, rfl, trivial⟩
             replace HS := HS.conv (L2 := [(0, _), (1, _), (2, _), (3, _)]) (.there (.there (.here .here))) ⟨rfl, rfl, rfl, rfl, trivial⟩
             replace HS := HS.conv (L2 := [(0, _), (1, _), (2, _), (3, _), (4, _), (5, _), (6, _), (7, _), (8, _), (9, _), (10, _), (11, _), (12, _), (13, _)]) (.there (.there (.there (.here .here)))) ⟨rfl, rfl, rfl, rfl, rfl, rfl, rfl, rfl, rfl, rfl, rfl, rfl, rfl, rfl, trivial⟩
             replace HE := HE.cut (L' := [(0, str s), (2, .pointer (some ⟨B2, 0, none⟩)), (3, .int .i64 0), (4, .pointer (some ⟨B4, 0, none⟩)), (5, .pointer (some ⟨B5, 0, none⟩)), (6, .slice (some ⟨eb14, eo14, none⟩) ((wordsS ((noteS s).1)).1.length) vc4), (8, .int .i64 (okv (countS (((wordsS ((noteS s).1)).1).getD 0 []) 9223372036854775807))), (9, .int .i64 (nameE (((wordsS ((noteS s).1)).1).getD 1 []))), (10, .pointer (some ⟨B10, 0, none⟩)), (11, .pointer (some ⟨B11, 0, none⟩)), (15, .agg #[.int .i64 0, .int .i64 0, .int .i64 0, str [], .int .i64 0, .int .i64 0, .int .i64 0, .int .i64 0, str [], .int .i64 0, .slice none 0 0, .slice none 0 0, .bool false, str []]), (16, str s), (17, .agg #[str ((noteS s).1), str ((noteS s).2.1), .bool ((noteS s).2.2.1), .bool (decide ((noteS s).2.2.2 = 0))]), (18, .tuple #[.slice (some ⟨eb14, eo14, none⟩) ((wordsS ((noteS s).1)).1.length) vc4, .bool (decide ((wordsS ((noteS s).1)).2 = 0))]), (19, .pointer (some ⟨B5, 0, none⟩)), (20, str ((noteS s).1)), (21, .tuple #[.slice (some ⟨eb14, eo14, none⟩) ((wordsS ((noteS s).1)).1.length) vc4, .bool (decide ((wordsS ((noteS s).1)).2 = 0))]), (22, .slice (some ⟨eb14, eo14, none⟩) ((wordsS ((noteS s).1)).1.length) vc4), (23, .bool (decide ((wordsS ((noteS s).1)).2 = 0))), (30, .bool ((!(decide ((noteS s).2.2.2 = 0))) || (!(decide ((wordsS ((noteS s).1)).2 = 0))))), (32, .tuple #[.int .i64 (okv (countS (((wordsS ((noteS s).1)).1).getD 0 []) 9223372036854775807)), .int .i64 (erv (countS (((wordsS ((noteS s).1)).1).getD 0 []) 9223372036854775807))]), (33, .slice (some ⟨eb14, eo14, none⟩) ((wordsS ((noteS s).1)).1.length) vc4), (34, .pointer (some ⟨eb14, eo14 + (0 : Int).toNat * 1, none⟩)), (35, str (((wordsS ((noteS s).1)).1).getD 0 [])), (36, .tuple #[.int .i64 (okv (countS (((wordsS ((noteS s).1)).1).getD 0 []) 9223372036854775807)), .int .i64 (erv (countS (((wordsS ((noteS s).1)).1).getD 0 []) 9223372036854775807))]), (37, .int .i64 (okv (countS (((wordsS ((noteS s).1)).1).getD 0 []) 9223372036854775807))), (38, .int .i64 (erv (countS (((wordsS ((noteS s).1)).1).getD 0 []) 9223372036854775807))), (39, .int .i64 (erv (countS (((wordsS ((noteS s).1)).1).getD 0 []) 9223372036854775807))), (40, .bool (!decide ((erv (countS (((wordsS ((noteS s).1)).1).getD 0 []) 9223372036854775807)) = 0))), (43, .slice (some ⟨eb14, eo14, none⟩) ((wordsS ((noteS s).1)).1.length) vc4), (44, .int .i64 ((wordsS ((noteS s).1)).1.length : Int)), (45, .bool (decide (((wordsS ((noteS s).1)).1.length : Int) < 2))), (47, .tuple #[.agg #[.int .i64 ((parseV (((wordsS ((noteS s).1)).1).getD 1 [])).1.k), .int .i64 ((parseV (((wordsS ((noteS s).1)).1).getD 1 [])).1.n), str ((parseV (((wordsS ((noteS s).1)).1).getD 1 [])).1.s)], .int .i64 (nameE (((wordsS ((noteS s).1)).1).getD 1 []))]), (48, .slice (some ⟨eb14, eo14, none⟩) ((wordsS ((noteS s).1)).1.length) vc4), (49, .pointer (some ⟨eb14, eo14 + (1 : Int).toNat * 1, none⟩)), (50, str (((wordsS ((noteS s).1)).1).getD 1 [])), (51, .tuple #[.agg #[.int .i64 ((parseV (((wordsS ((noteS s).1)).1).getD 1 [])).1.k), .int .i64 ((parseV (((wordsS ((noteS s).1)).1).getD 1 [])).1.n), str ((parseV (((wordsS ((noteS s).1)).1).getD 1 [])).1.s)], .int .i64 (nameE (((wordsS ((noteS s).1)).1).getD 1 []))]), (52, .agg #[.int .i64 ((parseV (((wordsS ((noteS s).1)).1).getD 1 [])).1.k), .int .i64 ((parseV (((wordsS ((noteS s).1)).1).getD 1 [])).1.n), str ((parseV (((wordsS ((noteS s).1)).1).getD 1 [])).1.s)]), (53, .int .i64 (nameE (((wordsS ((noteS s).1)).1).getD 1 []))), (54, .int .i64 (nameE (((wordsS ((noteS s).1)).1).getD 1 []))), (55, .bool (!decide ((nameE (((wordsS ((noteS s).1)).1).getD 1 [])) = 0))), (58, .slice (some ⟨eb14, eo14, none⟩) ((wordsS ((noteS s).1)).1.length) vc4), (59, .int .i64 ((wordsS ((noteS s).1)).1.length : Int)), (60, .bool (decide (((wordsS ((noteS s).1)).1.length : Int) < 3))), (62, .slice (some ⟨eb14, eo14, none⟩) ((wordsS ((noteS s).1)).1.length) vc4), (63, .pointer (some ⟨eb14, eo14 + (2 : Int).toNat * 1, none⟩)), (64, str (((wordsS ((noteS s).1)).1).getD 2 [])), (65, .bool ((((wordsS ((noteS s).1)).1).getD 2 []) == [105, 110, 118, 111, 107, 101])), (66, .bool ((((wordsS ((noteS s).1)).1).getD 2 []) == [105, 110, 118, 111, 107, 101])), (73, .bool ((((wordsS ((noteS s).1)).1).getD 2 []) == [111, 107])), (74, .bool ((((wordsS ((noteS s).1)).1).getD 2 []) == [111, 107])), (101, .bool ((((wordsS ((noteS s).1)).1).getD 2 []) == [105, 110, 102, 111])), (102, .bool ((((wordsS ((noteS s).1)).1).getD 2 []) == [102, 97, 105, 108])), (103, .bool ((((wordsS ((noteS s).1)).1).getD 2 []) == [105, 110, 102, 111])), (104, .pointer (some ⟨B11, 4, none⟩)), (105, .slice (some ⟨eb14, eo14, none⟩) ((wordsS ((noteS s).1)).1.length) vc4), (106, .pointer (some ⟨eb14, eo14 + (2 : Int).toNat * 1, none⟩)), (107, str (((wordsS ((noteS s).1)).1).getD 2 [])), (108, .bool ((((wordsS ((noteS s).1)).1).getD 2 []) == [105, 110, 102, 111])), (109, .pointer (some ⟨B11, 4, none⟩)), (110, .slice (some ⟨eb14, eo14, none⟩) ((wordsS ((noteS s).1)).1.length) vc4), (111, .int .i64 ((wordsS ((noteS s).1)).1.length : Int)), (112, .bool (decide (3 < ((wordsS ((noteS s).1)).1.length : Int)))), (113, .int .i64 (nameE (((wordsS ((noteS s).1)).1).getD 1 []))), (114, .bool (!decide ((nameE (((wordsS ((noteS s).1)).1).getD 1 [])) = 0)))]) ⟨rfl, rfl, rfl, rfl, rfl, rfl, rfl, rfl, rfl, rfl, rfl, rfl, rfl, rfl, rfl, rfl, rfl, rfl, rfl, rfl, rfl, rfl, rfl, rfl, rfl, rfl, rfl, rfl, rfl, rfl, rfl, rfl, rfl, rfl, rfl, rfl, rfl, rfl, rfl, rfl, rfl, rfl, rfl, rfl, rfl, rfl, rfl, rfl, rfl, rfl, rfl, rfl, rfl, rfl, rfl, rfl, rfl, rfl, rfl, rfl, rfl, rfl, rfl, rfl, rfl, trivial⟩
             refine drawnF (fun f G' w => Heap.le G4 G' ∧ St w0 G [] G' w [[(B11, Cells 44 [(0, bif f 7 then .int .i64 (okv (countS (((wordsS ((noteS s).1)).1).getD 0 []) 9223372036854775807)) else .int .i64 0), (1, bif f 9 then .int .i64 ((parseV (((wordsS ((noteS s).1)).1).getD 1 [])).1.k) else .int .i64 0), (2, bif f 9 then .int .i64 ((parseV (((wordsS ((noteS s).1)).1).getD 1 [])).1.n) else .int .i64 0), (3, bif f 9 then str ((parseV (((wordsS ((noteS s).1)).1).getD 1 [])).1.s) else str []), (4, .int .i64 4), (5, .int .i64 0), (6, .int .i64 0), (7, .int .i64 0), (8, str []), (9, .int .i64 0), (10, .slice none 0 0), (11, .slice none 0 0), (12, bif f 11 then .bool ((noteS s).2.2.1) else .bool false), (13, bif f 13 then str ((noteS s).2.1) else str [])])], [(B10, Cells 41 [(0, .int .i64 ((parseV (((wordsS ((noteS s).1)).1).getD 1 [])).1.k)), (1, .int .i64 ((parseV (((wordsS ((noteS s).1)).1).getD 1 [])).1.n)), (2, str ((parseV (((wordsS ((noteS s).1)).1).getD 1 [])).1.s))])], [(B5, Cells 97 [(0, str ((noteS s).1)), (1, str ((noteS s).2.1)), (2, .bool ((noteS s).2.2.1)), (3, .bool (decide ((noteS s).2.2.2 = 0)))])], [(B4, Cells 44 [(0, .int .i64 0), (1, .int .i64 0), (2, .int .i64 0), (3, str []), (4, .int .i64 0), (5, .int .i64 0), (6, .int .i64 0), (7, .int .i64 0), (8, str []), (9, .int .i64 0), (10, .slice none 0 0), (11, .slice none 0 0), (12, .bool false), (13, str [])])], [(B2, Cells 44 [(0, .int .i64 0), (1, .int .i64 0), (2, .int .i64 0), (3, str []), (4, .int .i64 0), (5, .int .i64 0), (6, .int .i64 0), (7, .int .i64 0), (8, str []), (9, .int .i64 0), (10, .slice none 0 0), (11, .slice none 0 0), (12, .bool false), (13, str [])])]]) [fun v _ => v = .int .i64 (okv (countS (((wordsS ((noteS s).1)).1).getD 0 []) 9223372036854775807)), fun v _ => v = .agg #[.int .i64 ((parseV (((wordsS ((noteS s).1)).1).getD 1 [])).1.k), .int .i64 ((parseV (((wordsS ((noteS s).1)).1).getD 1 [])).1.n), str ((parseV (((wordsS ((noteS s).1)).1).getD 1 [])).1.s)], fun v _ => v = .pointer (some ⟨B5, 2, none⟩), fun v _ => v = .bool ((noteS s).2.2.1), fun v _ => v = .pointer (some ⟨B5, 1, none⟩), fun v _ => v = str ((noteS s).2.1), fun v _ => v = .pointer (some ⟨B11, 0, none⟩), fun _ _ => True, fun v _ => v = .pointer (some ⟨B11, 1, none⟩), fun _ _ => True, fun v _ => v = .pointer (some ⟨B11, 12, none⟩), fun _ _ => True, fun v _ => v = .pointer (some ⟨B11, 13, none⟩), fun _ _ => True] [] T.mix rfl HE ⟨Heap.le.refl _, HS.drew⟩ rfl (by simp) (AllM.get ⟨fun _ _ _ _ h => h, fun _ _ _ _ h => h, fun _ _ _ _ h => h, fun _ _ _ _ h => h, fun _ _ _ _ h => h, fun _ _ _ _ h => h, fun _ _ _ _ h => h, fun _ _ _ _ h => h, fun _ _ _ _ h => h, fun _ _ _ _ h => h, fun _ _ _ _ h => h, fun _ _ _ _ h => h, fun _ _ _ _ h => h, fun _ _ _ _ h => h, trivial⟩) ⟨?_, ?_, ?_, ?_, ?_, ?_, ?_, ?_, ?_, ?_, ?_, ?_, ?_, ?_, trivial⟩ ?_
             ·intro a w G1 f hcl hfi hon hW HE hp hO; obtain ⟨hl, HS⟩ := hW
              refine o_move HE rfl rfl ?_; clear HE; intro a HE
              exact ⟨_, _, Heap.le.refl _, ⟨hl, HS⟩, fun d hd => (by cases hd; exact HE.get _ _ rfl), HE.defers, rfl⟩
             ·intro a w G1 f hcl hfi hon hW HE hp hO; obtain ⟨hl, HS⟩ := hW
              refine o_ldA HE rfl HS rfl T.a41 (.there (.here .here)) rfl ?_; clear HE; intro a HE
              exact ⟨_, _, Heap.le.refl _, ⟨hl, HS⟩, fun d hd => (by cases hd; exact HE.get _ _ rfl), HE.defers, rfl⟩
             ·intro a w G1 f hcl hfi hon hW HE hp hO; obtain ⟨hl, HS⟩ := hW
              refine o_fld HE rfl rfl T.f97_2 ?_; clear HE; intro a HE
              exact ⟨_, _, Heap.le.refl _, ⟨hl, HS⟩, fun d hd => (by cases hd; exact HE.get _ _ rfl), HE.defers, rfl⟩
             ·intro a w G1 f hcl hfi hon hW HE hp hO; obtain ⟨hl, HS⟩ := hW
              obtain ⟨_, e2, rfl⟩ := hp 2 119 _ (hon 2 rfl) rfl rfl; replace HE := HE.add e2
              refine o_ld HE rfl HS rfl T.s4 (.there (.there (.here .here))) rfl ?_; clear HE; intro a HE
              exact ⟨_, _, Heap.le.refl _, ⟨hl, HS⟩, fun d hd => (by cases hd; exact HE.get _ _ rfl), HE.defers, rfl⟩
             ·intro a w G1 f hcl hfi hon hW HE hp hO; obtain ⟨hl, HS⟩ := hW
              refine o_fld HE rfl rfl T.f97_1 ?_; clear HE; intro a HE
              exact ⟨_, _, Heap.le.refl _, ⟨hl, HS⟩, fun d hd => (by cases hd; exact HE.get _ _ rfl), HE.defers, rfl⟩
             ·intro a w G1 f hcl hfi hon hW HE hp hO; obtain ⟨hl, HS⟩ := hW
              obtain ⟨_, e4, rfl⟩ := hp 4 121 _ (hon 4 rfl) rfl rfl; replace HE := HE.add e4
              refine o_ld HE rfl HS rfl T.s9 (.there (.there (.here .here))) rfl ?_; clear HE; intro a HE
              exact ⟨_, _, Heap.le.refl _, ⟨hl, HS⟩, fun d hd => (by cases hd; exact HE.get _ _ rfl), HE.defers, rfl⟩
             ·intro a w G1 f hcl hfi hon hW HE hp hO; obtain ⟨hl, HS⟩ := hW
              refine o_fld HE rfl rfl T.f44_0 ?_; clear HE; intro a HE
              exact ⟨_, _, Heap.le.refl _, ⟨hl, HS⟩, fun d hd => (by cases hd; exact HE.get _ _ rfl), HE.defers, rfl⟩
             ·intro a w G1 f hcl hfi hon hW HE hp hO; obtain ⟨hl, HS⟩ := hW
              obtain ⟨_, e6, rfl⟩ := hp 6 123 _ (hon 6 rfl) rfl rfl; replace HE := HE.add e6
              obtain ⟨_, e0, rfl⟩ := hp 0 117 _ (hon 0 rfl) rfl rfl; replace HE := HE.add e0
              refine o_st HE HS rfl rfl rfl T.s2 (.here .here) rfl ?_; clear HS; intro w HS
              replace HS := HS.conv (L2 := [(0, _), (1, _), (2, _), (3, _), (4, _), (5, _), (6, _), (7, _), (8, _), (9, _), (10, _), (11, _), (12, _), (13, _)]) (.here .here) ⟨rfl, rfl, rfl, rfl, rfl, rfl, rfl, rfl, rfl, rfl, rfl, rfl, rfl, rfl, trivial⟩
              exact ⟨.bool true, _, Heap.le.refl _, ⟨hl, HS⟩, fun d hd => (by cases hd), HE.defers, trivial⟩
             ·intro a w G1 f hcl hfi hon hW HE hp hO; obtain ⟨hl, HS⟩ := hW
              refine o_fld HE rfl rfl T.f44_1 ?_; clear HE; intro a HE
              exact ⟨_, _, Heap.le.refl _, ⟨hl, HS⟩, fun d hd => (by cases hd; exact HE.get _ _ rfl), HE.defers, rfl⟩
             ·intro a w G1 f hcl hfi hon hW HE hp hO; obtain ⟨hl, HS⟩ := hW
              obtain ⟨_, e8, rfl⟩ := hp 8 124 _ (hon 8 rfl) rfl rfl; replace HE := HE.add e8
              obtain ⟨_, e1, rfl⟩ := hp 1 118 _ (hon 1 rfl) rfl rfl; replace HE := HE.add e1
              refine o_stA HE HS rfl rfl rfl T.a41 (.here .here) rfl ?_; clear HS; intro w HS
              replace HS := HS.conv (L2 := [(0, _), (1, _), (2, _), (3, _), (4, _), (5, _), (6, _), (7, _), (8, _), (9, _), (10, _), (11, _), (12, _), (13, _)]) (.here .here) ⟨rfl, rfl, rfl, rfl, rfl, rfl, rfl, rfl, rfl, rfl, rfl, rfl, rfl, rfl, trivial⟩
              exact ⟨.bool true, _, Heap.le.refl _, ⟨hl, HS⟩, fun d hd => (by cases hd), HE.defers, trivial⟩
             ·intro a w G1 f hcl hfi hon hW HE hp hO; obtain ⟨hl, HS⟩ := hW
              refine o_fld HE rfl rfl T.f44_8 ?_; clear HE; intro a HE
              exact ⟨_, _, Heap.le.refl _, ⟨hl, HS⟩, fun d hd => (by cases hd; exact HE.get _ _ rfl), HE.defers, rfl⟩
             ·intro a w G1 f hcl hfi hon hW HE hp hO; obtain ⟨hl, HS⟩ := hW
              obtain ⟨_, e10, rfl⟩ := hp 10 125 _ (hon 10 rfl) rfl rfl; replace HE := HE.add e10
              obtain ⟨_, e3, rfl⟩ := hp 3 120 _ (hon 3 rfl) rfl rfl; replace HE := HE.add e3
              refine o_st HE HS rfl rfl rfl T.s4 (.here .here) rfl ?_; clear HS; intro w HS
              replace HS := HS.conv (L2 := [(0, _), (1, _), (2, _), (3, _), (4, _), (5, _), (6, _), (7, _), (8, _), (9, _), (10, _), (11, _), (12, _), (13, _)]) (.here .here) ⟨rfl, rfl, rfl, rfl, rfl, rfl, rfl, rfl, rfl, rfl, rfl, rfl, rfl, rfl, trivial⟩
              exact ⟨.bool true, _, Heap.le.refl _, ⟨hl, HS⟩, fun d hd => (by cases hd), HE.defers, trivial⟩
             ·intro a w G1 f hcl hfi hon hW HE hp hO; obtain ⟨hl, HS⟩ := hW
              refine o_fld HE rfl rfl T.f44_9 ?_; clear HE; intro a HE
              exact ⟨_, _, Heap.le.refl _, ⟨hl, HS⟩, fun d hd => (by cases hd; exact HE.get _ _ rfl), HE.defers, rfl⟩
             ·intro a w G1 f hcl hfi hon hW HE hp hO; obtain ⟨hl, HS⟩ := hW
              obtain ⟨_, e12, rfl⟩ := hp 12 126 _ (hon 12 rfl) rfl rfl; replace HE := HE.add e12
              obtain ⟨_, e5, rfl⟩ := hp 5 122 _ (hon 5 rfl) rfl rfl; replace HE := HE.add e5
              refine o_st HE HS rfl rfl rfl T.s9 (.here .here) rfl ?_; clear HS; intro w HS
              replace HS := HS.conv (L2 := [(0, _), (1, _), (2, _), (3, _), (4, _), (5, _), (6, _), (7, _), (8, _), (9, _), (10, _), (11, _), (12, _), (13, _)]) (.here .here) ⟨rfl, rfl, rfl, rfl, rfl, rfl, rfl, rfl, rfl, rfl, rfl, rfl, rfl, rfl, trivial⟩
              exact ⟨.bool true, _, Heap.le.refl _, ⟨hl, HS⟩, fun d hd => (by cases hd), HE.defers, trivial⟩
             clear HE HS; intro a w G152 f hle153 hall HW HE hp; obtain ⟨_, HS⟩ := HW
             have hfw7 := hall 7 (by decide)
             have hfw9 := hall 9 (by decide)
             have hfw11 := hall 11 (by decide)
             have hfw13 := hall 13 (by decide)
             simp only [hfw7, hfw9, hfw11, hfw13, cond_true] at HS
             replace hR4 := hR4.le hle153
             clear hp hall
             refine hK150 _ _ ?_; clear hK150
             refine wp_seq_k (fun K hK => ?_); refine wp_region_lit ?_
             refine o_ldA HE rfl HS rfl T.a44 (.here .here) rfl ?_; clear HE; intro a HE
             refine o_stA HE HS rfl rfl rfl T.a44 (.there (.there (.there (.there (.here .here))))) rfl ?_; clear HS; intro w HS
             refine o_assign HE rfl rfl ?_; clear HE; intro a HE
             refine hK _ _ ?_; clear hK K
             refine wp_ret ?_
             show Q .ret _ _
             refine ret hQ HE rfl (HE.resA HS rfl T.a44 (.there (.there (.there (.there (.here .here))))) rfl (HE.res rfl .nil)) ⟨_, _, HS.stop (List.nil_sublist _), rfl, ?_⟩
             have hc0 : erv (C9 ((wordsS (noteS s).1).1.getD 0 [])) = 0 := by simpa [C9] using h19
             have g1 := getD_at (l := (wordsS (noteS s).1).1) (i := 1) (by omega)
             have hc1 : nameE ((wordsS (noteS s).1).1.getD 1 []) = 0 := by simpa using h31
             have g2 := getD_at (l := (wordsS (noteS s).1).1) (i := 2) (by omega)
             have hcode : (allS (wordsS (noteS s).1).1).2.2 = 0 := by rw [(all_info g0 hc0 g1 hc1 g2 h133).1, if_neg (by omega)]
             have he : parseE s = ({ (⟨okv (C9 ((wordsS (noteS s).1).1.getD 0 [])), (parseV ((wordsS (noteS s).1).1.getD 1 [])).1, 4, 0, ⟨0, 0, []⟩, 0, [], [], false, []⟩ : Evt) with noted := (noteS s).2.2.1, note := (noteS s).2.1 }, 0) := parseE_yes' hn1 hn2 (hcode) ((all_info g0 hc0 g1 hc1 g2 h133).2)
             rw [he]
             exact ⟨_, _, _, _, rfl, Nat.zero_le _, .nil, Nat.zero_le _, .nil⟩
          ·exact absurd (h133r.symm.trans h138) (by decide)
         ·have h133r := h133; try simp only [zz1, zz2, zz3, zz4, zz5, zz6, zz7, zz8, zz9, zza, zzb] at h133
          refine wp_region_lit ?_
          refine o_assign HE rfl rfl ?_; clear HE; intro a HE
          refine hK39 _ _ ?_; clear hK39
          refine wp_seq_k (fun K156 hK155 => ?_)
          refine wp_seq_k (fun K hK => ?_); refine wp_region_lit ?_
          refine o_move HE rfl rfl ?_; clear HE; intro a HE
          refine o_neI HE rfl rfl rfl ?_; clear HE; intro a HE
          refine hK _ _ ?_; clear hK K
          refine cond HE rfl (fun h158 => ?_) (fun h158 => ?_)
          ·have h158r := h158; try simp only [zz1, zz2, zz3, zz4, zz5, zz6, zz7, zz8, zz9, zza, zzb] at h158
           refine wp_seq_k (fun K hK => ?_); refine wp_region_lit ?_
           refine o_ldA HE rfl HS rfl T.a44 (.there (.there (.there (.here .here)))) rfl ?_; clear HE; intro a HE
           refine o_move HE rfl rfl ?_; clear HE; intro a HE
           refine o_stA HE HS rfl rfl rfl T.a44 (.there (.there (.there (.there (.here .here))))) rfl ?_; clear HS; intro w HS
           refine o_assign HE rfl rfl ?_; clear HE; intro a HE
           refine hK _ _ ?_; clear hK K
           refine wp_ret ?_
           show Q .ret _ _
           refine ret hQ HE rfl (HE.resA HS rfl T.a44 (.there (.there (.there (.there (.here .here))))) rfl (HE.res rfl .nil)) ⟨_, _, HS.stop (List.nil_sublist _), rfl, ?_⟩
           have hc0 : erv (C9 ((wordsS (noteS s).1).1.getD 0 [])) = 0 := by simpa [C9] using h19
           have g1 := getD_at (l := (wordsS (noteS s).1).1) (i := 1) (by omega)
           have hc1 : nameE ((wordsS (noteS s).1).1.getD 1 []) = 0 := by simpa using h31
           have g2 := getD_at (l := (wordsS (noteS s).1).1) (i := 2) (by omega)
           have he : parseE s = (E0, 2) := parseE_err' hn1 hn2 (all_no g0 hc0 g1 hc1 g2 h44 h58 h94 h133) (by decide)
           rw [he]
           exact ⟨_, _, _, _, rfl, Nat.zero_le _, .nil, Nat.zero_le _, .nil⟩
          ·exact absurd h158 (by decide)

/-! `incognito/incognitoref07.Same` -/
set_option maxRecDepth 100000 in
set_option maxHeartbeats 4000000 in
theorem c_Same7 (xa : List Val) (Aa : Option Addr) (ca : Nat) (xb : List Val) (Ab : Option Addr) (cb : Nat) (w0 : World) (G : Heap) (hG : Sub G w0) (hRxa : Rd kVal G Aa xa) (hlxa : xa.length ≤ 9223372036854775807) (hRxb : Rd kVal G Ab xb) (hlxb : xb.length ≤ 9223372036854775807):
  Calls Tryd.prog 54 #[.slice Aa xa.length ca, .slice Ab xb.length cb] w0 (Ret w0 G (fun v _ => v = .bool (decide (xa = xb)))) := by
 refine enter Tryd.func54 rfl Tryd.ntmps54 rfl ?_
 intro Q hQ a HE
 have HS := St.start0 hG
 refine wp_seq_k (fun K hK => ?_); refine wp_region_lit ?_
 refine o_assign HE rfl rfl ?_; clear HE; intro a HE
 refine hK _ _ ?_; clear hK K
 refine wp_seq_k (fun K3 hK2 => ?_)
 refine wp_seq_k (fun K hK => ?_); refine wp_region_lit ?_
 refine o_move HE rfl rfl ?_; clear HE; intro a HE
 refine o_lenL HE rfl rfl Tryd.underlying42 ?_; clear HE; intro a HE
 refine o_move HE rfl rfl ?_; clear HE; intro a HE
 refine o_lenL HE rfl rfl Tryd.underlying42 ?_; clear HE; intro a HE
 refine o_neI HE rfl rfl rfl ?_; clear HE; intro a HE
 refine hK _ _ ?_; clear hK K
 refine cond HE rfl (fun h5 => ?_) (fun h5 => ?_)
 ·have h5r := h5; try simp only [zz1, zz2, zz3, zz4, zz5, zz6, zz7, zz8, zz9, zza, zzb] at h5
  refine wp_seq_k (fun K hK => ?_); refine wp_region_lit ?_
  refine o_assign HE rfl rfl ?_; clear HE; intro a HE
  refine hK _ _ ?_; clear hK K
  refine wp_ret ?_
  show Q .ret _ _
  refine ret hQ HE rfl (HE.res rfl .nil) ⟨_, _, HS.stop (List.nil_sublist _), rfl, ?_⟩
  show _ = _
  simp only [packed, Value.bool.injEq]
  exact (decide_eq_false fun e => by subst e; omega).symm
 ·have h5r := h5; try simp only [zz1, zz2, zz3, zz4, zz5, zz6, zz7, zz8, zz9, zza, zzb] at h5
  refine wp_skip ?_
  refine hK2 _ _ ?_; clear hK2
  refine wp_seq_k (fun K8 hK7 => ?_)
  refine wp_seq_k (fun K hK => ?_); refine wp_region_lit ?_
  refine o_assign HE rfl rfl ?_; clear HE; intro a HE
  refine hK _ _ ?_; clear hK K
  refine wp_block ?_
  refine loop (fun (i : Nat) a' w' => St w0 G [] G w' [] ∧ Env a' 26 [] [(0, .slice Aa xa.length ca), (1, .slice Ab xb.length cb), (4, .bool false), (5, .int .i64 (i : Int))] ∧ (i ≤ xa.length ∧ xa.take i = xb.take i)) (fun (i : Nat) => xa.length - i) 0 ⟨HS, HE.cut ⟨rfl, rfl, rfl, rfl, trivial⟩, ⟨Nat.zero_le _, rfl⟩⟩ ?_
  clear HE HS; intro i a w ⟨HS, HE, ⟨hi, ht⟩⟩
  refine wp_seq_k (fun K12 hK11 => ?_)
  refine wp_seq_k (fun K hK => ?_); refine wp_region_lit ?_
  refine o_move HE rfl rfl ?_; clear HE; intro a HE
  refine o_move HE rfl rfl ?_; clear HE; intro a HE
  refine o_lenL HE rfl rfl Tryd.underlying42 ?_; clear HE; intro a HE
  refine o_lss HE rfl rfl rfl ?_; clear HE; intro a HE
  refine hK _ _ ?_; clear hK K
  refine cond HE rfl (fun h14 => ?_) (fun h14 => ?_)
  ·have h14r := h14; try simp only [zz1, zz2, zz3, zz4, zz5, zz6, zz7, zz8, zz9, zza, zzb] at h14
   refine wp_skip ?_
   refine hK11 _ _ ?_; clear hK11
   refine wp_seq_k (fun K16 hK15 => ?_)
   refine wp_block ?_
   refine wp_seq_k (fun K18 hK17 => ?_)
   have hi19 : (i : Int).toNat < xa.length := by omega
   obtain ⟨eb19, eo19, hA19, el19⟩ := Rd.at hRxa (List.getElem?_eq_getElem hi19); cases hA19
   obtain ⟨x19, ex19⟩ : ∃ x, xa[(i : Int).toNat] = x := ⟨_, rfl⟩; rw [ex19] at el19
   have el19 := kVal_open el19
   have hi20 : (i : Int).toNat < xb.length := by omega
   obtain ⟨eb20, eo20, hA20, el20⟩ := Rd.at hRxb (List.getElem?_eq_getElem hi20); cases hA20
   obtain ⟨x20, ex20⟩ : ∃ x, xb[(i : Int).toNat] = x := ⟨_, rfl⟩; rw [ex20] at el20
   have el20 := kVal_open el20
   replace HE := HE.cut (L' := [(0, .slice (some ⟨eb19, eo19, none⟩) xa.length ca), (1, .slice (some ⟨eb20, eo20, none⟩) xb.length cb), (4, .bool false), (5, .int .i64 (i : Int)), (11, .int .i64 (i : Int)), (12, .slice (some ⟨eb19, eo19, none⟩) xa.length ca), (13, .int .i64 (xa.length : Int)), (14, .bool (decide ((i : Int) < (xa.length : Int))))]) ⟨rfl, rfl, rfl, rfl, rfl, rfl, rfl, rfl, trivial⟩
   refine drawnP [fun v => v = .slice (some ⟨eb19, eo19, none⟩) xa.length ca, fun v => v = .int .i64 (i : Int), fun v => v = .pointer (some ⟨eb19, eo19 + (i : Int).toNat * 3, none⟩), fun v => v = .agg #[.int .i64 x19.k, .int .i64 x19.n, str x19.s], fun v => v = .slice (some ⟨eb20, eo20, none⟩) xb.length cb, fun v => v = .int .i64 (i : Int), fun v => v = .pointer (some ⟨eb20, eo20 + (i : Int).toNat * 3, none⟩), fun v => v = .agg #[.int .i64 x20.k, .int .i64 x20.n, str x20.s], fun v => v = .bool (!(decide (x19.k = x20.k) && (decide (x19.n = x20.n) && (x19.s == x20.s && true))))] T.mix rfl HE HS rfl ⟨?_, ?_, ?_, ?_, ?_, ?_, ?_, ?_, ?_, trivial⟩ ?_
   ·intro a w G1 hl HS HE hp
    refine o_move HE rfl rfl ?_; clear HE; intro a HE
    exact ⟨_, _, HS, rfl, HE.get _ _ rfl, HE.defers, rfl⟩
   ·intro a w G1 hl HS HE hp
    refine o_move HE rfl rfl ?_; clear HE; intro a HE
    exact ⟨_, _, HS, rfl, HE.get _ _ rfl, HE.defers, rfl⟩
   ·intro a w G1 hl HS HE hp
    obtain ⟨_, e0, rfl⟩ := hp 0 17 _ rfl rfl rfl; replace HE := HE.add e0
    obtain ⟨_, e1, rfl⟩ := hp 1 18 _ rfl rfl rfl; replace HE := HE.add e1
    refine o_ixL HE rfl rfl rfl T.l42 ⟨by omega, by omega⟩ ?_; clear HE; intro a HE
    exact ⟨_, _, HS, rfl, HE.get _ _ rfl, HE.defers, rfl⟩
   ·intro a w G1 hl HS HE hp
    obtain ⟨_, e2, rfl⟩ := hp 2 19 _ rfl rfl rfl; replace HE := HE.add e2
    refine o_ldIA HE rfl HS rfl (el19.le hl) T.a41 ?_; clear HE; intro a HE
    exact ⟨_, _, HS, rfl, HE.get _ _ rfl, HE.defers, rfl⟩
   ·intro a w G1 hl HS HE hp
    refine o_move HE rfl rfl ?_; clear HE; intro a HE
    exact ⟨_, _, HS, rfl, HE.get _ _ rfl, HE.defers, rfl⟩
   ·intro a w G1 hl HS HE hp
    refine o_move HE rfl rfl ?_; clear HE; intro a HE
    exact ⟨_, _, HS, rfl, HE.get _ _ rfl, HE.defers, rfl⟩
   ·intro a w G1 hl HS HE hp
    obtain ⟨_, e4, rfl⟩ := hp 4 21 _ rfl rfl rfl; replace HE := HE.add e4
    obtain ⟨_, e5, rfl⟩ := hp 5 22 _ rfl rfl rfl; replace HE := HE.add e5
    refine o_ixL HE rfl rfl rfl T.l42 ⟨by omega, by omega⟩ ?_; clear HE; intro a HE
    exact ⟨_, _, HS, rfl, HE.get _ _ rfl, HE.defers, rfl⟩
   ·intro a w G1 hl HS HE hp
    obtain ⟨_, e6, rfl⟩ := hp 6 23 _ rfl rfl rfl; replace HE := HE.add e6
    refine o_ldIA HE rfl HS rfl (el20.le hl) T.a41 ?_; clear HE; intro a HE
    exact ⟨_, _, HS, rfl, HE.get _ _ rfl, HE.defers, rfl⟩
   ·intro a w G1 hl HS HE hp
    obtain ⟨_, e3, rfl⟩ := hp 3 20 _ rfl rfl rfl; replace HE := HE.add e3
    obtain ⟨_, e7, rfl⟩ := hp 7 24 _ rfl rfl rfl; replace HE := HE.add e7
    refine o_neA (b := decide (x19.k = x20.k) && (decide (x19.n = x20.n) && (x19.s == x20.s && true))) HE rfl rfl rfl T.q41 rfl rfl ?_; clear HE; intro a HE
    exact ⟨_, _, HS, rfl, HE.get _ _ rfl, HE.defers, rfl⟩
   clear HE HS; intro a w HS HE hp
   obtain ⟨_, e8, rfl⟩ := hp 8 25 _ rfl rfl; replace HE := HE.add e8
   clear hp
   refine hK17 _ _ ?_; clear hK17
   refine cond HE rfl (fun h21 => ?_) (fun h21 => ?_)
   ·have h21r := h21; try simp only [zz1, zz2, zz3, zz4, zz5, zz6, zz7, zz8, zz9, zza, zzb] at h21
    refine wp_seq_k (fun K hK => ?_); refine wp_region_lit ?_
    refine o_assign HE rfl rfl ?_; clear HE; intro a HE
    refine hK _ _ ?_; clear hK K
    refine wp_ret ?_
    show Q .ret _ _
    refine ret hQ HE rfl (HE.res rfl .nil) ⟨_, _, HS.stop (List.nil_sublist _), rfl, ?_⟩
    show _ = _
    simp only [packed, Value.bool.injEq]
    have hq := h21r
    rw [Bool.not_eq_true'] at hq
    exact (decide_eq_false fun e => by subst e; exact val_ne hq (ex19.symm.trans ex20)).symm
   ·have h21r := h21; try simp only [zz1, zz2, zz3, zz4, zz5, zz6, zz7, zz8, zz9, zza, zzb] at h21
    refine wp_skip ?_
    refine hK15 _ _ ?_; clear hK15
    refine wp_region_lit ?_
    refine o_move HE rfl rfl ?_; clear HE; intro a HE
    refine o_add HE rfl rfl rfl (by omega) ?_; clear HE; intro a HE
    refine o_assign HE rfl rfl ?_; clear HE; intro a HE
    have hlt : i < xa.length := by omega
    have hq := h21r
    rw [Bool.not_eq_false'] at hq
    have ht2 : xa.take (i + 1) = xb.take (i + 1) := take_snoc_eq7 ht hlt (by omega) (ex19.trans ((val_eq hq).trans ex20.symm))
    exact ⟨i + 1, ⟨HS, HE.cut ⟨rfl, rfl, rfl, rfl, trivial⟩, ⟨by omega, ht2⟩⟩, by omega⟩
  ·have h14r := h14; try simp only [zz1, zz2, zz3, zz4, zz5, zz6, zz7, zz8, zz9, zza, zzb] at h14
   refine wp_exit ?_
   refine hK7 _ _ ?_; clear hK7
   refine wp_seq_k (fun K hK => ?_); refine wp_region_lit ?_
   refine o_assign HE rfl rfl ?_; clear HE; intro a HE
   refine hK _ _ ?_; clear hK K
   refine wp_ret ?_
   show Q .ret _ _
   refine ret hQ HE rfl (HE.res rfl .nil) ⟨_, _, HS.stop (List.nil_sublist _), rfl, ?_⟩
   show _ = _
   simp only [packed, Value.bool.injEq]
   exact (decide_eq_true (by rwa [List.take_of_length_le (by omega), List.take_of_length_le (by omega)] at ht)).symm

/-! `incognito/incognitoref10.Same` -/
set_option maxRecDepth 100000 in
set_option maxHeartbeats 4000000 in
theorem c_SameE (x y : Evt) (A1x : Option Addr) (c1x : Nat) (A2x : Option Addr) (c2x : Nat) (A1y : Option Addr) (c1y : Nat) (A2y : Option Addr) (c2y : Nat) (w0 : World) (G : Heap) (hG : Sub G w0) (hr1x : Rd kVal G A1x x.args) (hr2x : Rd kVal G A2x x.out) (hl1x : x.args.length ≤ 9223372036854775807) (hl2x : x.out.length ≤ 9223372036854775807) (hr1y : Rd kVal G A1y y.args) (hr2y : Rd kVal G A2y y.out) (hl1y : y.args.length ≤ 9223372036854775807) (hl2y : y.out.length ≤ 9223372036854775807):
  Calls Tryd.prog 24 #[.agg #[.int .i64 x.time, .int .i64 x.client.k, .int .i64 x.client.n, str x.client.s, .int .i64 x.type, .int .i64 x.model, .int .i64 x.key.k, .int .i64 x.key.n, str x.key.s, .int .i64 x.op, .slice A1x x.args.length c1x, .slice A2x x.out.length c2x, .bool x.noted, str x.note], .agg #[.int .i64 y.time, .int .i64 y.client.k, .int .i64 y.client.n, str y.client.s, .int .i64 y.type, .int .i64 y.model, .int .i64 y.key.k, .int .i64 y.key.n, str y.key.s, .int .i64 y.op, .slice A1y y.args.length c1y, .slice A2y y.out.length c2y, .bool y.noted, str y.note]] w0 (Ret w0 G (fun v _ => v = .bool (decide (x = y)))) := by
 refine enter Tryd.func24 rfl Tryd.ntmps24 rfl ?_
 intro Q hQ a HE
 have HS := St.start0 hG
 refine wp_seq_k (fun K hK => ?_); refine wp_region_lit ?_
 refine o_boxL [(0, _), (1, _), (2, _), (3, _), (4, _), (5, _), (6, _), (7, _), (8, _), (9, _), (10, _), (11, _), (12, _), (13, _)] HE rfl HS rfl ⟨rfl, rfl, rfl, rfl, rfl, rfl, rfl, rfl, rfl, rfl, rfl, rfl, rfl, rfl, trivial⟩ ?_; clear HE HS; intro B2 w a HS HE
 refine o_boxL [(0, _), (1, _), (2, _), (3, _), (4, _), (5, _), (6, _), (7, _), (8, _), (9, _), (10, _), (11, _), (12, _), (13, _)] HE rfl HS rfl ⟨rfl, rfl, rfl, rfl, rfl, rfl, rfl, rfl, rfl, rfl, rfl, rfl, rfl, rfl, trivial⟩ ?_; clear HE HS; intro B3 w a HS HE
 refine o_assign HE rfl rfl ?_; clear HE; intro a HE
 refine hK _ _ ?_; clear hK K
 refine wp_seq_k (fun K hK => ?_); refine wp_region_lit ?_
 refine o_fld HE rfl rfl T.f44_0 ?_; clear HE; intro a HE
 refine o_ld HE rfl HS rfl T.s2 (.there (.here .here)) rfl ?_; clear HE; intro a HE
 refine o_fld HE rfl rfl T.f44_0 ?_; clear HE; intro a HE
 refine o_ld HE rfl HS rfl T.s2 (.here .here) rfl ?_; clear HE; intro a HE
 refine o_eqI HE rfl rfl rfl ?_; clear HE; intro a HE
 refine o_move HE rfl rfl ?_; clear HE; intro a HE
 refine cutL 6 (fun a' w' => w = w' ∧ Env a' 73 [] [(16, .bool ((decide (x.time = y.time)) && (decide (x.client.k = y.client.k) && (decide (x.client.n = y.client.n) && (x.client.s == y.client.s && true))))), (0, .agg #[.int .i64 x.time, .int .i64 x.client.k, .int .i64 x.client.n, str x.client.s, .int .i64 x.type, .int .i64 x.model, .int .i64 x.key.k, .int .i64 x.key.n, str x.key.s, .int .i64 x.op, .slice A1x x.args.length c1x, .slice A2x x.out.length c2x, .bool x.noted, str x.note]), (1, .agg #[.int .i64 y.time, .int .i64 y.client.k, .int .i64 y.client.n, str y.client.s, .int .i64 y.type, .int .i64 y.model, .int .i64 y.key.k, .int .i64 y.key.n, str y.key.s, .int .i64 y.op, .slice A1y y.args.length c1y, .slice A2y y.out.length c2y, .bool y.noted, str y.note]), (2, .pointer (some ⟨B2, 0, none⟩)), (3, .pointer (some ⟨B3, 0, none⟩)), (4, .bool false)]) ?_ ?_
 ·refine (Bool.eq_false_or_eq_true (decide (x.time = y.time))).elim (fun hb2 => ?_) (fun hb2 => ?_)
  ·skip
   have hk3 := hb2; try simp only [zz1, zz2, zz3, zz4, zz5, zz7, zz8, zz9, zza, zzb] at hk3
   refine op_on HE rfl rfl hb2 ?_
   refine o_fld HE rfl rfl T.f44_1 ?_; clear HE; intro a HE
   refine op_on HE rfl rfl hb2 ?_
   refine o_ldA HE rfl HS rfl T.a41 (.there (.here .here)) rfl ?_; clear HE; intro a HE
   refine op_on HE rfl rfl hb2 ?_
   refine o_fld HE rfl rfl T.f44_1 ?_; clear HE; intro a HE
   refine op_on HE rfl rfl hb2 ?_
   refine o_ldA HE rfl HS rfl T.a41 (.here .here) rfl ?_; clear HE; intro a HE
   refine op_on HE rfl rfl hb2 ?_
   refine o_eqA (b := decide (x.client.k = y.client.k) && (decide (x.client.n = y.client.n) && (x.client.s == y.client.s && true))) HE rfl rfl rfl T.q41 rfl rfl ?_; clear HE; intro a HE
   refine o_pick_t HE rfl rfl hb2 rfl ?_; clear HE; intro a HE
   exact ⟨rfl, HE.cut ⟨by rw [hb2]; rfl, rfl, rfl, rfl, rfl, rfl, trivial⟩⟩
  ·skip
   have hk4 := hb2; try simp only [zz1, zz2, zz3, zz4, zz5, zz7, zz8, zz9, zza, zzb] at hk4
   refine g_off HE rfl rfl rfl hb2 ?_; clear HE; intro a HE
   refine g_off HE rfl rfl rfl hb2 ?_; clear HE; intro a HE
   refine g_off HE rfl rfl rfl hb2 ?_; clear HE; intro a HE
   refine g_off HE rfl rfl rfl hb2 ?_; clear HE; intro a HE
   refine g_off HE rfl rfl rfl hb2 ?_; clear HE; intro a HE
   refine o_pick_f HE rfl rfl hb2 rfl ?_; clear HE; intro a HE
   exact ⟨rfl, HE.cut ⟨by rw [hb2]; rfl, rfl, rfl, rfl, rfl, rfl, trivial⟩⟩
 clear HE; rintro a _ ⟨rfl, HE⟩
 refine o_move HE rfl rfl ?_; clear HE; intro a HE
 refine cutL 6 (fun a' w' => w = w' ∧ Env a' 73 [] [(23, .bool (((decide (x.time = y.time)) && (decide (x.client.k = y.client.k) && (decide (x.client.n = y.client.n) && (x.client.s == y.client.s && true)))) && (decide (x.type = y.type)))), (0, .agg #[.int .i64 x.time, .int .i64 x.client.k, .int .i64 x.client.n, str x.client.s, .int .i64 x.type, .int .i64 x.model, .int .i64 x.key.k, .int .i64 x.key.n, str x.key.s, .int .i64 x.op, .slice A1x x.args.length c1x, .slice A2x x.out.length c2x, .bool x.noted, str x.note]), (1, .agg #[.int .i64 y.time, .int .i64 y.client.k, .int .i64 y.client.n, str y.client.s, .int .i64 y.type, .int .i64 y.model, .int .i64 y.key.k, .int .i64 y.key.n, str y.key.s, .int .i64 y.op, .slice A1y y.args.length c1y, .slice A2y y.out.length c2y, .bool y.noted, str y.note]), (2, .pointer (some ⟨B2, 0, none⟩)), (3, .pointer (some ⟨B3, 0, none⟩)), (4, .bool false)]) ?_ ?_
 ·refine (Bool.eq_false_or_eq_true ((decide (x.time = y.time)) && (decide (x.client.k = y.client.k) && (decide (x.client.n = y.client.n) && (x.client.s == y.client.s && true))))).elim (fun hb5 => ?_) (fun hb5 => ?_)
  ·skip
   have hk6 := hb5; try simp only [zz1, zz2, zz3, zz4, zz5, zz7, zz8, zz9, zza, zzb] at hk6
   refine op_on HE rfl rfl hb5 ?_
   refine o_fld HE rfl rfl T.f44_2 ?_; clear HE; intro a HE
   refine op_on HE rfl rfl hb5 ?_
   refine o_ld HE rfl HS rfl T.s3 (.there (.here .here)) rfl ?_; clear HE; intro a HE
   refine op_on HE rfl rfl hb5 ?_
   refine o_fld HE rfl rfl T.f44_2 ?_; clear HE; intro a HE
   refine op_on HE rfl rfl hb5 ?_
   refine o_ld HE rfl HS rfl T.s3 (.here .here) rfl ?_; clear HE; intro a HE
   refine op_on HE rfl rfl hb5 ?_
   refine o_eqI HE rfl rfl rfl ?_; clear HE; intro a HE
   refine o_pick_t HE rfl rfl hb5 rfl ?_; clear HE; intro a HE
   exact ⟨rfl, HE.cut ⟨by rw [hb5]; rfl, rfl, rfl, rfl, rfl, rfl, trivial⟩⟩
  ·skip
   have hk7 := hb5; try simp only [zz1, zz2, zz3, zz4, zz5, zz7, zz8, zz9, zza, zzb] at hk7
   refine g_off HE rfl rfl rfl hb5 ?_; clear HE; intro a HE
   refine g_off HE rfl rfl rfl hb5 ?_; clear HE; intro a HE
   refine g_off HE rfl rfl rfl hb5 ?_; clear HE; intro a HE
   refine g_off HE rfl rfl rfl hb5 ?_; clear HE; intro a HE
   refine g_off HE rfl rfl rfl hb5 ?_; clear HE; intro a HE
   refine o_pick_f HE rfl rfl hb5 rfl ?_; clear HE; intro a HE
   exact ⟨rfl, HE.cut ⟨by rw [hb5]; rfl, rfl, rfl, rfl, rfl, rfl, trivial⟩⟩
 clear HE; rintro a _ ⟨rfl, HE⟩
 refine o_move HE rfl rfl ?_; clear HE; intro a HE
 refine cutL 6 (fun a' w' => w = w' ∧ Env a' 73 [] [(30, .bool ((((decide (x.time = y.time)) && (decide (x.client.k = y.client.k) && (decide (x.client.n = y.client.n) && (x.client.s == y.client.s && true)))) && (decide (x.type = y.type))) && (decide (x.model = y.model)))), (0, .agg #[.int .i64 x.time, .int .i64 x.client.k, .int .i64 x.client.n, str x.client.s, .int .i64 x.type, .int .i64 x.model, .int .i64 x.key.k, .int .i64 x.key.n, str x.key.s, .int .i64 x.op, .slice A1x x.args.length c1x, .slice A2x x.out.length c2x, .bool x.noted, str x.note]), (1, .agg #[.int .i64 y.time, .int .i64 y.client.k, .int .i64 y.client.n, str y.client.s, .int .i64 y.type, .int .i64 y.model, .int .i64 y.key.k, .int .i64 y.key.n, str y.key.s, .int .i64 y.op, .slice A1y y.args.length c1y, .slice A2y y.out.length c2y, .bool y.noted, str y.note]), (2, .pointer (some ⟨B2, 0, none⟩)), (3, .pointer (some ⟨B3, 0, none⟩)), (4, .bool false)]) ?_ ?_
 ·refine (Bool.eq_false_or_eq_true (((decide (x.time = y.time)) && (decide (x.client.k = y.client.k) && (decide (x.client.n = y.client.n) && (x.client.s == y.client.s && true)))) && (decide (x.type = y.type)))).elim (fun hb8 => ?_) (fun hb8 => ?_)
  ·skip
   have hk9 := hb8; try simp only [zz1, zz2, zz3, zz4, zz5, zz7, zz8, zz9, zza, zzb] at hk9
   refine op_on HE rfl rfl hb8 ?_
   refine o_fld HE rfl rfl T.f44_3 ?_; clear HE; intro a HE
   refine op_on HE rfl rfl hb8 ?_
   refine o_ld HE rfl HS rfl T.s3 (.there (.here .here)) rfl ?_; clear HE; intro a HE
   refine op_on HE rfl rfl hb8 ?_
   refine o_fld HE rfl rfl T.f44_3 ?_; clear HE; intro a HE
   refine op_on HE rfl rfl hb8 ?_
   refine o_ld HE rfl HS rfl T.s3 (.here .here) rfl ?_; clear HE; intro a HE
   refine op_on HE rfl rfl hb8 ?_
   refine o_eqI HE rfl rfl rfl ?_; clear HE; intro a HE
   refine o_pick_t HE rfl rfl hb8 rfl ?_; clear HE; intro a HE
   exact ⟨rfl, HE.cut ⟨by rw [hb8]; rfl, rfl, rfl, rfl, rfl, rfl, trivial⟩⟩
  ·skip
   have hk10 := hb8; try simp only [zz1, zz2, zz3, zz4, zz5, zz7, zz8, zz9, zza, zzb] at hk10
   refine g_off HE rfl rfl rfl hb8 ?_; clear HE; intro a HE
   refine g_off HE rfl rfl rfl hb8 ?_; clear HE; intro a HE
   refine g_off HE rfl rfl rfl hb8 ?_; clear HE; intro a HE
   refine g_off HE rfl rfl rfl hb8 ?_; clear HE; intro a HE
   refine g_off HE rfl rfl rfl hb8 ?_; clear HE; intro a HE
   refine o_pick_f HE rfl rfl hb8 rfl ?_; clear HE; intro a HE
   exact ⟨rfl, HE.cut ⟨by rw [hb8]; rfl, rfl, rfl, rfl, rfl, rfl, trivial⟩⟩
 clear HE; rintro a _ ⟨rfl, HE⟩
 refine o_move HE rfl rfl ?_; clear HE; intro a HE
 refine cutL 6 (fun a' w' => w = w' ∧ Env a' 73 [] [(37, .bool (((((decide (x.time = y.time)) && (decide (x.client.k = y.client.k) && (decide (x.client.n = y.client.n) && (x.client.s == y.client.s && true)))) && (decide (x.type = y.type))) && (decide (x.model = y.model))) && (decide (x.key.k = y.key.k) && (decide (x.key.n = y.key.n) && (x.key.s == y.key.s && true))))), (0, .agg #[.int .i64 x.time, .int .i64 x.client.k, .int .i64 x.client.n, str x.client.s, .int .i64 x.type, .int .i64 x.model, .int .i64 x.key.k, .int .i64 x.key.n, str x.key.s, .int .i64 x.op, .slice A1x x.args.length c1x, .slice A2x x.out.length c2x, .bool x.noted, str x.note]), (1, .agg #[.int .i64 y.time, .int .i64 y.client.k, .int .i64 y.client.n, str y.client.s, .int .i64 y.type, .int .i64 y.model, .int .i64 y.key.k, .int .i64 y.key.n, str y.key.s, .int .i64 y.op, .slice A1y y.args.length c1y, .slice A2y y.out.length c2y, .bool y.noted, str y.note]), (2, .pointer (some ⟨B2, 0, none⟩)), (3, .pointer (some ⟨B3, 0, none⟩)), (4, .bool false)]) ?_ ?_
 ·refine (Bool.eq_false_or_eq_true ((((decide (x.time = y.time)) && (decide (x.client.k = y.client.k) && (decide (x.client.n = y.client.n) && (x.client.s == y.client.s && true)))) && (decide (x.type = y.type))) && (decide (x.model = y.model)))).elim (fun hb11 => ?_) (fun hb11 => ?_)
  ·skip
   have hk12 := hb11; try simp only [zz1, zz2, zz3, zz4, zz5, zz7, zz8, zz9, zza, zzb] at hk12
   refine op_on HE rfl rfl hb11 ?_
   refine o_fld HE rfl rfl T.f44_4 ?_; clear HE; intro a HE
   refine op_on HE rfl rfl hb11 ?_
   refine o_ldA HE rfl HS rfl T.a41 (.there (.here .here)) rfl ?_; clear HE; intro a HE
   refine op_on HE rfl rfl hb11 ?_
   refine o_fld HE rfl rfl T.f44_4 ?_; clear HE; intro a HE
   refine op_on HE rfl rfl hb11 ?_
   refine o_ldA HE rfl HS rfl T.a41 (.here .here) rfl ?_; clear HE; intro a HE
   refine op_on HE rfl rfl hb11 ?_
   refine o_eqA (b := decide (x.key.k = y.key.k) && (decide (x.key.n = y.key.n) && (x.key.s == y.key.s && true))) HE rfl rfl rfl T.q41 rfl rfl ?_; clear HE; intro a HE
   refine o_pick_t HE rfl rfl hb11 rfl ?_; clear HE; intro a HE
   exact ⟨rfl, HE.cut ⟨by rw [hb11]; rfl, rfl, rfl, rfl, rfl, rfl, trivial⟩⟩
  ·skip
   have hk13 := hb11; try simp only [zz1, zz2, zz3, zz4, zz5, zz7, zz8, zz9, zza, zzb] at hk13
   refine g_off HE rfl rfl rfl hb11 ?_; clear HE; intro a HE
   refine g_off HE rfl rfl rfl hb11 ?_; clear HE; intro a HE
   refine g_off HE rfl rfl rfl hb11 ?_; clear HE; intro a HE
   refine g_off HE rfl rfl rfl hb11 ?_; clear HE; intro a HE
   refine g_off HE rfl rfl rfl hb11 ?_; clear HE; intro a HE
   refine o_pick_f HE rfl rfl hb11 rfl ?_; clear HE; intro a HE
   exact ⟨rfl, HE.cut ⟨by rw [hb11]; rfl, rfl, rfl, rfl, rfl, rfl, trivial⟩⟩
 clear HE; rintro a _ ⟨rfl, HE⟩
 refine o_move HE rfl rfl ?_; clear HE; intro a HE
 refine cutL 6 (fun a' w' => w = w' ∧ Env a' 73 [] [(44, .bool ((((((decide (x.time = y.time)) && (decide (x.client.k = y.client.k) && (decide (x.client.n = y.client.n) && (x.client.s == y.client.s && true)))) && (decide (x.type = y.type))) && (decide (x.model = y.model))) && (decide (x.key.k = y.key.k) && (decide (x.key.n = y.key.n) && (x.key.s == y.key.s && true)))) && (decide (x.op = y.op)))), (0, .agg #[.int .i64 x.time, .int .i64 x.client.k, .int .i64 x.client.n, str x.client.s, .int .i64 x.type, .int .i64 x.model, .int .i64 x.key.k, .int .i64 x.key.n, str x.key.s, .int .i64 x.op, .slice A1x x.args.length c1x, .slice A2x x.out.length c2x, .bool x.noted, str x.note]), (1, .agg #[.int .i64 y.time, .int .i64 y.client.k, .int .i64 y.client.n, str y.client.s, .int .i64 y.type, .int .i64 y.model, .int .i64 y.key.k, .int .i64 y.key.n, str y.key.s, .int .i64 y.op, .slice A1y y.args.length c1y, .slice A2y y.out.length c2y, .bool y.noted, str y.note]), (2, .pointer (some ⟨B2, 0, none⟩)), (3, .pointer (some ⟨B3, 0, none⟩)), (4, .bool false)]) ?_ ?_
 ·refine (Bool.eq_false_or_eq_true (((((decide (x.time = y.time)) && (decide (x.client.k = y.client.k) && (decide (x.client.n = y.client.n) && (x.client.s == y.client.s && true)))) && (decide (x.type = y.type))) && (decide (x.model = y.model))) && (decide (x.key.k = y.key.k) && (decide (x.key.n = y.key.n) && (x.key.s == y.key.s && true))))).elim (fun hb14 => ?_) (fun hb14 => ?_)
  ·skip
   have hk15 := hb14; try simp only [zz1, zz2, zz3, zz4, zz5, zz7, zz8, zz9, zza, zzb] at hk15
   refine op_on HE rfl rfl hb14 ?_
   refine o_fld HE rfl rfl T.f44_5 ?_; clear HE; intro a HE
   refine op_on HE rfl rfl hb14 ?_
   refine o_ld HE rfl HS rfl T.s3 (.there (.here .here)) rfl ?_; clear HE; intro a HE
   refine op_on HE rfl rfl hb14 ?_
   refine o_fld HE rfl rfl T.f44_5 ?_; clear HE; intro a HE
   refine op_on HE rfl rfl hb14 ?_
   refine o_ld HE rfl HS rfl T.s3 (.here .here) rfl ?_; clear HE; intro a HE
   refine op_on HE rfl rfl hb14 ?_
   refine o_eqI HE rfl rfl rfl ?_; clear HE; intro a HE
   refine o_pick_t HE rfl rfl hb14 rfl ?_; clear HE; intro a HE
   exact ⟨rfl, HE.cut ⟨by rw [hb14]; rfl, rfl, rfl, rfl, rfl, rfl, trivial⟩⟩
  ·skip
   have hk16 := hb14; try simp only [zz1, zz2, zz3, zz4, zz5, zz7, zz8, zz9, zza, zzb] at hk16
   refine g_off HE rfl rfl rfl hb14 ?_; clear HE; intro a HE
   refine g_off HE rfl rfl rfl hb14 ?_; clear HE; intro a HE
   refine g_off HE rfl rfl rfl hb14 ?_; clear HE; intro a HE
   refine g_off HE rfl rfl rfl hb14 ?_; clear HE; intro a HE
   refine g_off HE rfl rfl rfl hb14 ?_; clear HE; intro a HE
   refine o_pick_f HE rfl rfl hb14 rfl ?_; clear HE; intro a HE
   exact ⟨rfl, HE.cut ⟨by rw [hb14]; rfl, rfl, rfl, rfl, rfl, rfl, trivial⟩⟩
 clear HE; rintro a _ ⟨rfl, HE⟩
 refine o_move HE rfl rfl ?_; clear HE; intro a HE
 obtain ⟨M0, hM0, HS⟩ : ∃ M0, M0 = _ ∧ St w0 G [] G _ M0 := ⟨_, rfl, HS⟩
 refine cutL 6 (fun a' w' => St w0 G [] G w' M0 ∧ Env a' 73 [] [(51, .bool (((((((decide (x.time = y.time)) && (decide (x.client.k = y.client.k) && (decide (x.client.n = y.client.n) && (x.client.s == y.client.s && true)))) && (decide (x.type = y.type))) && (decide (x.model = y.model))) && (decide (x.key.k = y.key.k) && (decide (x.key.n = y.key.n) && (x.key.s == y.key.s && true)))) && (decide (x.op = y.op))) && (decide (x.args = y.args)))), (0, .agg #[.int .i64 x.time, .int .i64 x.client.k, .int .i64 x.client.n, str x.client.s, .int .i64 x.type, .int .i64 x.model, .int .i64 x.key.k, .int .i64 x.key.n, str x.key.s, .int .i64 x.op, .slice A1x x.args.length c1x, .slice A2x x.out.length c2x, .bool x.noted, str x.note]), (1, .agg #[.int .i64 y.time, .int .i64 y.client.k, .int .i64 y.client.n, str y.client.s, .int .i64 y.type, .int .i64 y.model, .int .i64 y.key.k, .int .i64 y.key.n, str y.key.s, .int .i64 y.op, .slice A1y y.args.length c1y, .slice A2y y.out.length c2y, .bool y.noted, str y.note]), (2, .pointer (some ⟨B2, 0, none⟩)), (3, .pointer (some ⟨B3, 0, none⟩)), (4, .bool false)]) ?_ ?_
 ·refine (Bool.eq_false_or_eq_true ((((((decide (x.time = y.time)) && (decide (x.client.k = y.client.k) && (decide (x.client.n = y.client.n) && (x.client.s == y.client.s && true)))) && (decide (x.type = y.type))) && (decide (x.model = y.model))) && (decide (x.key.k = y.key.k) && (decide (x.key.n = y.key.n) && (x.key.s == y.key.s && true)))) && (decide (x.op = y.op)))).elim (fun hb17 => ?_) (fun hb17 => ?_)
  ·subst hM0
   have hk18 := hb17; try simp only [zz1, zz2, zz3, zz4, zz5, zz7, zz8, zz9, zza, zzb] at hk18
   refine op_on HE rfl rfl hb17 ?_
   refine o_fld HE rfl rfl T.f44_6 ?_; clear HE; intro a HE
   refine op_on HE rfl rfl hb17 ?_
   refine o_ld HE rfl HS rfl T.s42 (.there (.here .here)) rfl ?_; clear HE; intro a HE
   refine op_on HE rfl rfl hb17 ?_
   refine o_fld HE rfl rfl T.f44_6 ?_; clear HE; intro a HE
   refine op_on HE rfl rfl hb17 ?_
   refine o_ld HE rfl HS rfl T.s42 (.here .here) rfl ?_; clear HE; intro a HE
   refine op_on HE rfl rfl hb17 ?_
   refine o_callP HE rfl HS rfl rfl T.g54 (c_Same7 x.args _ _ y.args _ _ _ _ HS.sub hr1x (by first | omega | (simp; done) | exact parse_args (by first | omega | (simp; omega)) | exact parse_out (by first | omega | (simp; omega))) hr1y (by first | omega | (simp; done) | exact parse_args (by first | omega | (simp; omega)) | exact parse_out (by first | omega | (simp; omega)))) ?_
   clear HE HS; rintro _ w a HS rfl HE
   refine o_pick_t HE rfl rfl hb17 rfl ?_; clear HE; intro a HE
   exact ⟨HS, HE.cut ⟨by rw [hb17]; rfl, rfl, rfl, rfl, rfl, rfl, trivial⟩⟩
  ·subst hM0
   have hk19 := hb17; try simp only [zz1, zz2, zz3, zz4, zz5, zz7, zz8, zz9, zza, zzb] at hk19
   refine g_off HE rfl rfl rfl hb17 ?_; clear HE; intro a HE
   refine g_off HE rfl rfl rfl hb17 ?_; clear HE; intro a HE
   refine g_off HE rfl rfl rfl hb17 ?_; clear HE; intro a HE
   refine g_off HE rfl rfl rfl hb17 ?_; clear HE; intro a HE
   refine g_off HE rfl rfl rfl hb17 ?_; clear HE; intro a HE
   refine o_pick_f HE rfl rfl hb17 rfl ?_; clear HE; intro a HE
   exact ⟨HS, HE.cut ⟨by rw [hb17]; rfl, rfl, rfl, rfl, rfl, rfl, trivial⟩⟩
 clear HE HS; rintro a w ⟨HS, HE⟩; subst hM0
 refine o_move HE rfl rfl ?_; clear HE; intro a HE
 obtain ⟨M0, hM0, HS⟩ : ∃ M0, M0 = _ ∧ St w0 G [] G _ M0 := ⟨_, rfl, HS⟩
 refine cutL 6 (fun a' w' => St w0 G [] G w' M0 ∧ Env a' 73 [] [(58, .bool ((((((((decide (x.time = y.time)) && (decide (x.client.k = y.client.k) && (decide (x.client.n = y.client.n) && (x.client.s == y.client.s && true)))) && (decide (x.type = y.type))) && (decide (x.model = y.model))) && (decide (x.key.k = y.key.k) && (decide (x.key.n = y.key.n) && (x.key.s == y.key.s && true)))) && (decide (x.op = y.op))) && (decide (x.args = y.args))) && (decide (x.out = y.out)))), (0, .agg #[.int .i64 x.time, .int .i64 x.client.k, .int .i64 x.client.n, str x.client.s, .int .i64 x.type, .int .i64 x.model, .int .i64 x.key.k, .int .i64 x.key.n, str x.key.s, .int .i64 x.op, .slice A1x x.args.length c1x, .slice A2x x.out.length c2x, .bool x.noted, str x.note]), (1, .agg #[.int .i64 y.time, .int .i64 y.client.k, .int .i64 y.client.n, str y.client.s, .int .i64 y.type, .int .i64 y.model, .int .i64 y.key.k, .int .i64 y.key.n, str y.key.s, .int .i64 y.op, .slice A1y y.args.length c1y, .slice A2y y.out.length c2y, .bool y.noted, str y.note]), (2, .pointer (some ⟨B2, 0, none⟩)), (3, .pointer (some ⟨B3, 0, none⟩)), (4, .bool false)]) ?_ ?_
 ·refine (Bool.eq_false_or_eq_true (((((((decide (x.time = y.time)) && (decide (x.client.k = y.client.k) && (decide (x.client.n = y.client.n) && (x.client.s == y.client.s && true)))) && (decide (x.type = y.type))) && (decide (x.model = y.model))) && (decide (x.key.k = y.key.k) && (decide (x.key.n = y.key.n) && (x.key.s == y.key.s && true)))) && (decide (x.op = y.op))) && (decide (x.args = y.args)))).elim (fun hb20 => ?_) (fun hb20 => ?_)
  ·subst hM0
   have hk21 := hb20; try simp only [zz1, zz2, zz3, zz4, zz5, zz7, zz8, zz9, zza, zzb] at hk21
   refine op_on HE rfl rfl hb20 ?_
   refine o_fld HE rfl rfl T.f44_7 ?_; clear HE; intro a HE
   refine op_on HE rfl rfl hb20 ?_
   refine o_ld HE rfl HS rfl T.s42 (.there (.here .here)) rfl ?_; clear HE; intro a HE
   refine op_on HE rfl rfl hb20 ?_
   refine o_fld HE rfl rfl T.f44_7 ?_; clear HE; intro a HE
   refine op_on HE rfl rfl hb20 ?_
   refine o_ld HE rfl HS rfl T.s42 (.here .here) rfl ?_; clear HE; intro a HE
   refine op_on HE rfl rfl hb20 ?_
   refine o_callP HE rfl HS rfl rfl T.g54 (c_Same7 x.out _ _ y.out _ _ _ _ HS.sub hr2x (by first | omega | (simp; done) | exact parse_args (by first | omega | (simp; omega)) | exact parse_out (by first | omega | (simp; omega))) hr2y (by first | omega | (simp; done) | exact parse_args (by first | omega | (simp; omega)) | exact parse_out (by first | omega | (simp; omega)))) ?_
   clear HE HS; rintro _ w a HS rfl HE
   refine o_pick_t HE rfl rfl hb20 rfl ?_; clear HE; intro a HE
   exact ⟨HS, HE.cut ⟨by rw [hb20]; rfl, rfl, rfl, rfl, rfl, rfl, trivial⟩⟩
  ·subst hM0
   have hk22 := hb20; try simp only [zz1, zz2, zz3, zz4, zz5, zz7, zz8, zz9, zza, zzb] at hk22
   refine g_off HE rfl rfl rfl hb20 ?_; clear HE; intro a HE
   refine g_off HE rfl rfl rfl hb20 ?_; clear HE; intro a HE
   refine g_off HE rfl rfl rfl hb20 ?_; clear HE; intro a HE
   refine g_off HE rfl rfl rfl hb20 ?_; clear HE; intro a HE
   refine g_off HE rfl rfl rfl hb20 ?_; clear HE; intro a HE
   refine o_pick_f HE rfl rfl hb20 rfl ?_; clear HE; intro a HE
   exact ⟨HS, HE.cut ⟨by rw [hb20]; rfl, rfl, rfl, rfl, rfl, rfl, trivial⟩⟩
 clear HE HS; rintro a w ⟨HS, HE⟩; subst hM0
 refine o_move HE rfl rfl ?_; clear HE; intro a HE
 refine cutL 6 (fun a' w' => w = w' ∧ Env a' 73 [] [(65, .bool (((((((((decide (x.time = y.time)) && (decide (x.client.k = y.client.k) && (decide (x.client.n = y.client.n) && (x.client.s == y.client.s && true)))) && (decide (x.type = y.type))) && (decide (x.model = y.model))) && (decide (x.key.k = y.key.k) && (decide (x.key.n = y.key.n) && (x.key.s == y.key.s && true)))) && (decide (x.op = y.op))) && (decide (x.args = y.args))) && (decide (x.out = y.out))) && (x.noted == y.noted))), (0, .agg #[.int .i64 x.time, .int .i64 x.client.k, .int .i64 x.client.n, str x.client.s, .int .i64 x.type, .int .i64 x.model, .int .i64 x.key.k, .int .i64 x.key.n, str x.key.s, .int .i64 x.op, .slice A1x x.args.length c1x, .slice A2x x.out.length c2x, .bool x.noted, str x.note]), (1, .agg #[.int .i64 y.time, .int .i64 y.client.k, .int .i64 y.client.n, str y.client.s, .int .i64 y.type, .int .i64 y.model, .int .i64 y.key.k, .int .i64 y.key.n, str y.key.s, .int .i64 y.op, .slice A1y y.args.length c1y, .slice A2y y.out.length c2y, .bool y.noted, str y.note]), (2, .pointer (some ⟨B2, 0, none⟩)), (3, .pointer (some ⟨B3, 0, none⟩)), (4, .bool false)]) ?_ ?_
 ·refine (Bool.eq_false_or_eq_true ((((((((decide (x.time = y.time)) && (decide (x.client.k = y.client.k) && (decide (x.client.n = y.client.n) && (x.client.s == y.client.s && true)))) && (decide (x.type = y.type))) && (decide (x.model = y.model))) && (decide (x.key.k = y.key.k) && (decide (x.key.n = y.key.n) && (x.key.s == y.key.s && true)))) && (decide (x.op = y.op))) && (decide (x.args = y.args))) && (decide (x.out = y.out)))).elim (fun hb23 => ?_) (fun hb23 => ?_)
  ·skip
   have hk24 := hb23; try simp only [zz1, zz2, zz3, zz4, zz5, zz7, zz8, zz9, zza, zzb] at hk24
   refine op_on HE rfl rfl hb23 ?_
   refine o_fld HE rfl rfl T.f44_8 ?_; clear HE; intro a HE
   refine op_on HE rfl rfl hb23 ?_
   refine o_ld HE rfl HS rfl T.s4 (.there (.here .here)) rfl ?_; clear HE; intro a HE
   refine op_on HE rfl rfl hb23 ?_
   refine o_fld HE rfl rfl T.f44_8 ?_; clear HE; intro a HE
   refine op_on HE rfl rfl hb23 ?_
   refine o_ld HE rfl HS rfl T.s4 (.here .here) rfl ?_; clear HE; intro a HE
   refine op_on HE rfl rfl hb23 ?_
   refine o_eqB HE rfl rfl rfl Tryd.underlying4 ?_; clear HE; intro a HE
   refine o_pick_t HE rfl rfl hb23 rfl ?_; clear HE; intro a HE
   exact ⟨rfl, HE.cut ⟨by rw [hb23]; rfl, rfl, rfl, rfl, rfl, rfl, trivial⟩⟩
  ·skip
   have hk25 := hb23; try simp only [zz1, zz2, zz3, zz4, zz5, zz7, zz8, zz9, zza, zzb] at hk25
   refine g_off HE rfl rfl rfl hb23 ?_; clear HE; intro a HE
   refine g_off HE rfl rfl rfl hb23 ?_; clear HE; intro a HE
   refine g_off HE rfl rfl rfl hb23 ?_; clear HE; intro a HE
   refine g_off HE rfl rfl rfl hb23 ?_; clear HE; intro a HE
   refine g_off HE rfl rfl rfl hb23 ?_; clear HE; intro a HE
   refine o_pick_f HE rfl rfl hb23 rfl ?_; clear HE; intro a HE
   exact ⟨rfl, HE.cut ⟨by rw [hb23]; rfl, rfl, rfl, rfl, rfl, rfl, trivial⟩⟩
 clear HE; rintro a _ ⟨rfl, HE⟩
 refine o_move HE rfl rfl ?_; clear HE; intro a HE
 refine cutL 6 (fun a' w' => w = w' ∧ Env a' 73 [] [(72, .bool ((((((((((decide (x.time = y.time)) && (decide (x.client.k = y.client.k) && (decide (x.client.n = y.client.n) && (x.client.s == y.client.s && true)))) && (decide (x.type = y.type))) && (decide (x.model = y.model))) && (decide (x.key.k = y.key.k) && (decide (x.key.n = y.key.n) && (x.key.s == y.key.s && true)))) && (decide (x.op = y.op))) && (decide (x.args = y.args))) && (decide (x.out = y.out))) && (x.noted == y.noted)) && (x.note == y.note))), (0, .agg #[.int .i64 x.time, .int .i64 x.client.k, .int .i64 x.client.n, str x.client.s, .int .i64 x.type, .int .i64 x.model, .int .i64 x.key.k, .int .i64 x.key.n, str x.key.s, .int .i64 x.op, .slice A1x x.args.length c1x, .slice A2x x.out.length c2x, .bool x.noted, str x.note]), (1, .agg #[.int .i64 y.time, .int .i64 y.client.k, .int .i64 y.client.n, str y.client.s, .int .i64 y.type, .int .i64 y.model, .int .i64 y.key.k, .int .i64 y.key.n, str y.key.s, .int .i64 y.op, .slice A1y y.args.length c1y, .slice A2y y.out.length c2y, .bool y.noted, str y.note]), (4, .bool false)]) ?_ ?_
 ·refine (Bool.eq_false_or_eq_true (((((((((decide (x.time = y.time)) && (decide (x.client.k = y.client.k) && (decide (x.client.n = y.client.n) && (x.client.s == y.client.s && true)))) && (decide (x.type = y.type))) && (decide (x.model = y.model))) && (decide (x.key.k = y.key.k) && (decide (x.key.n = y.key.n) && (x.key.s == y.key.s && true)))) && (decide (x.op = y.op))) && (decide (x.args = y.args))) && (decide (x.out = y.out))) && (x.noted == y.noted))).elim (fun hb26 => ?_) (fun hb26 => ?_)
  ·skip
   have hk27 := hb26; try simp only [zz1, zz2, zz3, zz4, zz5, zz7, zz8, zz9, zza, zzb] at hk27
   refine op_on HE rfl rfl hb26 ?_
   refine o_fld HE rfl rfl T.f44_9 ?_; clear HE; intro a HE
   refine op_on HE rfl rfl hb26 ?_
   refine o_ld HE rfl HS rfl T.s9 (.there (.here .here)) rfl ?_; clear HE; intro a HE
   refine op_on HE rfl rfl hb26 ?_
   refine o_fld HE rfl rfl T.f44_9 ?_; clear HE; intro a HE
   refine op_on HE rfl rfl hb26 ?_
   refine o_ld HE rfl HS rfl T.s9 (.here .here) rfl ?_; clear HE; intro a HE
   refine op_on HE rfl rfl hb26 ?_
   refine o_eqS HE rfl rfl rfl ?_; clear HE; intro a HE
   refine o_pick_t HE rfl rfl hb26 rfl ?_; clear HE; intro a HE
   exact ⟨rfl, HE.cut ⟨by rw [hb26]; rfl, rfl, rfl, rfl, trivial⟩⟩
  ·skip
   have hk28 := hb26; try simp only [zz1, zz2, zz3, zz4, zz5, zz7, zz8, zz9, zza, zzb] at hk28
   refine g_off HE rfl rfl rfl hb26 ?_; clear HE; intro a HE
   refine g_off HE rfl rfl rfl hb26 ?_; clear HE; intro a HE
   refine g_off HE rfl rfl rfl hb26 ?_; clear HE; intro a HE
   refine g_off HE rfl rfl rfl hb26 ?_; clear HE; intro a HE
   refine g_off HE rfl rfl rfl hb26 ?_; clear HE; intro a HE
   refine o_pick_f HE rfl rfl hb26 rfl ?_; clear HE; intro a HE
   exact ⟨rfl, HE.cut ⟨by rw [hb26]; rfl, rfl, rfl, rfl, trivial⟩⟩
 clear HE; rintro a _ ⟨rfl, HE⟩
 refine o_assign HE rfl rfl ?_; clear HE; intro a HE
 refine hK _ _ ?_; clear hK K
 refine wp_ret ?_
 show Q .ret _ _
 refine ret hQ HE rfl (HE.res rfl .nil) ⟨_, _, HS.stop (List.nil_sublist _), rfl, ?_⟩
 show _ = _
 simp only [packed, Value.bool.injEq]
 obtain ⟨xt, ⟨xk, xn, xs⟩, xy, xm, ⟨xkk, xkn, xks⟩, xo, xa, xu, xd, xe⟩ := x
 obtain ⟨yt, ⟨yk, yn, ys⟩, yy, ym, ⟨ykk, ykn, yks⟩, yo, ya, yu, yd, ye⟩ := y
 rw [Bool.eq_iff_iff]
 simp only [Bool.and_eq_true, decide_eq_true_eq, beq_iff_eq, Evt.mk.injEq, Val.mk.injEq, and_true, and_assoc]
end Go.Proofs.YtiinipcmghhacaaDoor.T10
