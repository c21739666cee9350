/- Own text. -/
import Derived.Test.YtngoaapgdfohjaaGreatDoorK18
import Derived.Test.YtngoaapgdfohjaaGreatDoorP1
import Derived.Test.YtngoaapgdfohjaaGreatDoorY16
import Derived.Test.YtngoaapgdfohjaaGreatDoorProg
import Derived.Test.YtngoaapgdfohjaaGreatDoorL10
import Derived.Test.YtngoaapgdfohjaaGreatDoorT7
import Derived.Test.YtngoaapgdfohjaaGreatDoorT16
set_option linter.unusedVariables false
set_option linter.unusedSimpArgs false
set_option maxRecDepth 100000
set_option maxHeartbeats 4000000
namespace Go.Proofs.YtngoaapgdfohjaaGreatDoor.T27
open Go Go.Proofs.YtngoaapgdfohjaaGreatDoor.X Go.Proofs Go.Proofs.YtngoaapgdfohjaaGreatDoor.T28 Go.Proofs.YtngoaapgdfohjaaGreatDoor.TK
/-! ## Whole numbers read, with faults -/
instance : NIf Tryz.prog 31 := ⟨by kernel_rfl⟩
theorem f_size (s : Bs) (most : Int) (hm : 9 ≤ most ∧ most ≤ 9223372036854775808) (hl : s.length ≤ 9223372036854775807) (G : Heap) :
    FnT Tryz.prog 181 [str s, .int .u64 most] G [] 31 (fun v _ Ms => Ms = [] ∧ ∃ n, sizeS s most = .ok n ∧ v = .int .u64 n) (fun e => ∃ n, sizeS s most = .error n ∧ e = .int .i64 n) := by
  refine fnT_in Tryz.func181 rfl Tryz.ntmps181 rfl fun w0 K0 Q0 hQ => ?_
  refine go ?_
  refine w_or (y := decide (bt s 0 = 48) && decide (1 < (s.length : Int))) 20 11 rfl (fun h => ?_) (fun h => ?_) ?_
  · refine go ?_; exact w_at
  · have hp : 0 < s.length := List.length_pos_iff.2 (by simpa using h)
    refine go ?_
    refine w_and (y := decide (1 < (s.length : Int))) 19 15 rfl (fun h => ?_) (fun h => ?_) ?_
    · refine go ?_; exact w_at
    · refine go ?_; exact w_at
    refine go ?_; exact w_at
  refine go ?_
  refine w_cond rfl (fun h => ?_) (fun h => ?_)
  · refine go ?_
    refine w_stp (p_mkIf rfl rfl) ?_
    refine w_panic hQ rfl ⟨2, size_e2a ?_, rfl⟩
    simpa using h
  · have h0 : ¬ s = [] ∧ (¬ bt s 0 = 48 ∨ ¬ 1 < (s.length : Int)) := by
      simp only [Bool.or_eq_false_iff, Bool.and_eq_false_iff, decide_eq_false_iff_not, beq_eq_false_iff_ne] at h
      exact h
    refine go ?_
    refine w_loop (fun i : Nat => [(24, .int .i64 (i : Int))]) (fun _ => []) (fun i _ => i ≤ s.length ∧ (s.take i).all digB = true) (fun i => s.length - i) 0 ⟨by omega, rfl⟩ ?_
    rintro i G1 _ ⟨hi, ha⟩
    refine go ?_
    refine w_cd rfl (fun h5 => ?_) (fun h5 => ?_)
    · have hlt : i < s.length := by omega
      refine go ?_
      refine w_or (y := decide (57 < bt s i)) 36 31 rfl (fun h => ?_) (fun h => ?_) ?_
      · refine go ?_; exact w_at
      · refine go ?_; exact w_at
      refine go ?_
      refine w_cond rfl (fun h => ?_) (fun h => ?_)
      · refine go ?_
        refine w_stp (p_mkIf rfl rfl) ?_
        refine w_panic hQ rfl ⟨2, size_e2b hlt ?_, rfl⟩
        simpa using h
      · refine go ?_
        refine w_again (i + 1) ⟨by omega, ?_⟩ (by omega)
        simp only [Bool.or_eq_false_iff, decide_eq_false_iff_not] at h
        rw [all_snoc hlt, ha, dig_of hlt (by omega) (by omega)]
        rfl
    · have hie : i = s.length := by omega
      subst hie
      rw [List.take_length] at ha
      have hd := digits_of ha h0.1 h0.2
      refine go ?_
      refine w_as 6 (.int .u64 ((dv (s.take 0) : Nat) : Int)) rfl rfl ?_
      refine w_loop (fun j : Nat => [(6, .int .u64 ((dv (s.take j) : Nat) : Int)), (41, .int .i64 (j : Int))]) (fun _ => []) (fun j _ => j ≤ s.length ∧ ((dv (s.take j) : Nat) : Int) ≤ most) (fun j => s.length - j) 0 ⟨by omega, by show (0 : Int) ≤ most; omega⟩ ?_
      rintro j G2 _ ⟨hj, hb⟩
      refine go ?_
      refine w_cd rfl (fun h6 => ?_) (fun h6 => ?_)
      · have hlt : j < s.length := by omega
        obtain ⟨d1, d2⟩ := dig_at ha hlt
        have hst := dv_step ha hlt
        refine go ?_
        rw [show IntKind.u64.wrap (IntKind.u8.wrap (bt s j - 48)) = bt s j - 48 by rw [wrap_u8 ⟨by omega, by omega⟩, wrap_u64 ⟨by omega, by omega⟩]]
        refine w_or (y := decide (most - (bt s j - 48) < ((dv (s.take j) : Nat) : Int) * 10)) 60 53 rfl (fun h => ?_) (fun h => ?_) ?_
        · refine go ?_; exact w_at
        · have h' : ¬ most / 10 < ((dv (s.take j) : Nat) : Int) := by simpa using h
          refine go ?_
          exact w_at
        refine go ?_
        refine w_cond rfl (fun h => ?_) (fun h => ?_)
        · refine go ?_
          refine w_stp (p_mkIf rfl rfl) ?_
          refine w_panic hQ rfl ⟨3, size_e3 hd hlt ?_, rfl⟩
          simp only [Bool.or_eq_true, decide_eq_true_eq] at h
          omega
        · simp only [Bool.or_eq_false_iff, decide_eq_false_iff_not] at h
          refine go ?_
          refine w_as 6 (.int .u64 ((dv (s.take (j + 1)) : Nat) : Int)) rfl (by rw [hst]) ?_
          exact w_again (j + 1) ⟨by omega, by omega⟩ (by omega)
      · have hje : j = s.length := by omega
        subst hje
        rw [List.take_length] at hb
        refine go ?_
        refine w_retT hQ .nil ⟨rfl, _, size_ok hd hb, ?_⟩
        rw [List.take_length]; rfl
end Go.Proofs.YtngoaapgdfohjaaGreatDoor.T27

set_option linter.unusedVariables false
set_option linter.unusedSimpArgs false
set_option maxRecDepth 100000
set_option maxHeartbeats 4000000
namespace Go.Proofs.YtngoaapgdfohjaaGreatDoor.T27
open Go Go.Proofs.YtngoaapgdfohjaaGreatDoor.X Go.Proofs Go.Proofs.YtngoaapgdfohjaaGreatDoor.T28 Go.Proofs.YtngoaapgdfohjaaGreatDoor.TK
theorem parseS_a {s : Bs} (h : s = [] ∨ ¬ bt s 0 = 45) : parseS s = sizeS s 9223372036854775807 := by unfold parseS; rw [if_pos h]
theorem parseS_b {s : Bs} (h : ¬ s = [] ∧ bt s 0 = 45) : parseS s = match sizeS (s.drop 1) 9223372036854775808 with
    | .error e => .error e
    | .ok n => if n = 0 then .error 2 else .ok (-n) := by
  unfold parseS
  rw [if_neg (by intro h2; rcases h2 with h2 | h2; exact h.1 h2; exact h2 h.2)]
  rfl
theorem f_parse1 (s : Bs) (b1 : Nat) (hl : s.length ≤ 9223372036854775807) (G : Heap) (hC : CellsAt G b1 0 [str s]) :
    FnT Tryz.prog 180 [.pointer (some ⟨b1, 0, none⟩)] G [] 31 (fun v _ Ms => Ms = [] ∧ ∃ n, parseS s = .ok n ∧ v = .int .i64 n) (fun e => ∃ n, parseS s = .error n ∧ e = .int .i64 n) := by
  refine fnT_in Tryz.func180 rfl Tryz.ntmps180 rfl fun w0 K0 Q0 hQ => ?_
  refine go ?_
  refine w_or (y := !decide (bt s 0 = 45)) 9 5 rfl (fun h => ?_) (fun h => ?_) ?_
  · refine go ?_; exact w_at
  · have hp : 0 < s.length := List.length_pos_iff.2 (by simpa using h)
    refine go ?_; exact w_at
  refine go ?_
  refine w_cond rfl (fun h => ?_) (fun h => ?_)
  · have h' : s = [] ∨ ¬ bt s 0 = 45 := by simpa using h
    refine go ?_
    refine w_callX rfl rfl rfl (f_size s 9223372036854775807 ⟨by omega, by omega⟩ hl _) .nil (kpT hQ ?_) fun v G1 Ms _ hr => ?_
    · rintro e ⟨n, hn, rfl⟩
      exact ⟨n, by rw [parseS_a h', hn], rfl⟩
    · obtain ⟨rfl, n, hn, rfl⟩ := hr
      have hb := size_bound hn
      refine go ?_
      refine w_retT hQ .nil ⟨rfl, n, by rw [parseS_a h', hn], ?_⟩
      rfl
  · have h' : ¬ s = [] ∧ bt s 0 = 45 := by simpa using h
    have hp : 0 < s.length := List.length_pos_iff.2 h'.1
    have hdl : (s.drop 1).length ≤ 9223372036854775807 := by rw [List.length_drop]; omega
    refine go ?_
    refine w_callX rfl rfl rfl (f_size (s.drop 1) 9223372036854775808 ⟨by omega, by omega⟩ hdl _) .nil (kpT hQ ?_) fun v G1 Ms _ hr => ?_
    · rintro e ⟨n, hn, rfl⟩
      exact ⟨n, by rw [parseS_b h', hn], rfl⟩
    · obtain ⟨rfl, n, hn, rfl⟩ := hr
      have hb := size_bound hn
      refine go ?_
      refine w_cd rfl (fun h0 => ?_) (fun h0 => ?_)
      · refine go ?_
        refine w_stp (p_mkIf rfl rfl) ?_
        refine w_panic hQ rfl ⟨2, ?_, rfl⟩
        rw [parseS_b h', hn]
        simp only [if_pos h0]
      · refine go ?_
        refine w_retT hQ .nil ⟨rfl, -n, by rw [parseS_b h', hn]; simp only [if_neg h0], ?_⟩
        show Value.int _ _ = _
        rw [show (0 : Int) - (n - 1) = 1 - n by omega, wrap_i64 (n := 1 - n) ⟨by omega, by omega⟩, show (1 : Int) - n - 1 = -n by omega, wrap_i64 ⟨by omega, by omega⟩]
theorem f_count1 (s : Bs) (most : Int) (b1 b2 : Nat) (hm : I64 most) (hl : s.length ≤ 9223372036854775807) (G : Heap) (hC : CellsAt G b1 0 [str s]) (hC2 : CellsAt G b2 0 [.int .i64 most]) :
    FnT Tryz.prog 182 [.pointer (some ⟨b1, 0, none⟩), .pointer (some ⟨b2, 0, none⟩)] G [] 31 (fun v _ Ms => Ms = [] ∧ ∃ n, countS s most = .ok n ∧ v = .int .i64 n) (fun e => ∃ n, countS s most = .error n ∧ e = .int .i64 n) := by
  refine fnT_in Tryz.func182 rfl Tryz.ntmps182 rfl fun w0 K0 Q0 hQ => ?_
  have hm1 := hm.1
  have hm2 := hm.2
  refine go ?_
  refine w_callX rfl rfl rfl (f_size s 9223372036854775807 ⟨by omega, by omega⟩ hl _) .nil (kpT hQ ?_) fun v G1 Ms _ hr => ?_
  · rintro e ⟨n, hn, rfl⟩
    exact ⟨n, by unfold countS; rw [hn], rfl⟩
  · obtain ⟨rfl, n, hn, rfl⟩ := hr
    have hb := size_bound hn
    refine go ?_
    refine w_or (y := decide (most < n)) 13 8 rfl (fun h => ?_) (fun h => ?_) ?_
    · refine go ?_; exact w_at
    · have h' : ¬ most < 0 := by simpa using h
      refine go ?_; exact w_at
    refine go ?_
    refine w_cond rfl (fun h => ?_) (fun h => ?_)
    · refine go ?_
      refine w_stp (p_mkIf rfl rfl) ?_
      refine w_panic hQ rfl ⟨3, ?_, rfl⟩
      unfold countS
      rw [hn]
      simp only [Bool.or_eq_true, decide_eq_true_eq] at h
      simp only [if_pos h]
    · simp only [Bool.or_eq_false_iff, decide_eq_false_iff_not] at h
      refine go ?_
      refine w_retT hQ .nil ⟨rfl, n, ?_, rfl⟩
      unfold countS
      rw [hn]
      simp only [if_neg (not_or.2 h)]
end Go.Proofs.YtngoaapgdfohjaaGreatDoor.T27

set_option linter.unusedVariables false
set_option linter.unusedSimpArgs false
set_option maxRecDepth 100000
set_option maxHeartbeats 4000000
namespace Go.Proofs.YtngoaapgdfohjaaGreatDoor.T27
open Go Go.Proofs.YtngoaapgdfohjaaGreatDoor.X Go.Proofs Go.Proofs.YtngoaapgdfohjaaGreatDoor.T28 Go.Proofs.YtngoaapgdfohjaaGreatDoor.TK
/-! ## What is caught -/
theorem Tk.mix : Tryz.prog.follows .mixedOrders = true := by kernel_rfl
theorem Tk.i : Tryz.prog.underlying 20 = some (.interface (Tryz.prog.methodsAt 20)) := by kernel_rfl
theorem Tk.n : notIf Tryz.prog 31 = true := by kernel_rfl
theorem Tk.s : scal Tryz.prog 2 = true := by kernel_rfl
theorem Tk.e : scal Tryz.prog 31 = true := by kernel_rfl
theorem Tk.z : zeroOf Tryz.prog 2 = some (.int .i64 0) := by kernel_rfl
theorem Tk.y : zeroOf Tryz.prog 31 = some (.int .i64 0) := by kernel_rfl
theorem Tk.g : goFn Tryz.prog 212 = true := by kernel_rfl
theorem catch_idle (p q : Nat) (w : World) : CallsD Tryz.prog 212 #[.pointer (some ⟨p, 0, none⟩), .pointer (some ⟨q, 0, none⟩)] .returning w fun e u' w' => (∃ v, e = .returned v) ∧ u' = .returning ∧ w' = w := by
  refine enterS Tryz.func212 rfl Tryz.ntmps212 rfl fun c₀ cs hu a HE => ?_
  apply wpS_seq
  apply wpS_region
  show wpOpsS _ _ _ [0, 1] _ _ _
  refine opsS_recover rfl rfl rfl HE rfl run_recover (fun _ a HE => ?_) (fun v cs' h => by simp [recoverD, hu] at h)
  refine opsS_val (w' := w) (v := .nilIface) rfl rfl rfl HE rfl (by simp [execOp, HE.eval (x := .tmp 3) (v := .nilIface) rfl]) fun a HE => ?_
  show Code.wpS _ _ _ _ _ _
  apply wpS_seq
  apply wpS_region
  show wpOpsS _ _ _ [0, 1] _ _ _
  refine opsS_val (w' := w) (v := .nilIface) rfl rfl rfl HE rfl (by simp [execOp, HE.eval (x := .tmp 2) (v := .nilIface) rfl]) fun a HE => ?_
  refine opsS_val (w' := w) rfl rfl rfl HE rfl (run_isNil HE rfl Tk.i) fun a HE => ?_
  show Code.wpS _ _ _ _ _ _
  refine wpS_cond (t := false) (HE.eval rfl) ?_
  simp only [Bool.false_eq_true, if_false]
  refine wpS_of_wp (wp_skip ?_)
  exact ⟨HE.defers, .returning, by cases c₀; simp_all, _, Res.nil.run rfl, ⟨_, rfl⟩, rfl, rfl⟩
theorem catch_pan (p q : Nat) (e : Int) (older : List PanicEntry) {x y : Value} {w0 : World} {G0 : Heap} {K0 : List Nat} {G : Heap} {w : World} {M0 : List Chunk} (HS : St w0 G0 K0 G w ([(q, Cells 31 [(0, y)])] :: [(p, Cells 2 [(0, x)])] :: M0)) :
    CallsD Tryz.prog 212 #[.pointer (some ⟨p, 0, none⟩), .pointer (some ⟨q, 0, none⟩)] (.panicking ({ v := .iface 31 (.int .i64 e), recovered := false } :: older)) w fun e' u' w' => (∃ v, e' = .returned v) ∧ u' = .panicking ({ v := .iface 31 (.int .i64 e), recovered := true } :: older) ∧ St w0 G0 K0 G w' ([(q, Cells 31 [(0, .int .i64 e)])] :: [(p, Cells 2 [(0, .int .i64 0)])] :: M0) := by
  refine enterS Tryz.func212 rfl Tryz.ntmps212 rfl fun c₀ cs hu a HE => ?_
  apply wpS_seq
  apply wpS_region
  show wpOpsS _ _ _ [0, 1] _ _ _
  refine opsS_recover rfl rfl rfl HE rfl run_recover (fun h => by simp [recoverD, hu] at h) (fun v cs' h a HE => ?_)
  obtain ⟨rfl, rfl⟩ : v = .iface 31 (.int .i64 e) ∧ cs' = { c₀ with mode := .panicking ({ v := .iface 31 (.int .i64 e), recovered := true } :: older) } :: cs := by
    simp [recoverD, hu] at h
    exact ⟨h.1.symm, h.2.symm⟩
  refine opsS_val (w' := w) (v := .iface 31 (.int .i64 e)) rfl rfl rfl HE rfl (by simp [execOp, HE.eval (x := .tmp 3) (v := .iface 31 (.int .i64 e)) rfl]) fun a HE => ?_
  show Code.wpS _ _ _ _ _ _
  apply wpS_seq
  apply wpS_region
  show wpOpsS _ _ _ [0, 1] _ _ _
  refine opsS_val (w' := w) (v := .iface 31 (.int .i64 e)) rfl rfl rfl HE rfl (by simp [execOp, HE.eval (x := .tmp 2) (v := .iface 31 (.int .i64 e)) rfl]) fun a HE => ?_
  refine opsS_val (w' := w) rfl rfl rfl HE rfl (run_isThere HE rfl Tk.i) fun a HE => ?_
  show Code.wpS _ _ _ _ _ _
  refine wpS_cond (t := true) (HE.eval rfl) ?_
  simp only [if_true]
  refine wpS_of_wp (wp_region_any Tk.mix ?_)
  have HS := HS.drew
  clear h
  show wpAny _ _ _ _ 4 #[false, false, false, false] _ _
  refine any_node (l := [0, 2]) (by kernel_rfl) (by simp) fun i hi => ?_
  simp only [List.mem_cons, List.not_mem_nil, or_false] at hi
  rcases hi with rfl | rfl
  · refine any_op rfl ?_
    refine o_move HE rfl rfl ?_; clear HE; intro a HE
    refine any_next (l2 := #[true, false, false, false]) (by kernel_rfl) ?_
    refine any_node (l := [1, 2]) (by kernel_rfl) (by simp) fun i hi => ?_
    simp only [List.mem_cons, List.not_mem_nil, or_false] at hi
    rcases hi with rfl | rfl
    · refine any_op rfl ?_
      refine o_assert HE rfl rfl Tk.n ?_; clear HE; intro a HE
      refine any_next (l2 := #[true, true, false, false]) (by kernel_rfl) ?_
      refine any_node (l := [2]) (by kernel_rfl) (by simp) fun i hi => ?_
      simp only [List.mem_cons, List.not_mem_nil, or_false] at hi
      subst hi
      refine any_op rfl ?_
      refine o_st HE HS rfl rfl rfl Tk.s (.there (.here .here)) rfl ?_; clear HS; intro w HS
      refine any_next (l2 := #[true, true, true, false]) (by kernel_rfl) ?_
      refine any_node (l := [3]) (by kernel_rfl) (by simp) fun i hi => ?_
      simp only [List.mem_cons, List.not_mem_nil, or_false] at hi
      subst hi
      refine any_op rfl ?_
      refine o_st HE HS rfl rfl rfl Tk.e (.here .here) rfl ?_; clear HS; intro w HS
      refine any_next (l2 := #[true, true, true, true]) (by kernel_rfl) ?_
      refine any_end (by kernel_rfl) ?_
      exact ⟨HE.defers, _, rfl, _, Res.nil.run rfl, ⟨_, rfl⟩, rfl, (HS.conv (L2 := [(0, .int .i64 e)]) (.here .here) ⟨rfl, trivial⟩).conv (L2 := [(0, .int .i64 0)]) (.there (.here .here)) ⟨rfl, trivial⟩⟩
    · refine any_op rfl ?_
      refine o_st HE HS rfl rfl rfl Tk.s (.there (.here .here)) rfl ?_; clear HS; intro w HS
      refine any_next (l2 := #[true, false, true, false]) (by kernel_rfl) ?_
      refine any_node (l := [1]) (by kernel_rfl) (by simp) fun i hi => ?_
      simp only [List.mem_cons, List.not_mem_nil, or_false] at hi
      subst hi
      refine any_op rfl ?_
      refine o_assert HE rfl rfl Tk.n ?_; clear HE; intro a HE
      refine any_next (l2 := #[true, true, true, false]) (by kernel_rfl) ?_
      refine any_node (l := [3]) (by kernel_rfl) (by simp) fun i hi => ?_
      simp only [List.mem_cons, List.not_mem_nil, or_false] at hi
      subst hi
      refine any_op rfl ?_
      refine o_st HE HS rfl rfl rfl Tk.e (.here .here) rfl ?_; clear HS; intro w HS
      refine any_next (l2 := #[true, true, true, true]) (by kernel_rfl) ?_
      refine any_end (by kernel_rfl) ?_
      exact ⟨HE.defers, _, rfl, _, Res.nil.run rfl, ⟨_, rfl⟩, rfl, (HS.conv (L2 := [(0, .int .i64 e)]) (.here .here) ⟨rfl, trivial⟩).conv (L2 := [(0, .int .i64 0)]) (.there (.here .here)) ⟨rfl, trivial⟩⟩
  · refine any_op rfl ?_
    refine o_st HE HS rfl rfl rfl Tk.s (.there (.here .here)) rfl ?_; clear HS; intro w HS
    refine any_next (l2 := #[false, false, true, false]) (by kernel_rfl) ?_
    refine any_node (l := [0]) (by kernel_rfl) (by simp) fun i hi => ?_
    simp only [List.mem_cons, List.not_mem_nil, or_false] at hi
    subst hi
    refine any_op rfl ?_
    refine o_move HE rfl rfl ?_; clear HE; intro a HE
    refine any_next (l2 := #[true, false, true, false]) (by kernel_rfl) ?_
    refine any_node (l := [1]) (by kernel_rfl) (by simp) fun i hi => ?_
    simp only [List.mem_cons, List.not_mem_nil, or_false] at hi
    subst hi
    refine any_op rfl ?_
    refine o_assert HE rfl rfl Tk.n ?_; clear HE; intro a HE
    refine any_next (l2 := #[true, true, true, false]) (by kernel_rfl) ?_
    refine any_node (l := [3]) (by kernel_rfl) (by simp) fun i hi => ?_
    simp only [List.mem_cons, List.not_mem_nil, or_false] at hi
    subst hi
    refine any_op rfl ?_
    refine o_st HE HS rfl rfl rfl Tk.e (.here .here) rfl ?_; clear HS; intro w HS
    refine any_next (l2 := #[true, true, true, true]) (by kernel_rfl) ?_
    refine any_end (by kernel_rfl) ?_
    exact ⟨HE.defers, _, rfl, _, Res.nil.run rfl, ⟨_, rfl⟩, rfl, (HS.conv (L2 := [(0, .int .i64 e)]) (.here .here) ⟨rfl, trivial⟩).conv (L2 := [(0, .int .i64 0)]) (.there (.here .here)) ⟨rfl, trivial⟩⟩
theorem c_caught {f : Nat} {cs : List Value} {R : Value → Prop} {E : Int → Prop} (w0 : World) (G : Heap) (hG : Sub G w0) (hf : goFn Tryz.prog f = true) (hone : ∀ v, R v → X.one v = true)
    (hc : ∀ w1 G1, Heap.le G G1 → Sub G1 w1 → Calls Tryz.prog f cs.toArray w1 (Throws w1 G1 31 (fun v _ => R v) E)) :
    Calls Tryz.prog 179 #[.func (.func f) #[] cs.toArray] w0 (Ret w0 G (fun v _ => (∃ u, R u ∧ v = .tuple #[u, .int .i64 0]) ∨ ∃ e, E e ∧ v = .tuple #[.int .i64 0, .int .i64 e])) := by
  refine enterD Tryz.func179 rfl Tryz.ntmps179 rfl ?_
  intro Q hQ a HE
  have HS := St.start0 hG
  refine wp_seq_k (fun K hK => ?_); refine wp_region_lit ?_
  refine o_allocL [(0, _)] HE rfl HS Tk.z ⟨rfl, trivial⟩ ?_; clear HE HS; intro B2 w a HS HE
  refine o_allocL [(0, _)] HE rfl HS Tk.y ⟨rfl, trivial⟩ ?_; clear HE HS; intro B3 w a HS HE
  refine hK _ _ ?_; clear hK K
  refine wp_seq_k (fun K hK => ?_); refine wp_region_lit ?_
  refine o_func HE rfl rfl rfl ?_; clear HE; intro a HE
  refine o_defer HE rfl ?_; clear HE; intro a HE
  refine hK _ _ ?_; clear hK K
  refine wp_seq_k (fun K hK => ?_); refine wp_region_lit ?_
  refine o_move HE rfl rfl ?_; clear HE; intro a HE
  refine o_callE HE rfl HS (us := []) (vs := []) rfl rfl hf (by simpa using hc _ _ HS.le HS.sub) ?_ ?_
  · clear HS; intro e G' w HS hle he
    refine hQ _ _ _ ?_
    show Leaves _ _ a.tmps _ a.defers _ _
    rw [HE.defers]
    refine leaves_cons (f := 212) (args := #[.pointer (some ⟨B2, 0, none⟩), .pointer (some ⟨B3, 0, none⟩)]) (by simp) (run_go Tk.g _) ?_
    refine (catch_pan B2 B3 e [] HS).mono ?_
    rintro e' u' w' ⟨⟨v, rfl⟩, rfl, HS⟩
    refine ⟨_, (HE.resS HS rfl Tk.s (.there (.here .here)) rfl (HE.resS HS rfl Tk.e (.here .here) rfl .nil)).run rfl, ⟨_, _, HS.stop (List.nil_sublist _), rfl, .inr ⟨e, he, rfl⟩⟩⟩
  · clear HE HS; intro v G' w a HS hle hv HE
    have h1 := hone v hv
    refine o_st HE HS rfl rfl h1 Tk.s (.there (.here .here)) rfl ?_; clear HS; intro w HS
    refine o_st HE HS rfl rfl rfl Tk.e (.here .here) rfl ?_; clear HS; intro w HS
    refine hK _ _ ?_; clear hK K
    refine wp_ret ?_
    refine hQ _ _ _ ?_
    show Leaves _ _ a.tmps _ a.defers _ _
    rw [HE.defers]
    refine leaves_cons (f := 212) (args := #[.pointer (some ⟨B2, 0, none⟩), .pointer (some ⟨B3, 0, none⟩)]) (by simp) (run_go Tk.g _) ?_
    refine (catch_idle B2 B3 _).mono ?_
    rintro e' u' w' ⟨⟨v', rfl⟩, rfl, rfl⟩
    refine ⟨_, (HE.resS HS rfl Tk.s (.there (.here .here)) rfl (HE.resS HS rfl Tk.e (.here .here) rfl .nil)).run rfl, ⟨_, _, HS.stop (List.nil_sublist _), rfl, .inl ⟨v, hv, rfl⟩⟩⟩
theorem c_caughtI {f : Nat} {cs : List Value} {spec : Except Int Int} (w0 : World) (G : Heap) (hG : Sub G w0) (hf : goFn Tryz.prog f = true)
    (hc : ∀ w1 G1, Heap.le G G1 → Sub G1 w1 → Calls Tryz.prog f cs.toArray w1 (Throws w1 G1 31 (fun v _ => ∃ n, spec = .ok n ∧ v = .int .i64 n) (fun e => spec = .error e))) :
    Calls Tryz.prog 179 #[.func (.func f) #[] cs.toArray] w0 (Ret w0 G (fun v _ => v = .tuple #[.int .i64 (okv spec), .int .i64 (erv spec)])) := by
  refine (c_caught w0 G hG hf (by rintro v ⟨n, _, rfl⟩; rfl) hc).mono fun e w' he => ?_
  cases e with
  | returned v =>
    obtain ⟨G', M', h1, h2, h⟩ := he
    refine ⟨G', M', h1, h2, ?_⟩
    rcases h with ⟨u, ⟨n, rfl, rfl⟩, rfl⟩ | ⟨e, rfl, rfl⟩
    · rfl
    · rfl
  | panicked c => exact he
  | outgrown => exact he
theorem throws_of {f : Nat} {args : List Value} {spec : Except Int Int} {G : Heap} {T : TypeId} (h : FnT Tryz.prog f args G [] T (fun v _ Ms => Ms = [] ∧ ∃ n, spec = .ok n ∧ v = .int .i64 n) (fun e => ∃ n, spec = .error n ∧ e = .int .i64 n)) (w : World) (hs : Sub G w) :
    Calls Tryz.prog f args.toArray w (Throws w G T (fun v _ => ∃ n, spec = .ok n ∧ v = .int .i64 n) (fun e => spec = .error e)) := by
  refine (h (M0 := []) w (St.start0 hs)).mono fun e w' he => ?_
  cases e with
  | returned v => obtain ⟨G', M', ha, Ms', e1, rfl, hr⟩ := he; exact ⟨G', M', ha, by simpa using e1, hr⟩
  | panicked c => obtain ⟨G', M', ha, rfl, e, ⟨n, h1, rfl⟩, rfl⟩ := he; exact ⟨G', [], ha, rfl, n, h1, rfl⟩
  | outgrown => exact he.elim
theorem c_ParseN (s : Bs) (hl : s.length ≤ 9223372036854775807) (G : Heap) : FnP Tryz.prog 139 [str s] G (.tuple #[.int .i64 (okv (parseS s)), .int .i64 (erv (parseS s))]) := by
  refine fnP_in Tryz.func139 rfl Tryz.ntmps139 rfl fun w0 Q0 hQ => ?_
  refine go ?_; intro B
  refine w_stillC (n := 1) B .here rfl fun G1 _ hC => ?_
  refine go ?_
  refine w_stp (p_call rfl rfl rfl (r := .tuple #[.int .i64 (okv (parseS s)), .int .i64 (erv (parseS s))]) fun w hs => c_caughtI (cs := [.pointer (some ⟨B, 0, none⟩)]) w _ hs (by kernel_rfl) fun w1 G2 hle hs1 => throws_of (f_parse1 s B hl G2 (hC.le hle)) w1 hs1) ?_
  refine go ?_
  exact w_ret hQ rfl
theorem c_CountN (s : Bs) (most : Int) (hm : I64 most) (hl : s.length ≤ 9223372036854775807) (G : Heap) : FnP Tryz.prog 140 [str s, .int .i64 most] G (.tuple #[.int .i64 (okv (countS s most)), .int .i64 (erv (countS s most))]) := by
  refine fnP_in Tryz.func140 rfl Tryz.ntmps140 rfl fun w0 Q0 hQ => ?_
  refine go ?_; intro B
  refine w_stillC (n := 1) B .here rfl fun G1 _ hC => ?_
  refine go ?_; intro B2
  refine w_stillC (n := 1) B2 .here rfl fun G2 _ hC2 => ?_
  refine go ?_
  refine w_stp (p_call rfl rfl rfl (r := .tuple #[.int .i64 (okv (countS s most)), .int .i64 (erv (countS s most))]) fun w hs => c_caughtI (cs := [.pointer (some ⟨B, 0, none⟩), .pointer (some ⟨B2, 0, none⟩)]) w _ hs (by kernel_rfl) fun w1 G3 hle hs1 => throws_of (f_count1 s most B B2 hm hl G3 ((hC.up (B := G2)).le hle) (hC2.le hle)) w1 hs1) ?_
  refine go ?_
  exact w_ret hQ rfl
end Go.Proofs.YtngoaapgdfohjaaGreatDoor.T27

set_option linter.unusedVariables false
set_option linter.unusedSimpArgs false
set_option maxRecDepth 100000
set_option maxHeartbeats 4000000
namespace Go.Proofs.YtngoaapgdfohjaaGreatDoor.T27
open Go Go.Proofs.YtngoaapgdfohjaaGreatDoor.X Go.Proofs Go.Proofs.YtngoaapgdfohjaaGreatDoor.T28 Go.Proofs.YtngoaapgdfohjaaGreatDoor.TS Go.Proofs.YtngoaapgdfohjaaGreatDoor.TK
/-! ## Lines, words, notes, values read -/
theorem c_Split (s : Bs) (G : Heap) (g : Gl G) (hs : s.length ≤ 4294967280) : FnR Tryz.prog 100 [str s] G (fun v G' => ∃ A c, v = .tuple #[.slice A (linesS s).1.length c, .agg #[.int .i64 (TL.code8 (linesS s).2), .int .i64 (linesS s).2]] ∧ (linesS s).1.length ≤ c ∧ Rd Knd.s G' A (linesS s).1) := fun w hw =>
  let ⟨m, h⟩ := g.ml
  TL.c_split s w G hw m h hs
theorem c_CutF (s : Bs) (c : UInt8) (G : Heap) (g : Gl G) (hs : s.length ≤ 4294967280) : FnP Tryz.prog 167 [str s, str [c]] G (.tuple #[str (cutA s c), str (cutB s c), .bool (cutF s c)]) := fun w hw =>
  let ⟨m, h⟩ := g.ml
  TL.g_cut s c w G hw m h hs
theorem c_SplitS (s : Bs) (c : UInt8) (G : Heap) (g : Gl G) (hs : s.length ≤ 4294967280) : FnR Tryz.prog 175 [str s, str [c]] G (fun v G' => SlV Knd.s G' v (splitS c s)) := fun w hw =>
  let ⟨m, h⟩ := g.ml
  TL.g_split s c w G hw m h hs
theorem c_ContS (xs : List Bs) (A : Option Addr) (c : Nat) (x : Bs) (G : Heap) (hR : Rd Knd.s G A xs) (hl : xs.length ≤ 9223372036854775807) : FnP Tryz.prog 176 [.slice A xs.length c, str x] G (.bool (decide (x ∈ xs))) := fun w hw => TL.g_contains xs A c x w G hw hR hl
theorem c_CutSuf (s : Bs) (c : UInt8) (G : Heap) (hs : s.length ≤ 4294967280) : FnP Tryz.prog 57 [str s, str [c]] G (.tuple #[str (Lib.trimSuffix s [c]), .bool (Lib.hasSuffix s [c])]) := fun w hw => calls_same hw (Tryz.strings_CutSuffix ⟨s.toArray⟩ ⟨#[c]⟩ w (by simp [ByteArray.size]; omega))
theorem c_Note (s : Bs) (hl : s.length ≤ 4294967280) (G : Heap) (g : Gl G) : FnP Tryz.prog 137 [str s] G (.tuple #[str (noteS s).1, str (noteS s).2.1, .bool (noteS s).2.2.1, .int .i64 (noteS s).2.2.2]) := by
  refine fnP_in Tryz.func137 rfl Tryz.ntmps137 rfl fun w0 Q0 hQ => ?_
  have hA := cutA_len s 59
  have hB := cutB_len s 59
  refine go ?_
  refine w_stp (p_call rfl rfl rfl (c_CutF s 59 _ g hl)) ?_
  refine go ?_
  refine w_cond rfl (fun h => ?_) (fun h => ?_)
  · refine go ?_
    refine w_ret hQ ?_
    have h' : cutF s 59 = false := by simpa using h
    unfold noteS
    rw [if_pos h']
    rfl
  · have h' : ¬ cutF s 59 = false := by simpa using h
    refine go ?_
    refine w_stp (p_call rfl rfl rfl (c_CutSuf (cutA s 59) 32 _ (by omega))) ?_
    refine go ?_
    refine w_or (y := decide (100 < ((cutB s 59).length : Int))) 27 23 rfl (fun h => ?_) (fun h => ?_) ?_
    · refine go ?_; exact w_at
    · refine go ?_; exact w_at
    refine go ?_
    refine w_or (y := decide (0 ≤ Lib.indexByte (cutB s 59) 10)) 31 28 rfl (fun h => ?_) (fun h => ?_) ?_
    · refine go ?_; exact w_at
    · refine go ?_
      refine w_stp (p_on rfl rfl h (p_call rfl rfl rfl (c_Contains (cutB s 59) 10 _))) ?_
      refine go ?_; exact w_at
    refine go ?_
    refine w_cond rfl (fun h2 => ?_) (fun h2 => ?_)
    · refine go ?_
      refine w_ret hQ ?_
      unfold noteS
      rw [if_neg h', if_pos (by simpa only [Bool.or_eq_true, decide_eq_true_eq, or_assoc] using h2)]
      rfl
    · refine go ?_
      refine w_ret hQ ?_
      unfold noteS
      rw [if_neg h', if_neg (by rw [← Bool.not_eq_true] at h2; simpa only [Bool.or_eq_true, decide_eq_true_eq, or_assoc] using h2)]
      rfl
theorem c_Words (s : Bs) (hl : s.length ≤ 4294967280) (G : Heap) (g : Gl G) : FnR Tryz.prog 135 [str s] G (fun v G' => ∃ A c, v = .tuple #[.slice A (wordsS s).1.length c, .int .i64 (wordsS s).2] ∧ (wordsS s).1.length ≤ c ∧ Rd Knd.s G' A (wordsS s).1) := by
  refine fn_in Tryz.func135 rfl Tryz.ntmps135 rfl fun w0 Q0 hQ => ?_
  have hsl := splitS_len 32 s
  refine go ?_
  refine w_call rfl rfl rfl (c_SplitS s 32 _ g hl) fun v G1 _ hr => ?_
  obtain ⟨A, c, rfl, hc, hR⟩ := hr
  refine go ?_
  refine w_stp (p_call rfl rfl rfl (c_ContS (splitS 32 s) A c [] _ hR (by omega))) ?_
  refine go ?_
  refine w_cond rfl (fun h => ?_) (fun h => ?_)
  · refine go ?_
    have e : wordsS s = ([], 2) := by unfold wordsS; rw [if_pos (by simpa using h)]
    refine w_ret hQ ⟨none, 0, ?_, ?_, ?_⟩
    · rw [e]; rfl
    · rw [e]; exact Nat.le_refl _
    · rw [e]; exact .inl rfl
  · refine go ?_
    have e : wordsS s = (splitS 32 s, 0) := by unfold wordsS; rw [if_neg (by simpa using h)]
    refine w_ret hQ ⟨A, c, ?_, ?_, ?_⟩
    · rw [e]; rfl
    · rw [e]; exact hc
    · rw [e]; exact hR
theorem c_ParseV (s : Bs) (hl : s.length ≤ 9223372036854775807) (G : Heap) (g : Gl G) : FnP Tryz.prog 178 [str s] G (.tuple #[vV (parseV s).1, .int .i64 (parseV s).2]) := by
  refine fnP_in Tryz.func178 rfl Tryz.ntmps178 rfl fun w0 Q0 hQ => ?_
  have gy := g.yes
  have gn := g.no
  refine go ?_; intro B
  refine go ?_
  refine w_cond rfl (fun h1 => ?_) (fun h1 => ?_)
  · refine go ?_
    refine w_stp (p_build (cs := (valCells V0).toArray) rfl rfl (by kernel_rfl)) ?_
    refine go ?_
    refine w_ret hQ ?_
    unfold parseV
    rw [if_pos (by simpa using h1)]
    rfl
  have h1' : ¬ s = [126] := by simpa using h1
  refine go ?_
  refine w_cond rfl (fun h2 => ?_) (fun h2 => ?_)
  · refine go ?_
    refine w_ret hQ ?_
    unfold parseV
    rw [if_neg h1', if_pos (by simpa using h2)]
    rfl
  have h2' : ¬ s = [84] := by simpa using h2
  refine go ?_
  refine w_cond rfl (fun h3 => ?_) (fun h3 => ?_)
  · refine go ?_
    refine w_ret hQ ?_
    unfold parseV
    rw [if_neg h1', if_neg h2', if_pos (by simpa using h3)]
    rfl
  have h3' : ¬ s = [70] := by simpa using h3
  refine go ?_
  refine w_stp (p_call rfl rfl rfl (c_IsWord s hl _)) ?_
  refine go ?_
  refine w_cond rfl (fun h4 => ?_) (fun h4 => ?_)
  · refine go ?_
    refine w_stp (p_build (cs := (valCells ⟨2, 0, s⟩).toArray) rfl rfl (by kernel_rfl)) ?_
    refine go ?_
    refine w_ret hQ ?_
    unfold parseV
    rw [if_neg h1', if_neg h2', if_neg h3', if_pos h4]
    rfl
  refine go ?_
  refine w_stp (p_call rfl rfl rfl (c_ParseN s hl _)) ?_
  refine go ?_
  refine w_cd rfl (fun h5 => ?_) (fun h5 => ?_)
  · refine go ?_
    refine w_stp (p_build (cs := (valCells V0).toArray) rfl rfl (by kernel_rfl)) ?_
    refine go ?_
    refine w_ret hQ ?_
    unfold parseV
    rw [if_neg h1', if_neg h2', if_neg h3', if_neg (by simpa using h4), if_pos h5]
    rfl
  · refine go ?_
    refine w_stp (p_build (cs := (valCells ⟨1, okv (parseS s), []⟩).toArray) rfl rfl (by kernel_rfl)) ?_
    refine go ?_
    refine w_ret hQ ?_
    unfold parseV
    rw [if_neg h1', if_neg h2', if_neg h3', if_neg (by simpa using h4), if_neg (fun h => h h5)]
    rfl
end Go.Proofs.YtngoaapgdfohjaaGreatDoor.T27
