/- Own text. -/
import Derived.Test.YtngoaapgdfohjaaDoorH6
set_option linter.unusedVariables false
set_option linter.unusedSimpArgs false
namespace Go.Proofs.YtngoaapgdfohjaaDoor.T27K
open Go Go.Proofs.YtngoaapgdfohjaaDoor.X Go.Proofs Go.Proofs.YtngoaapgdfohjaaDoor.T27
theorem T.Q34 : flatG Tryd.prog 34 = some [.int .i64, .int .i64, .int .i64, .str, .int .i64, .int .i64, .str] := by kernel_rfl
instance : UN Tryd.prog 25 (.slice 34) := ⟨Tryd.underlying25⟩
instance : UN Tryd.prog 37 (.slice 5) := ⟨Tryd.underlying37⟩
theorem T.f34_0 : fieldOff Tryd.prog 34 0 = some 0 := by kernel_rfl
instance : FO Tryd.prog 34 0 0 := ⟨T.f34_0⟩
theorem T.f34_2 : fieldOff Tryd.prog 34 2 = some 4 := by kernel_rfl
instance : FO Tryd.prog 34 2 4 := ⟨T.f34_2⟩
theorem T.g10 : goFn Tryd.prog 10 = true := by kernel_rfl
theorem T.g5 : goFn Tryd.prog 5 = true := by kernel_rfl
theorem T.g6 : goFn Tryd.prog 6 = true := by kernel_rfl
theorem T.g7 : goFn Tryd.prog 7 = true := by kernel_rfl
theorem T.g8 : goFn Tryd.prog 8 = true := by kernel_rfl

theorem is_here {x : Ent} {d : Int} {v : Val} (h : (decide (x.dom = d) && (decide (x.real.k = v.k) && (decide (x.real.n = v.n) && (x.real.s == v.s && true)))) = true) : x.dom = d ∧ x.real = v := by
  rw [Bool.and_eq_true, decide_eq_true_eq] at h
  exact ⟨h.1, val_eq h.2⟩
theorem not_here {x : Ent} {d : Int} {v : Val} (h : (decide (x.dom = d) && (decide (x.real.k = v.k) && (decide (x.real.n = v.n) && (x.real.s == v.s && true)))) = false) : ¬ (x.dom = d ∧ x.real = v) := by
  rintro ⟨rfl, rfl⟩
  simp at h
/-! `incognito/names.Called` -/
set_option maxRecDepth 100000 in
set_option maxHeartbeats 4000000 in
theorem c_Called27 (xs : List Ent) (A : Option Addr) (c : Nat) (d : Int) (v : Val) (w0 : World) (G : Heap) (hG : Sub G w0) (hR : Rd kEnt G A xs) (hl : xs.length ≤ 9223372036854775807):
  Calls Tryd.prog 9 #[.slice A xs.length c, .int .i64 d, .agg #[.int .i64 v.k, .int .i64 v.n, str v.s]] w0 (Ret w0 G (fun u _ => u = .tuple #[.agg #[.int .i64 (calledN xs d v).1.k, .int .i64 (calledN xs d v).1.n, str (calledN xs d v).1.s], .bool (calledN xs d v).2])) := by
 refine enter Tryd.func9 rfl Tryd.ntmps9 rfl ?_
 intro Q hQ a HE
 have HS := St.start0 hG
 refine sr fun K hK => ?_
 refine o_bx3 HE rfl HS rfl ?_; clear HE HS; intro B5 w a HS HE
 refine o_allocZ HE rfl HS ?_; clear HE HS; intro B6 w a HS HE
 refine rn 1 HE HS ?_; clear HE HS; intro a w HE HS
 apply hK; clear hK K
 refine wp_seq_k (fun K3 hK2 => ?_)
 refine sr fun K hK => ?_
 refine rn 3 HE HS ?_; clear HE HS; intro a w HE HS
 apply hK; clear hK K
 refine wp_block ?_
 refine loop (fun (i : Nat) a' w' => St w0 G [] G w' [[(B6, Cells 32 [(0, .int .i64 0), (1, .int .i64 0), (2, str [])])], [(B5, Cells 32 [(0, .int .i64 v.k), (1, .int .i64 v.n), (2, str v.s)])]] ∧ Env a' 30 [] [(1, .int .i64 d), (5, .pointer (some ⟨B5, 0, none⟩)), (6, .pointer (some ⟨B6, 0, none⟩)), (7, .bool false), (10, .slice A xs.length c), (11, .int .i64 (xs.length : Int)), (12, .int .i64 ((i : Nat) : Int))] ∧ (i ≤ xs.length ∧ calledN xs d v = calledN (xs.drop i) d v)) (fun (i : Nat) => xs.length - i) 0 ⟨HS, HE.cut ⟨rfl, rfl, rfl, rfl, rfl, rfl, rfl, trivial⟩, ⟨Nat.zero_le _, rfl⟩⟩ ?_
 clear HE HS; intro i a w ⟨HS, HE, ⟨hi, hfi⟩⟩
 refine sr fun K hK => ?_
 refine rn 1 HE HS ?_; clear HE HS; intro a w HE HS
 apply hK; clear hK K
 refine wp_seq_k (fun K8 hK7 => ?_)
 refine cond HE rfl (fun h9r => ?_) (fun h9r => ?_)
 ·have h9 := nm h9r
  refine wp_skip ?_
  refine hK7 _ _ ?_; clear hK7
  refine wp_seq_k (fun K11 hK10 => ?_)
  refine wp_block ?_
  refine sr fun K hK => ?_
  have hi12 : ((i : Nat) : Int).toNat < xs.length := by omega
  obtain ⟨eb12, eo12, hA12, el12⟩ := Rd.at hR (List.getElem?_eq_getElem hi12); cases hA12
  rw [show xs[((i : Nat) : Int).toNat] = (xs.getD i ⟨0, ⟨0, 0, []⟩, ⟨0, 0, []⟩⟩) from getD_get (i := i) hi12 _] at el12
  have el12 := kEnt_open el12
  refine o_ixL HE rfl rfl rfl T.l25 ⟨by omega, by omega⟩ ?_; clear HE; intro a HE
  refine o_ldIA HE rfl HS rfl el12 T.a34 ?_; clear HE; intro a HE
  refine o_allocZ HE rfl HS ?_; clear HE HS; intro B9 w a HS HE
  refine rn 1 HE HS ?_; clear HE HS; intro a w HE HS
  apply hK; clear hK K
  refine sr fun K hK => ?_
  refine rn 5 HE HS ?_; clear HE HS; intro a w HE HS
  refine cutG 5 25 (.bool ((decide (((xs.getD i ⟨0, ⟨0, 0, []⟩, ⟨0, 0, []⟩⟩).dom) = d)) && (decide (((xs.getD i ⟨0, ⟨0, 0, []⟩, ⟨0, 0, []⟩⟩).real.k) = v.k) && (decide (((xs.getD i ⟨0, ⟨0, 0, []⟩, ⟨0, 0, []⟩⟩).real.n) = v.n) && (((xs.getD i ⟨0, ⟨0, 0, []⟩, ⟨0, 0, []⟩⟩).real.s) == v.s && true))))) HE HS ?_ ?_
  ·refine bsp HE (t := 20) rfl (fun hb14 => ?_) (fun hb14 => ?_)
   ·have hk15 := nm hb14
    refine rn 3 HE HS ?_; clear HE HS; intro a w HE HS
    refine op_on HE rfl rfl hb14 ?_
    refine o_eqA (b := decide (((xs.getD i ⟨0, ⟨0, 0, []⟩, ⟨0, 0, []⟩⟩).real.k) = v.k) && (decide (((xs.getD i ⟨0, ⟨0, 0, []⟩, ⟨0, 0, []⟩⟩).real.n) = v.n) && (((xs.getD i ⟨0, ⟨0, 0, []⟩, ⟨0, 0, []⟩⟩).real.s) == v.s && true))) HE rfl rfl rfl T.q32 rfl rfl ?_; clear HE; intro a HE
    refine rn 1 HE HS ?_; clear HE HS; intro a w HE HS
    exact ⟨HS, HE.cutT (by rw [hb14] <;> rfl)⟩
   ·skip
    refine rn 5 HE HS ?_; clear HE HS; intro a w HE HS
    exact ⟨HS, HE.cutT (by rw [hb14] <;> rfl)⟩
  clear HE HS; intro a w HE HS
  apply hK; clear hK K
  refine cond HE rfl (fun h17r => ?_) (fun h17r => ?_)
  ·have h17 := nm h17r
   refine sr fun K hK => ?_
   refine rn 4 HE HS ?_; clear HE HS; intro a w HE HS
   apply hK; clear hK K
   refine rt hQ HE HS ?_
   have he : calledN xs d v = ((xs.getD i ⟨0, ⟨0, 0, []⟩, ⟨0, 0, []⟩⟩).name, true) := by rw [hfi]; exact called_here (by omega) (is_here (by simpa using h17))
   rw [he]
   rfl
  ·have h17 := nm h17r
   refine wp_skip ?_
   refine hK10 _ _ ?_; clear hK10
   refine wp_region_lit ?_
   refine rn 2 HE HS ?_; clear HE HS; intro a w HE HS
   replace HS := HS.drop (M' := [_, _]) (sub_drop (sub_keep (sub_keep sub_nil)))
   have hst := hfi
   rw [called_step (E0 := ⟨0, ⟨0, 0, []⟩, ⟨0, 0, []⟩⟩) (by omega) (not_here h17r)] at hst
   exact ⟨i + 1, ⟨HS, HE.cut ⟨rfl, rfl, rfl, rfl, rfl, rfl, rfl, trivial⟩, ⟨by omega, hst⟩⟩, by omega⟩
 ·have h9 := nm h9r
  refine wp_exit ?_
  refine hK2 _ _ ?_; clear hK2
  refine sr fun K hK => ?_
  refine o_build (cs := #[.int .i64 0, .int .i64 0, str []]) HE rfl rfl (by kernel_rfl) ?_; clear HE; intro a HE
  refine rn 2 HE HS ?_; clear HE HS; intro a w HE HS
  apply hK; clear hK K
  refine rt hQ HE HS ?_
  have he : calledN xs d v = (⟨0, 0, []⟩, false) := by rw [hfi]; exact called_end (by omega)
  rw [he]
  rfl
end Go.Proofs.YtngoaapgdfohjaaDoor.T27K
