/- Own text. -/
import Derived.Test.YtngoaapgdfohjaaDoorH7
import Derived.Test.YtngoaapgdfohjaaDoorG6
set_option linter.unusedVariables false
set_option linter.unusedSimpArgs false
namespace Go.Proofs.YtngoaapgdfohjaaDoor.T27K
open Go Go.Proofs.YtngoaapgdfohjaaDoor.X Go.Proofs Go.Proofs.YtngoaapgdfohjaaDoor.T27
theorem T.f39_0 : fieldOff Tryd.prog 39 0 = some 0 := by kernel_rfl
instance : FO Tryd.prog 39 0 0 := ⟨T.f39_0⟩
theorem T.f39_1 : fieldOff Tryd.prog 39 1 = some 2 := by kernel_rfl
instance : FO Tryd.prog 39 1 2 := ⟨T.f39_1⟩
theorem T.f39_2 : fieldOff Tryd.prog 39 2 = some 3 := by kernel_rfl
instance : FO Tryd.prog 39 2 3 := ⟨T.f39_2⟩
theorem T.g9 : goFn Tryd.prog 9 = true := by kernel_rfl
theorem T.s37 : scal Tryd.prog 37 = true := by kernel_rfl
instance : SC Tryd.prog 37 := ⟨T.s37⟩

theorem build_len {ky : List Int} {r : Rul} {d : Int} {xs : List Val} : (buildN ky r d xs).1.length ≤ xs.length := by
  unfold buildN
  split
  · exact Nat.zero_le _
  · split
    · exact Nat.zero_le _
    · split
      · show (entsN ky r d _ _).length ≤ _
        rw [entsN_len]; exact unlike_len d xs
      · exact Nat.zero_le _
theorem great_str {kn : Nat} {xs : List Val} (h : greatN kn xs = false) : ∀ v ∈ xs, (v.s.length : Int) ≤ 100 := by
  intro v hv
  unfold greatN at h
  rw [Bool.or_eq_false_iff] at h
  have := List.any_eq_false.1 h.1 v hv
  simp only [decide_eq_true_eq] at this
  omega
/-! `incognito/incognitolaw27.NamesKeyed` -/
set_option maxRecDepth 100000 in
set_option maxHeartbeats 4000000 in
theorem law_NamesKeyed (r : Rul) (d : Int) (ky : List Int) (Ak : Option Addr) (kc : Nat) (xa : List Val) (Aa : Option Addr) (ca : Nat) (xb : List Val) (Ab : Option Addr) (cb : Nat) (w0 : World) (G : Heap) (hG : Sub G w0) (hg0 : CellsAt G 0 0 [.int .i64 3, .int .i64 1, str []]) (hg1 : CellsAt G 1 0 [.int .i64 3, .int .i64 0, str []]) (hT : TabG G 3 .u64 Lib.pow10Tab) (hKs : CellsAt G 4 0 (TK.ks.map (Value.int .u32))) (hRk : Rd (Knd.int .u8) G Ak ky) (hkc : ky.length ≤ kc) (hkl : ky.length ≤ 9223372036854775807) (hdr : I64 d) (hRxa : Rd kVal G Aa xa) (hlxa : xa.length ≤ 9223372036854775807) (hwxa : ∀ v ∈ xa, v.Wf) (hRxb : Rd kVal G Ab xb) (hlxb : xb.length ≤ 9223372036854775807) (hwxb : ∀ v ∈ xb, v.Wf):
  Calls Tryd.prog 4 #[.agg #[.int .i64 r.way, .int .i64 r.size, .int .i64 d, .slice Ak ky.length kc], .slice Aa xa.length ca, .slice Ab xb.length cb] w0 (Ret w0 G (fun v _ => v = .bool true)) := by
 refine enter Tryd.func4 rfl Tryd.ntmps4 rfl ?_
 intro Q hQ a HE
 have HS := St.start0 hG
 refine sr fun K hK => ?_
 refine o_bx4 HE rfl HS rfl ?_; clear HE HS; intro B3 w a HS HE
 refine rn 1 HE HS ?_; clear HE HS; intro a w HE HS
 apply hK; clear hK K
 refine wp_seq_k (fun K3 hK2 => ?_)
 refine sr fun K hK => ?_
 refine o_callP HE rfl HS rfl rfl T.g5 (c_wakes27 _ _ HS.sub hg0 hg1 hT) ?_
 clear HE HS; rintro _ w a HS rfl HE
 refine rn 1 HE HS ?_; clear HE HS; intro a w HE HS
 apply hK; clear hK K
 refine cond HE rfl (fun h5r => ?_) (fun h5r => ?_)
 ·have h5 := nm h5r
  refine sr fun K hK => ?_
  refine rn 1 HE HS ?_; clear HE HS; intro a w HE HS
  apply hK; clear hK K
  refine rt hQ HE HS ?_
  exact absurd h5r (by decide)
 ·have h5 := nm h5r
  refine wp_skip ?_
  refine hK2 _ _ ?_; clear hK2
  refine wp_seq_k (fun K8 hK7 => ?_)
  refine sr fun K hK => ?_
  refine rn 3 HE HS ?_; clear HE HS; intro a w HE HS
  refine o_callP HE rfl HS rfl rfl T.g6 (c_greatN _ ky.length _ xa _ _ _ _ HS.sub hRxa (by first | assumption | omega)) ?_
  clear HE HS; rintro _ w a HS rfl HE
  refine rn 1 HE HS ?_; clear HE HS; intro a w HE HS
  refine cutG 5 28 (.bool ((greatN ky.length xa) || (greatN ky.length xb))) HE HS ?_ ?_
  ·refine bsp HE (t := 23) rfl (fun hb9 => ?_) (fun hb9 => ?_)
   ·skip
    refine rn 5 HE HS ?_; clear HE HS; intro a w HE HS
    exact ⟨HS, HE.cutT (by rw [hb9] <;> rfl)⟩
   ·have hk10 := nm hb9
    refine rn 3 HE HS ?_; clear HE HS; intro a w HE HS
    refine op_on HE rfl rfl hb9 ?_
    refine o_callP HE rfl HS rfl rfl T.g6 (c_greatN _ ky.length _ xb _ _ _ _ HS.sub hRxb (by first | assumption | omega)) ?_
    clear HE HS; rintro _ w a HS rfl HE
    refine rn 1 HE HS ?_; clear HE HS; intro a w HE HS
    exact ⟨HS, HE.cutT (by rw [hb9] <;> rfl)⟩
  clear HE HS; intro a w HE HS
  refine rn 1 HE HS ?_; clear HE HS; intro a w HE HS
  refine cutG 5 34 (.bool (((greatN ky.length xa) || (greatN ky.length xb)) || (!decide (r.way = 2)))) HE HS ?_ ?_
  ·refine bsp HE (t := 29) rfl (fun hb11 => ?_) (fun hb11 => ?_)
   ·skip
    refine rn 5 HE HS ?_; clear HE HS; intro a w HE HS
    exact ⟨HS, HE.cutT (by rw [hb11] <;> rfl)⟩
   ·have hk12 := nm hb11
    refine rn 5 HE HS ?_; clear HE HS; intro a w HE HS
    exact ⟨HS, HE.cutT (by rw [hb11] <;> rfl)⟩
  clear HE HS; intro a w HE HS
  apply hK; clear hK K
  refine cond HE rfl (fun h14r => ?_) (fun h14r => ?_)
  ·have h14 := nm h14r
   refine sr fun K hK => ?_
   refine rn 1 HE HS ?_; clear HE HS; intro a w HE HS
   apply hK; clear hK K
   refine rt hQ HE HS ?_
   show _ = _
   rfl
  ·have h14 := nm h14r
   refine wp_skip ?_
   refine hK7 _ _ ?_; clear hK7
   refine sr fun K hK => ?_
   refine rn 7 HE HS ?_; clear HE HS; intro a w HE HS
   have hgr : greatN ky.length xa = false ∧ greatN ky.length xb = false ∧ r.way = 2 := by
    have hq := h14
    cases h1 : greatN ky.length xa <;> cases h2 : greatN ky.length xb <;> simp [h1, h2] at hq ⊢
    exact hq
   have hga := greatN_len hgr.1
   have hgb := greatN_len hgr.2.1
   have hsxa := great_str hgr.1
   have hsxb := great_str hgr.2.1
   have hba := build_len (ky := ky) (r := r) (d := d) (xs := xa)
   have hbb := build_len (ky := ky) (r := r) (d := d) (xs := xb)
   refine o_call HE rfl HS rfl rfl T.g7 (c_buildN r d _ _ _ xa _ _ _ _ HS.sub hg0 hg1 hT hRxa (by omega) hwxa hdr hKs ky hRk rfl hkc (by omega) (fun v hv => print_short (hsxa v hv) (hwxa v hv))) ?_
   clear HE HS; rintro _ G16 w a HS hle16 ⟨vA16, vc16, rfl, hcp16, hR16⟩ HE
   replace hg0 := hg0.le hle16
   replace hg1 := hg1.le hle16
   replace hT := hT.le hle16
   replace hKs := hKs.le hle16
   replace hRk := hRk.le hle16
   replace hRxa := hRxa.le hle16
   replace hRxb := hRxb.le hle16
   refine rn 5 HE HS ?_; clear HE HS; intro a w HE HS
   apply hK; clear hK K
   refine sr fun K hK => ?_
   refine rn 7 HE HS ?_; clear HE HS; intro a w HE HS
   refine o_call HE rfl HS rfl rfl T.g7 (c_buildN r d _ _ _ xb _ _ _ _ HS.sub hg0 hg1 hT hRxb (by omega) hwxb hdr hKs ky hRk rfl hkc (by omega) (fun v hv => print_short (hsxb v hv) (hwxb v hv))) ?_
   clear HE HS; rintro _ G18 w a HS hle18 ⟨vA18, vc18, rfl, hcp18, hR18⟩ HE
   replace hg0 := hg0.le hle18
   replace hg1 := hg1.le hle18
   replace hT := hT.le hle18
   replace hKs := hKs.le hle18
   replace hRk := hRk.le hle18
   replace hRxa := hRxa.le hle18
   replace hRxb := hRxb.le hle18
   replace hR16 := hR16.le hle18
   refine rn 5 HE HS ?_; clear HE HS; intro a w HE HS
   apply hK; clear hK K
   refine wp_seq_k (fun K21 hK20 => ?_)
   refine sr fun K hK => ?_
   refine rn 3 HE HS ?_; clear HE HS; intro a w HE HS
   refine cutG 3 62 (.bool ((!decide (((buildN ky r d xa).2) = 0)) || (!decide (((buildN ky r d xb).2) = 0)))) HE HS ?_ ?_
   ·refine bsp HE (t := 59) rfl (fun hb22 => ?_) (fun hb22 => ?_)
    ·skip
     refine rn 3 HE HS ?_; clear HE HS; intro a w HE HS
     exact ⟨HS, HE.cutT (by rw [hb22] <;> rfl)⟩
    ·have hk23 := nm hb22
     refine rn 3 HE HS ?_; clear HE HS; intro a w HE HS
     exact ⟨HS, HE.cutT (by rw [hb22] <;> rfl)⟩
   clear HE HS; intro a w HE HS
   apply hK; clear hK K
   refine cond HE rfl (fun h25r => ?_) (fun h25r => ?_)
   ·have h25 := nm h25r
    refine sr fun K hK => ?_
    refine rn 1 HE HS ?_; clear HE HS; intro a w HE HS
    apply hK; clear hK K
    refine rt hQ HE HS ?_
    show _ = _
    rfl
   ·have h25 := nm h25r
    refine wp_skip ?_
    refine hK20 _ _ ?_; clear hK20
    refine wp_seq_k (fun K28 hK27 => ?_)
    refine sr fun K hK => ?_
    refine rn 3 HE HS ?_; clear HE HS; intro a w HE HS
    apply hK; clear hK K
    refine wp_block ?_
    refine loop (fun (i : Nat) a' w' => St w0 G [] G18 w' [[(B3, Cells 39 [(0, .int .i64 r.way), (1, .int .i64 r.size), (2, .int .i64 d), (3, .slice Ak ky.length kc)])]] ∧ Env a' 95 [] [(3, .pointer (some ⟨B3, 0, none⟩)), (6, .bool false), (7, .slice vA16 ((buildN ky r d xa).1.length) vc16), (9, .slice vA18 ((buildN ky r d xb).1.length) vc18), (63, .slice Aa xa.length ca), (64, .int .i64 (xa.length : Int)), (65, .int .i64 ((i : Nat) : Int))] ∧ (i ≤ xa.length)) (fun (i : Nat) => xa.length - i) 0 ⟨HS, HE.cut ⟨rfl, rfl, rfl, rfl, rfl, rfl, rfl, trivial⟩, Nat.zero_le _⟩ ?_
    clear HE HS; intro i a w ⟨HS, HE, hi⟩
    refine sr fun K hK => ?_
    refine rn 1 HE HS ?_; clear HE HS; intro a w HE HS
    apply hK; clear hK K
    refine wp_seq_k (fun K33 hK32 => ?_)
    refine cond HE rfl (fun h34r => ?_) (fun h34r => ?_)
    ·have h34 := nm h34r
     refine wp_skip ?_
     refine hK32 _ _ ?_; clear hK32
     refine wp_seq_k (fun K36 hK35 => ?_)
     refine wp_block ?_
     refine sr fun K hK => ?_
     have hi37 : ((i : Nat) : Int).toNat < xa.length := by omega
     obtain ⟨eb37, eo37, hA37, el37⟩ := Rd.at hRxa (List.getElem?_eq_getElem hi37); cases hA37
     rw [show xa[((i : Nat) : Int).toNat] = (xa.getD i ⟨0, 0, []⟩) from getD_get (i := i) hi37 _] at el37
     have el37 := kVal_open el37
     refine o_ixL HE rfl rfl rfl T.l22 ⟨by omega, by omega⟩ ?_; clear HE; intro a HE
     refine o_ldIA HE rfl HS rfl el37 T.a32 ?_; clear HE; intro a HE
     refine o_allocZ HE rfl HS ?_; clear HE HS; intro B12 w a HS HE
     refine rn 1 HE HS ?_; clear HE HS; intro a w HE HS
     apply hK; clear hK K
     refine sr fun K hK => ?_
     refine rn 4 HE HS ?_; clear HE HS; intro a w HE HS
     refine o_callP HE rfl HS rfl rfl T.g9 (c_Called27 ((buildN ky r d xa).1) _ _ d (xa.getD i ⟨0, 0, []⟩) _ _ HS.sub hR16 (by omega)) ?_
     clear HE HS; rintro _ w a HS rfl HE
     refine rn 3 HE HS ?_; clear HE HS; intro a w HE HS
     refine o_allocZ HE rfl HS ?_; clear HE HS; intro B13 w a HS HE
     refine rn 2 HE HS ?_; clear HE HS; intro a w HE HS
     apply hK; clear hK K
     refine sr fun K hK => ?_
     refine rn 4 HE HS ?_; clear HE HS; intro a w HE HS
     refine o_callP HE rfl HS rfl rfl T.g9 (c_Called27 ((buildN ky r d xb).1) _ _ d (xa.getD i ⟨0, 0, []⟩) _ _ HS.sub hR18 (by omega)) ?_
     clear HE HS; rintro _ w a HS rfl HE
     refine rn 3 HE HS ?_; clear HE HS; intro a w HE HS
     refine o_allocZ HE rfl HS ?_; clear HE HS; intro B15 w a HS HE
     refine rn 2 HE HS ?_; clear HE HS; intro a w HE HS
     apply hK; clear hK K
     refine sr fun K hK => ?_
     refine rn 2 HE HS ?_; clear HE HS; intro a w HE HS
     refine cutG 2 88 (.bool (((calledN ((buildN ky r d xa).1) d (xa.getD i ⟨0, 0, []⟩)).2) && ((calledN ((buildN ky r d xb).1) d (xa.getD i ⟨0, 0, []⟩)).2))) HE HS ?_ ?_
     ·refine bsp HE (t := 86) rfl (fun hb41 => ?_) (fun hb41 => ?_)
      ·have hk42 := nm hb41
       refine rn 2 HE HS ?_; clear HE HS; intro a w HE HS
       exact ⟨HS, HE.cutT (by rw [hb41] <;> rfl)⟩
      ·skip
       refine rn 2 HE HS ?_; clear HE HS; intro a w HE HS
       exact ⟨HS, HE.cutT (by rw [hb41] <;> rfl)⟩
     clear HE HS; intro a w HE HS
     refine rn 1 HE HS ?_; clear HE HS; intro a w HE HS
     refine cutG 4 93 (.bool ((((calledN ((buildN ky r d xa).1) d (xa.getD i ⟨0, 0, []⟩)).2) && ((calledN ((buildN ky r d xb).1) d (xa.getD i ⟨0, 0, []⟩)).2)) && (!(decide (((calledN ((buildN ky r d xa).1) d (xa.getD i ⟨0, 0, []⟩)).1.k) = ((calledN ((buildN ky r d xb).1) d (xa.getD i ⟨0, 0, []⟩)).1.k)) && (decide (((calledN ((buildN ky r d xa).1) d (xa.getD i ⟨0, 0, []⟩)).1.n) = ((calledN ((buildN ky r d xb).1) d (xa.getD i ⟨0, 0, []⟩)).1.n)) && (((calledN ((buildN ky r d xa).1) d (xa.getD i ⟨0, 0, []⟩)).1.s) == ((calledN ((buildN ky r d xb).1) d (xa.getD i ⟨0, 0, []⟩)).1.s) && true)))))) HE HS ?_ ?_
     ·refine bsp HE (t := 89) rfl (fun hb43 => ?_) (fun hb43 => ?_)
      ·have hk44 := nm hb43
       refine rn 2 HE HS ?_; clear HE HS; intro a w HE HS
       refine op_on HE rfl rfl hb43 ?_
       refine o_neA (b := decide (((calledN ((buildN ky r d xa).1) d (xa.getD i ⟨0, 0, []⟩)).1.k) = ((calledN ((buildN ky r d xb).1) d (xa.getD i ⟨0, 0, []⟩)).1.k)) && (decide (((calledN ((buildN ky r d xa).1) d (xa.getD i ⟨0, 0, []⟩)).1.n) = ((calledN ((buildN ky r d xb).1) d (xa.getD i ⟨0, 0, []⟩)).1.n)) && (((calledN ((buildN ky r d xa).1) d (xa.getD i ⟨0, 0, []⟩)).1.s) == ((calledN ((buildN ky r d xb).1) d (xa.getD i ⟨0, 0, []⟩)).1.s) && true))) HE rfl rfl rfl T.q32 rfl rfl ?_; clear HE; intro a HE
       refine rn 1 HE HS ?_; clear HE HS; intro a w HE HS
       exact ⟨HS, HE.cutT (by rw [hb43] <;> rfl)⟩
      ·skip
       refine rn 4 HE HS ?_; clear HE HS; intro a w HE HS
       exact ⟨HS, HE.cutT (by rw [hb43] <;> rfl)⟩
     clear HE HS; intro a w HE HS
     apply hK; clear hK K
     refine cond HE rfl (fun h46r => ?_) (fun h46r => ?_)
     ·have h46 := nm h46r
      refine sr fun K hK => ?_
      refine rn 1 HE HS ?_; clear HE HS; intro a w HE HS
      apply hK; clear hK K
      refine rt hQ HE HS ?_
      exfalso
      have hq := h46r
      have hks := keyed_same (ky := ky) (d := d) (xa := xa) (xb := xb) hgr.2.2 (v := (xa.getD i ⟨0, 0, []⟩))
      cases h1 : (calledN (buildN ky r d xa).1 d (xa.getD i ⟨0, 0, []⟩)).2 <;> cases h2 : (calledN (buildN ky r d xb).1 d (xa.getD i ⟨0, 0, []⟩)).2 <;> simp only [h1, h2] at hq <;> try (simp at hq; done)
      rw [hks h1 h2] at hq
      simp at hq
     ·have h46 := nm h46r
      refine wp_skip ?_
      refine hK35 _ _ ?_; clear hK35
      refine wp_region_lit ?_
      refine rn 2 HE HS ?_; clear HE HS; intro a w HE HS
      replace HS := HS.drop (M' := [_]) (sub_drop (sub_drop (sub_drop (sub_keep sub_nil))))
      exact ⟨i + 1, ⟨HS, HE.cut ⟨rfl, rfl, rfl, rfl, rfl, rfl, rfl, trivial⟩, by omega⟩, by omega⟩
    ·have h34 := nm h34r
     refine wp_exit ?_
     refine hK27 _ _ ?_; clear hK27
     refine sr fun K hK => ?_
     refine rn 1 HE HS ?_; clear HE HS; intro a w HE HS
     apply hK; clear hK K
     refine rt hQ HE HS ?_
     show _ = _
     rfl
end Go.Proofs.YtngoaapgdfohjaaDoor.T27K
