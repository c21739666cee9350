/- The search in a sorted list; two ways of naming: walked. -/
import Derived.Test.YtngoaapgdfohjaaDoorG2
set_option linter.unusedVariables false
set_option linter.unusedSimpArgs false
namespace Go.Proofs.YtngoaapgdfohjaaDoor.T27
open Go Go.Proofs.YtngoaapgdfohjaaDoor.X
theorem T.c3_73 : convOk Tryd.prog 3 73 .u64 = true := by kernel_rfl
theorem T.c73_3 : convOk Tryd.prog 73 3 .i64 = true := by kernel_rfl
theorem T.g18 : goFn Tryd.prog 18 = true := by kernel_rfl
theorem T.g25 : goFn Tryd.prog 25 = true := by kernel_rfl
theorem T.g26 : goFn Tryd.prog 26 = true := by kernel_rfl
theorem T.s22 : scal Tryd.prog 22 = true := by kernel_rfl
instance : SC Tryd.prog 22 := ⟨T.s22⟩

/-! The search in a sorted list. -/
def clV (xs : List Val) (t : Val) : Int := ((xs.filter fun x => decide (compareV x t < 0)).length : Int)
def fndV (xs : List Val) (t : Val) : Bool := decide (clV xs t < (xs.length : Int)) && decide (compareV (xs.getD (clV xs t).toNat ⟨0, 0, []⟩) t = 0)
theorem clV_at {xs : List Val} {t : Val} {i : Nat} (hi : i ≤ xs.length) (h1 : ∀ k, k < i → compareV (xs.getD k ⟨0, 0, []⟩) t < 0) (h2 : ∀ k, i ≤ k → k < xs.length → ¬ compareV (xs.getD k ⟨0, 0, []⟩) t < 0) : clV xs t = (i : Int) := by
  unfold clV
  have e : xs = xs.take i ++ xs.drop i := (List.take_append_drop i xs).symm
  rw [e, List.filter_append, List.length_append]
  have a1 : (xs.take i).filter (fun x => decide (compareV x t < 0)) = xs.take i := by
    rw [List.filter_eq_self]
    intro x hx
    obtain ⟨k, hk, rfl⟩ := List.mem_iff_getElem.1 hx
    rw [List.length_take] at hk
    have := h1 k (by omega)
    rw [List.getElem_take]
    simpa [show k < xs.length by omega] using this
  have a2 : (xs.drop i).filter (fun x => decide (compareV x t < 0)) = [] := by
    rw [List.filter_eq_nil_iff]
    intro x hx
    obtain ⟨k, hk, rfl⟩ := List.mem_iff_getElem.1 hx
    rw [List.length_drop] at hk
    have := h2 (i + k) (by omega) (by omega)
    rw [List.getElem_drop]
    simpa [show i + k < xs.length by omega] using this
  rw [a1, a2, List.length_take]
  simp only [List.length_nil]
  omega
def SoV (xs : List Val) (t : Val) : Prop := ∀ a b, a < b → b < xs.length → compareV (xs.getD b ⟨0, 0, []⟩) t < 0 → compareV (xs.getD a ⟨0, 0, []⟩) t < 0
/-! `slices.BinarySearchFunc[[]incognito/api.Value,incognito/api.Value,incognito/api.Value]` -/
set_option maxRecDepth 100000 in
set_option maxHeartbeats 4000000 in
theorem c_bsearch (xs : List Val) (A : Option Addr) (c : Nat) (t : Val) (w0 : World) (G : Heap) (hG : Sub G w0) (hR : Rd kVal G A xs) (hl : xs.length ≤ 1000000) (hso : SoV xs t):
  Calls Tryd.prog 25 #[.slice A xs.length c, .agg #[.int .i64 t.k, .int .i64 t.n, str t.s], .func (.func 26) #[] #[]] w0 (Ret w0 G (fun v _ => v = .tuple #[.int .i64 (clV xs t), .bool (fndV xs t)])) := by
 refine enter Tryd.func25 rfl Tryd.ntmps25 rfl ?_
 intro Q hQ a HE
 have HS := St.start0 hG
 refine sr fun K hK => ?_
 refine o_bx3 HE rfl HS rfl ?_; clear HE HS; intro B4 w a HS HE
 refine rn 2 HE HS ?_; clear HE HS; intro a w HE HS
 apply hK; clear hK K
 refine sr fun K hK => ?_
 refine rn 3 HE HS ?_; clear HE HS; intro a w HE HS
 apply hK; clear hK K
 refine sr fun K hK => ?_
 refine rn 3 HE HS ?_; clear HE HS; intro a w HE HS
 apply hK; clear hK K
 refine wp_seq_k (fun K5 hK4 => ?_)
 refine wp_block ?_
 refine loop (fun (p : Nat × Nat) a' w' => St w0 G [] G w' [[(B4, Cells 32 [(0, .int .i64 t.k), (1, .int .i64 t.n), (2, str t.s)])]] ∧ Env a' 49 [] [(0, .slice A xs.length c), (2, .func (.func 26) #[] #[]), (4, .pointer (some ⟨B4, 0, none⟩)), (6, .int .i64 0), (7, .bool false), (8, .int .i64 (xs.length : Int)), (9, .int .i64 ((p.1 : Nat) : Int)), (10, .int .i64 ((p.2 : Nat) : Int))] ∧ (p.1 ≤ p.2 ∧ p.2 ≤ xs.length ∧ (∀ k, k < p.1 → compareV (xs.getD k ⟨0, 0, []⟩) t < 0) ∧ (∀ k, p.2 ≤ k → k < xs.length → ¬ compareV (xs.getD k ⟨0, 0, []⟩) t < 0))) (fun (p : Nat × Nat) => p.2 - p.1) (0, xs.length) ⟨HS, HE.cut ⟨rfl, rfl, rfl, rfl, rfl, rfl, rfl, rfl, trivial⟩, ⟨Nat.zero_le _, Nat.le_refl _, fun k hk => absurd hk (Nat.not_lt_zero _), fun k hk hk2 => absurd hk2 (by omega)⟩⟩ ?_
 clear HE HS; intro p a w ⟨HS, HE, ⟨hp1, hp2, hp3, hp4⟩⟩
 refine wp_seq_k (fun K8 hK7 => ?_)
 refine sr fun K hK => ?_
 refine rn 3 HE HS ?_; clear HE HS; intro a w HE HS
 apply hK; clear hK K
 refine cond HE rfl (fun h10r => ?_) (fun h10r => ?_)
 ·have h10 := nm h10r
  refine wp_skip ?_
  refine hK7 _ _ ?_; clear hK7
  refine wp_block ?_
  refine sr fun K hK => ?_
  refine rn 3 HE HS ?_; clear HE HS; intro a w HE HS
  refine o_conv HE rfl rfl T.c3_73 (wrap_u64 (by omega)) ?_; clear HE; intro a HE
  refine o_shr (p := 2) HE rfl rfl rfl (by decide) (by rfl) (by decide) ?_; clear HE; intro a HE
  refine o_conv HE rfl rfl T.c73_3 (wrap_i64 (by omega)) ?_; clear HE; intro a HE
  refine rn 1 HE HS ?_; clear HE HS; intro a w HE HS
  apply hK; clear hK K
  refine wp_seq_k (fun K13 hK12 => ?_)
  have hi14 : ((((p.1 : Nat) : Int) + ((p.2 : Nat) : Int)) / 2).toNat < xs.length := by omega
  obtain ⟨eb14, eo14, hA14, el14⟩ := Rd.at hR (List.getElem?_eq_getElem hi14); cases hA14
  rw [show xs[((((p.1 : Nat) : Int) + ((p.2 : Nat) : Int)) / 2).toNat] = (xs.getD ((((p.1 : Nat) : Int) + ((p.2 : Nat) : Int)) / 2).toNat ⟨0, 0, []⟩) from getD_get (i := ((((p.1 : Nat) : Int) + ((p.2 : Nat) : Int)) / 2).toNat) hi14 _] at el14
  have el14 := kVal_open el14
  refine drawnP [fun v => v = .func (.func 26) #[] #[], fun v => v = .slice (some ⟨eb14, eo14, none⟩) xs.length c, fun v => v = .int .i64 ((((p.1 : Nat) : Int) + ((p.2 : Nat) : Int)) / 2), fun v => v = .pointer (some ⟨eb14, eo14 + ((((p.1 : Nat) : Int) + ((p.2 : Nat) : Int)) / 2).toNat * 3, none⟩), fun v => v = .agg #[.int .i64 ((xs.getD ((((p.1 : Nat) : Int) + ((p.2 : Nat) : Int)) / 2).toNat ⟨0, 0, []⟩).k), .int .i64 ((xs.getD ((((p.1 : Nat) : Int) + ((p.2 : Nat) : Int)) / 2).toNat ⟨0, 0, []⟩).n), str ((xs.getD ((((p.1 : Nat) : Int) + ((p.2 : Nat) : Int)) / 2).toNat ⟨0, 0, []⟩).s)], fun v => v = .agg #[.int .i64 t.k, .int .i64 t.n, str t.s], fun v => v = .int .i64 (compareV (xs.getD ((((p.1 : Nat) : Int) + ((p.2 : Nat) : Int)) / 2).toNat ⟨0, 0, []⟩) t), fun v => v = .bool (decide ((compareV (xs.getD ((((p.1 : Nat) : Int) + ((p.2 : Nat) : Int)) / 2).toNat ⟨0, 0, []⟩) t) < 0))] T.mix rfl HE HS rfl ⟨?_, ?_, ?_, ?_, ?_, ?_, ?_, ?_, trivial⟩ ?_
  ·intro a w G1 hl HS HE hp
   refine o_move HE rfl rfl ?_; clear HE; intro a HE
   exact ⟨_, _, HS, rfl, HE.get _ _ rfl, HE.defers, rfl⟩
  ·intro a w G1 hl HS HE hp
   refine o_move HE rfl rfl ?_; clear HE; intro a HE
   exact ⟨_, _, HS, rfl, HE.get _ _ rfl, HE.defers, rfl⟩
  ·intro a w G1 hl HS HE hp
   refine o_move HE rfl rfl ?_; clear HE; intro a HE
   exact ⟨_, _, HS, rfl, HE.get _ _ rfl, HE.defers, rfl⟩
  ·intro a w G1 hl HS HE hp
   obtain ⟨_, e1, rfl⟩ := hp 1 25 _ rfl rfl rfl; replace HE := HE.add e1
   obtain ⟨_, e2, rfl⟩ := hp 2 26 _ rfl rfl rfl; replace HE := HE.add e2
   refine o_ixL HE rfl rfl rfl T.l22 ⟨by omega, by omega⟩ ?_; clear HE; intro a HE
   exact ⟨_, _, HS, rfl, HE.get _ _ rfl, HE.defers, rfl⟩
  ·intro a w G1 hl HS HE hp
   obtain ⟨_, e3, rfl⟩ := hp 3 27 _ rfl rfl rfl; replace HE := HE.add e3
   refine o_ldIA HE rfl HS rfl (el14.le hl) T.a32 ?_; clear HE; intro a HE
   exact ⟨_, _, HS, rfl, HE.get _ _ rfl, HE.defers, rfl⟩
  ·intro a w G1 hl HS HE hp
   refine o_ldA HE rfl HS rfl T.a32 (.here .here) rfl ?_; clear HE; intro a HE
   exact ⟨_, _, HS, rfl, HE.get _ _ rfl, HE.defers, rfl⟩
  ·intro a w G1 hl HS HE hp
   obtain ⟨_, e0, rfl⟩ := hp 0 24 _ rfl rfl rfl; replace HE := HE.add e0
   obtain ⟨_, e4, rfl⟩ := hp 4 28 _ rfl rfl rfl; replace HE := HE.add e4
   obtain ⟨_, e5, rfl⟩ := hp 5 29 _ rfl rfl rfl; replace HE := HE.add e5
   refine o_callP HE rfl HS rfl rfl T.g26 (c_compare (xs.getD ((((p.1 : Nat) : Int) + ((p.2 : Nat) : Int)) / 2).toNat ⟨0, 0, []⟩) t _ _ HS.sub) ?_
   clear HE HS; rintro _ w a HS rfl HE
   exact ⟨_, _, HS, rfl, HE.get _ _ rfl, HE.defers, rfl⟩
  ·intro a w G1 hl HS HE hp
   obtain ⟨_, e6, rfl⟩ := hp 6 30 _ rfl rfl rfl; replace HE := HE.add e6
   refine o_lss HE rfl rfl rfl ?_; clear HE; intro a HE
   exact ⟨_, _, HS, rfl, HE.get _ _ rfl, HE.defers, rfl⟩
  clear HE HS; intro a w HS HE hp
  obtain ⟨_, e7, rfl⟩ := hp 7 31 _ rfl rfl; replace HE := HE.add e7
  clear hp
  refine hK12 _ _ ?_; clear hK12
  refine cond HE rfl (fun h15r => ?_) (fun h15r => ?_)
  ·have h15 := nm h15r
   refine wp_region_lit ?_
   refine rn 3 HE HS ?_; clear HE HS; intro a w HE HS
   have hm9 : ((((p.1 : Nat) : Int) + ((p.2 : Nat) : Int)) / 2).toNat = ((p.1 + p.2) / 2) := by omega
   have hc9 := h15
   rw [hm9] at hc9
   have hA2 : ∀ k, k < ((p.1 + p.2) / 2) + 1 → compareV (xs.getD k ⟨0, 0, []⟩) t < 0 := by
    intro k hk
    rcases Nat.lt_or_ge k ((p.1 + p.2) / 2) with h_9 | h_9
    ·exact hso k _ h_9 (by omega) hc9
    ·obtain rfl : k = ((p.1 + p.2) / 2) := by omega
     exact hc9
   have ev9 : (((p.1 : Nat) : Int) + ((p.2 : Nat) : Int)) / 2 + 1 = ((((p.1 + p.2) / 2) + 1 : Nat) : Int) := by omega
   rw [ev9] at HE
   exact ⟨((p.1 + p.2) / 2 + 1, p.2), ⟨HS, HE.cut ⟨rfl, rfl, rfl, rfl, rfl, rfl, rfl, rfl, trivial⟩, ⟨by dsimp only; omega, by dsimp only; omega, hA2, hp4⟩⟩, by dsimp only; omega⟩
  ·have h15 := nm h15r
   refine wp_region_lit ?_
   refine rn 2 HE HS ?_; clear HE HS; intro a w HE HS
   have hm9 : ((((p.1 : Nat) : Int) + ((p.2 : Nat) : Int)) / 2).toNat = ((p.1 + p.2) / 2) := by omega
   have hc9 := h15
   rw [hm9] at hc9
   have hB2 : ∀ k, ((p.1 + p.2) / 2) ≤ k → k < xs.length → ¬ compareV (xs.getD k ⟨0, 0, []⟩) t < 0 := by
    intro k hk hk2 hlt
    rcases Nat.eq_or_lt_of_le hk with h_9 | h_9
    ·rw [← h_9] at hlt; exact absurd hlt (by omega)
    ·exact absurd (hso _ k h_9 hk2 hlt) (by omega)
   have ev9 : (((p.1 : Nat) : Int) + ((p.2 : Nat) : Int)) / 2 = ((((p.1 + p.2) / 2) : Nat) : Int) := by omega
   rw [ev9] at HE
   exact ⟨(p.1, (p.1 + p.2) / 2), ⟨HS, HE.cut ⟨rfl, rfl, rfl, rfl, rfl, rfl, rfl, rfl, trivial⟩, ⟨by dsimp only; omega, by dsimp only; omega, hp3, hB2⟩⟩, by dsimp only; omega⟩
 ·have h10 := nm h10r
  refine wp_exit ?_
  refine hK4 _ _ ?_; clear hK4
  refine wp_seq_k (fun K17 hK16 => ?_)
  obtain ⟨eb18, eo18, hc18⟩ : ∃ eb eo, ((decide (((p.1 : Nat) : Int) < (xs.length : Int))) = true → (A : Option Addr) = some ⟨eb, eo, none⟩ ∧ ElAt kVal G eb (eo + ((p.1 : Nat) : Int).toNat * 3) (xs.getD p.1 ⟨0, 0, []⟩)) := by
   by_cases hg : (decide (((p.1 : Nat) : Int) < (xs.length : Int))) = true
   ·have hg2 := hg; simp only [decide_eq_true_eq, decide_eq_false_iff_not] at hg2; have hi : ((p.1 : Nat) : Int).toNat < xs.length := by omega
    obtain ⟨eb, eo, hA, el⟩ := Rd.at hR (List.getElem?_eq_getElem hi)
    exact ⟨eb, eo, fun _ => ⟨hA, by rw [show xs[((p.1 : Nat) : Int).toNat] = (xs.getD p.1 ⟨0, 0, []⟩) from getD_get (i := p.1) hi _] at el; exact el⟩⟩
   ·exact ⟨0, 0, fun h => absurd h hg⟩
  replace HE := HE.cut (L' := [(0, .slice A xs.length c), (2, .func (.func 26) #[] #[]), (4, .pointer (some ⟨B4, 0, none⟩)), (8, .int .i64 (xs.length : Int)), (9, .int .i64 ((p.1 : Nat) : Int)), (10, .int .i64 ((p.2 : Nat) : Int)), (15, .int .i64 ((p.1 : Nat) : Int)), (16, .int .i64 ((p.2 : Nat) : Int)), (17, .bool (decide (((p.1 : Nat) : Int) < ((p.2 : Nat) : Int))))]) ⟨rfl, rfl, rfl, rfl, rfl, rfl, rfl, rfl, rfl, trivial⟩
  refine drawnP [fun v => v = .int .i64 ((p.1 : Nat) : Int), fun v => v = .int .i64 ((p.1 : Nat) : Int), fun v => v = .int .i64 (xs.length : Int), fun v => v = .bool (decide (((p.1 : Nat) : Int) < (xs.length : Int))), fun v => v = .bool (decide (((p.1 : Nat) : Int) < (xs.length : Int))), fun v => (decide (((p.1 : Nat) : Int) < (xs.length : Int))) = true → v = .func (.func 26) #[] #[], fun v => (decide (((p.1 : Nat) : Int) < (xs.length : Int))) = true → v = .slice A xs.length c, fun v => (decide (((p.1 : Nat) : Int) < (xs.length : Int))) = true → v = .int .i64 ((p.1 : Nat) : Int), fun v => (decide (((p.1 : Nat) : Int) < (xs.length : Int))) = true → v = .pointer (some ⟨eb18, eo18 + ((p.1 : Nat) : Int).toNat * 3, none⟩), fun v => (decide (((p.1 : Nat) : Int) < (xs.length : Int))) = true → v = .agg #[.int .i64 ((xs.getD p.1 ⟨0, 0, []⟩).k), .int .i64 ((xs.getD p.1 ⟨0, 0, []⟩).n), str ((xs.getD p.1 ⟨0, 0, []⟩).s)], fun v => (decide (((p.1 : Nat) : Int) < (xs.length : Int))) = true → v = .agg #[.int .i64 t.k, .int .i64 t.n, str t.s], fun v => (decide (((p.1 : Nat) : Int) < (xs.length : Int))) = true → v = .int .i64 (compareV (xs.getD p.1 ⟨0, 0, []⟩) t), fun v => (decide (((p.1 : Nat) : Int) < (xs.length : Int))) = true → v = .bool (decide ((compareV (xs.getD p.1 ⟨0, 0, []⟩) t) = 0)), fun v => v = .bool ((decide (((p.1 : Nat) : Int) < (xs.length : Int))) && (decide ((compareV (xs.getD p.1 ⟨0, 0, []⟩) t) = 0))), fun v => v = .int .i64 ((p.1 : Nat) : Int), fun v => v = .bool ((decide (((p.1 : Nat) : Int) < (xs.length : Int))) && (decide ((compareV (xs.getD p.1 ⟨0, 0, []⟩) t) = 0)))] T.mix rfl HE HS rfl ⟨?_, ?_, ?_, ?_, ?_, ?_, ?_, ?_, ?_, ?_, ?_, ?_, ?_, ?_, ?_, ?_, trivial⟩ ?_
  ·intro a w G1 hl HS HE hp
   refine o_move HE rfl rfl ?_; clear HE; intro a HE
   exact ⟨_, _, HS, rfl, HE.get _ _ rfl, HE.defers, rfl⟩
  ·intro a w G1 hl HS HE hp
   refine o_move HE rfl rfl ?_; clear HE; intro a HE
   exact ⟨_, _, HS, rfl, HE.get _ _ rfl, HE.defers, rfl⟩
  ·intro a w G1 hl HS HE hp
   refine o_move HE rfl rfl ?_; clear HE; intro a HE
   exact ⟨_, _, HS, rfl, HE.get _ _ rfl, HE.defers, rfl⟩
  ·intro a w G1 hl HS HE hp
   obtain ⟨_, e1, rfl⟩ := hp 1 36 _ rfl rfl rfl; replace HE := HE.add e1
   obtain ⟨_, e2, rfl⟩ := hp 2 37 _ rfl rfl rfl; replace HE := HE.add e2
   refine o_lss HE rfl rfl rfl ?_; clear HE; intro a HE
   exact ⟨_, _, HS, rfl, HE.get _ _ rfl, HE.defers, rfl⟩
  ·intro a w G1 hl HS HE hp
   obtain ⟨_, e3, rfl⟩ := hp 3 38 _ rfl rfl rfl; replace HE := HE.add e3
   refine o_move HE rfl rfl ?_; clear HE; intro a HE
   exact ⟨_, _, HS, rfl, HE.get _ _ rfl, HE.defers, rfl⟩
  ·intro a w G1 hl HS HE hp
   obtain ⟨_, eg, rfl⟩ := hp 4 39 _ rfl rfl rfl; replace HE := HE.add eg
   refine (Bool.eq_false_or_eq_true (decide (((p.1 : Nat) : Int) < (xs.length : Int)))).elim (fun hb => ?_) (fun hb => ?_)
   ·skip
    refine op_on HE rfl rfl hb ?_
    refine o_move HE rfl rfl ?_; clear HE; intro a HE
    exact ⟨_, _, HS, rfl, HE.get _ _ rfl, HE.defers, fun _ => rfl⟩
   ·skip
    refine g_off HE rfl rfl rfl hb ?_; clear HE; intro a HE
    exact ⟨_, _, HS, rfl, HE.get _ _ rfl, HE.defers, fun h => absurd (hb.symm.trans h) (by decide)⟩
  ·intro a w G1 hl HS HE hp
   obtain ⟨_, eg, rfl⟩ := hp 4 39 _ rfl rfl rfl; replace HE := HE.add eg
   refine (Bool.eq_false_or_eq_true (decide (((p.1 : Nat) : Int) < (xs.length : Int)))).elim (fun hb => ?_) (fun hb => ?_)
   ·skip
    refine op_on HE rfl rfl hb ?_
    refine o_move HE rfl rfl ?_; clear HE; intro a HE
    exact ⟨_, _, HS, rfl, HE.get _ _ rfl, HE.defers, fun _ => rfl⟩
   ·skip
    refine g_off HE rfl rfl rfl hb ?_; clear HE; intro a HE
    exact ⟨_, _, HS, rfl, HE.get _ _ rfl, HE.defers, fun h => absurd (hb.symm.trans h) (by decide)⟩
  ·intro a w G1 hl HS HE hp
   obtain ⟨_, eg, rfl⟩ := hp 4 39 _ rfl rfl rfl; replace HE := HE.add eg
   refine (Bool.eq_false_or_eq_true (decide (((p.1 : Nat) : Int) < (xs.length : Int)))).elim (fun hb => ?_) (fun hb => ?_)
   ·skip
    refine op_on HE rfl rfl hb ?_
    refine o_move HE rfl rfl ?_; clear HE; intro a HE
    exact ⟨_, _, HS, rfl, HE.get _ _ rfl, HE.defers, fun _ => rfl⟩
   ·skip
    refine g_off HE rfl rfl rfl hb ?_; clear HE; intro a HE
    exact ⟨_, _, HS, rfl, HE.get _ _ rfl, HE.defers, fun h => absurd (hb.symm.trans h) (by decide)⟩
  ·intro a w G1 hl HS HE hp
   obtain ⟨_, eg, rfl⟩ := hp 4 39 _ rfl rfl rfl; replace HE := HE.add eg
   refine (Bool.eq_false_or_eq_true (decide (((p.1 : Nat) : Int) < (xs.length : Int)))).elim (fun hb => ?_) (fun hb => ?_)
   ·skip
    obtain ⟨_, e6, h6v⟩ := hp 6 41 _ rfl rfl rfl; cases h6v hb; replace HE := HE.add e6
    obtain ⟨_, e7, h7v⟩ := hp 7 42 _ rfl rfl rfl; cases h7v hb; replace HE := HE.add e7
    refine op_on HE rfl rfl hb ?_
    have hbk := hb; simp only [decide_eq_true_eq, decide_eq_false_iff_not] at hbk
    obtain ⟨hA18, el18⟩ := hc18 hb; cases hA18
    refine o_ixL HE rfl rfl rfl T.l22 ⟨by omega, by omega⟩ ?_; clear HE; intro a HE
    exact ⟨_, _, HS, rfl, HE.get _ _ rfl, HE.defers, fun _ => rfl⟩
   ·skip
    refine g_off HE rfl rfl rfl hb ?_; clear HE; intro a HE
    exact ⟨_, _, HS, rfl, HE.get _ _ rfl, HE.defers, fun h => absurd (hb.symm.trans h) (by decide)⟩
  ·intro a w G1 hl HS HE hp
   obtain ⟨_, eg, rfl⟩ := hp 4 39 _ rfl rfl rfl; replace HE := HE.add eg
   refine (Bool.eq_false_or_eq_true (decide (((p.1 : Nat) : Int) < (xs.length : Int)))).elim (fun hb => ?_) (fun hb => ?_)
   ·skip
    obtain ⟨_, e8, h8v⟩ := hp 8 43 _ rfl rfl rfl; cases h8v hb; replace HE := HE.add e8
    refine op_on HE rfl rfl hb ?_
    obtain ⟨_, el18⟩ := hc18 hb
    have el18 := kVal_open el18
    refine o_ldIA HE rfl HS rfl (el18.le hl) T.a32 ?_; clear HE; intro a HE
    exact ⟨_, _, HS, rfl, HE.get _ _ rfl, HE.defers, fun _ => rfl⟩
   ·skip
    refine g_off HE rfl rfl rfl hb ?_; clear HE; intro a HE
    exact ⟨_, _, HS, rfl, HE.get _ _ rfl, HE.defers, fun h => absurd (hb.symm.trans h) (by decide)⟩
  ·intro a w G1 hl HS HE hp
   obtain ⟨_, eg, rfl⟩ := hp 4 39 _ rfl rfl rfl; replace HE := HE.add eg
   refine (Bool.eq_false_or_eq_true (decide (((p.1 : Nat) : Int) < (xs.length : Int)))).elim (fun hb => ?_) (fun hb => ?_)
   ·skip
    refine op_on HE rfl rfl hb ?_
    refine o_ldA HE rfl HS rfl T.a32 (.here .here) rfl ?_; clear HE; intro a HE
    exact ⟨_, _, HS, rfl, HE.get _ _ rfl, HE.defers, fun _ => rfl⟩
   ·skip
    refine g_off HE rfl rfl rfl hb ?_; clear HE; intro a HE
    exact ⟨_, _, HS, rfl, HE.get _ _ rfl, HE.defers, fun h => absurd (hb.symm.trans h) (by decide)⟩
  ·intro a w G1 hl HS HE hp
   obtain ⟨_, eg, rfl⟩ := hp 4 39 _ rfl rfl rfl; replace HE := HE.add eg
   refine (Bool.eq_false_or_eq_true (decide (((p.1 : Nat) : Int) < (xs.length : Int)))).elim (fun hb => ?_) (fun hb => ?_)
   ·skip
    obtain ⟨_, e5, h5v⟩ := hp 5 40 _ rfl rfl rfl; cases h5v hb; replace HE := HE.add e5
    obtain ⟨_, e9, h9v⟩ := hp 9 44 _ rfl rfl rfl; cases h9v hb; replace HE := HE.add e9
    obtain ⟨_, e10, h10v⟩ := hp 10 45 _ rfl rfl rfl; cases h10v hb; replace HE := HE.add e10
    refine op_on HE rfl rfl hb ?_
    refine o_callP HE rfl HS rfl rfl T.g26 (c_compare (xs.getD p.1 ⟨0, 0, []⟩) t _ _ HS.sub) ?_
    clear HE HS; rintro _ w a HS rfl HE
    exact ⟨_, _, HS, rfl, HE.get _ _ rfl, HE.defers, fun _ => rfl⟩
   ·skip
    refine g_off HE rfl rfl rfl hb ?_; clear HE; intro a HE
    exact ⟨_, _, HS, rfl, HE.get _ _ rfl, HE.defers, fun h => absurd (hb.symm.trans h) (by decide)⟩
  ·intro a w G1 hl HS HE hp
   obtain ⟨_, eg, rfl⟩ := hp 4 39 _ rfl rfl rfl; replace HE := HE.add eg
   refine (Bool.eq_false_or_eq_true (decide (((p.1 : Nat) : Int) < (xs.length : Int)))).elim (fun hb => ?_) (fun hb => ?_)
   ·skip
    obtain ⟨_, e11, h11v⟩ := hp 11 46 _ rfl rfl rfl; cases h11v hb; replace HE := HE.add e11
    refine op_on HE rfl rfl hb ?_
    refine o_eqI HE rfl rfl rfl ?_; clear HE; intro a HE
    exact ⟨_, _, HS, rfl, HE.get _ _ rfl, HE.defers, fun _ => rfl⟩
   ·skip
    refine g_off HE rfl rfl rfl hb ?_; clear HE; intro a HE
    exact ⟨_, _, HS, rfl, HE.get _ _ rfl, HE.defers, fun h => absurd (hb.symm.trans h) (by decide)⟩
  ·intro a w G1 hl HS HE hp
   obtain ⟨_, e4, rfl⟩ := hp 4 39 _ rfl rfl rfl; replace HE := HE.add e4
   refine (Bool.eq_false_or_eq_true (decide (((p.1 : Nat) : Int) < (xs.length : Int)))).elim (fun hb => ?_) (fun hb => ?_)
   ·skip
    obtain ⟨_, e12, h12v⟩ := hp 12 47 _ rfl rfl rfl; cases h12v hb; replace HE := HE.add e12
    refine o_pick_t HE rfl rfl hb rfl ?_; clear HE; intro a HE
    exact ⟨_, _, HS, rfl, HE.get _ _ rfl, HE.defers, by rw [hb]; rfl⟩
   ·skip
    refine o_pick_f HE rfl rfl hb rfl ?_; clear HE; intro a HE
    exact ⟨_, _, HS, rfl, HE.get _ _ rfl, HE.defers, by rw [hb]; rfl⟩
  ·intro a w G1 hl HS HE hp
   obtain ⟨_, e0, rfl⟩ := hp 0 35 _ rfl rfl rfl; replace HE := HE.add e0
   refine o_assign HE rfl rfl ?_; clear HE; intro a HE
   exact ⟨_, _, HS, rfl, HE.get _ _ rfl, HE.defers, rfl⟩
  ·intro a w G1 hl HS HE hp
   obtain ⟨_, e13, rfl⟩ := hp 13 48 _ rfl rfl rfl; replace HE := HE.add e13
   refine o_assign HE rfl rfl ?_; clear HE; intro a HE
   exact ⟨_, _, HS, rfl, HE.get _ _ rfl, HE.defers, rfl⟩
  clear HE HS; intro a w HS HE hp
  obtain ⟨_, e14, rfl⟩ := hp 14 6 _ rfl rfl; replace HE := HE.add e14
  obtain ⟨_, e15, rfl⟩ := hp 15 7 _ rfl rfl; replace HE := HE.add e15
  clear hp
  refine hK16 _ _ ?_; clear hK16
  refine rt hQ HE HS ?_
  have hpe : p.1 = p.2 := by omega
  have hcl := clV_at (xs := xs) (t := t) (i := p.1) (by omega) hp3 (by rw [hpe]; exact hp4)
  have htn : (clV xs t).toNat = p.1 := by rw [hcl]; omega
  show _ = _
  unfold fndV
  rw [htn, hcl]
  rfl

/-! `incognito/names.word` -/
set_option maxRecDepth 100000 in
set_option maxHeartbeats 4000000 in
theorem c_word27 (s : Bs) (w0 : World) (G : Heap) (hG : Sub G w0) :
  Calls Tryd.prog 18 #[str s] w0 (Ret w0 G (fun v _ => v = .agg #[.int .i64 2, .int .i64 0, str s])) := by
 refine enter Tryd.func18 rfl Tryd.ntmps18 rfl ?_
 intro Q hQ a HE
 have HS := St.start0 hG
 refine sr fun K hK => ?_
 refine o_allocZ HE rfl HS ?_; clear HE HS; intro B2 w a HS HE
 apply hK; clear hK K
 refine sr fun K hK => ?_
 refine rn 1 HE HS ?_; clear HE HS; intro a w HE HS
 refine o_build (cs := #[.int .i64 2, .int .i64 0, str s]) HE rfl rfl (by kernel_rfl) ?_; clear HE; intro a HE
 refine rn 1 HE HS ?_; clear HE HS; intro a w HE HS
 apply hK; clear hK K
 refine rt hQ HE HS ?_
 show _ = _
 rfl

/-! `incognito/names.naming$1` -/
set_option maxRecDepth 100000 in
set_option maxHeartbeats 4000000 in
theorem c_nam1 (i : Int) (b1 : Nat) (lt : Bs) (w0 : World) (G : Heap) (hG : Sub G w0) (hT : TabG G 3 .u64 Lib.pow10Tab) (hC1 : CellsAt G b1 0 [str lt]) (hi : 0 ≤ i ∧ i ≤ 1000000) (hlt : lt.length ≤ 10):
  Calls Tryd.prog 17 #[.int .i64 i, .pointer (some ⟨b1, 0, none⟩)] w0 (Ret w0 G (fun v _ => v = .agg #[.int .i64 2, .int .i64 0, str (lt ++ Lib.itoa (i + 1))])) := by
 refine enter Tryd.func17 rfl Tryd.ntmps17 rfl ?_
 intro Q hQ a HE
 have HS := St.start0 hG
 refine sr fun K hK => ?_
 refine o_allocZ HE rfl HS ?_; clear HE HS; intro B3 w a HS HE
 apply hK; clear hK K
 refine wp_seq_k (fun K3 hK2 => ?_)
 have hit := Lib.itoa_length_le (i + 1) (by omega) (by omega)
 replace HE := HE.cut (L' := [(0, .int .i64 i), (1, .pointer (some ⟨b1, 0, none⟩)), (3, .pointer (some ⟨B3, 0, none⟩))]) ⟨rfl, rfl, rfl, trivial⟩
 refine drawnF (fun f G' w => Heap.le G G' ∧ St w0 G [] G' w [[(B3, Cells 32 [(0, bif f 6 then .int .i64 2 else .int .i64 0), (1, bif f 6 then .int .i64 0 else .int .i64 0), (2, bif f 6 then str (lt ++ (Lib.itoa (i + 1))) else str [])])]]) [fun v _ => v = str lt, fun v _ => v = .int .i64 i, fun v _ => v = .int .i64 (i + 1), fun v _ => v = str (Lib.itoa (i + 1)), fun v _ => v = str (lt ++ (Lib.itoa (i + 1))), fun v _ => v = .agg #[.int .i64 2, .int .i64 0, str (lt ++ (Lib.itoa (i + 1)))], fun _ _ => True] [] T.mix rfl HE ⟨Heap.le.refl _, HS.drew⟩ rfl (by simp) (AllM.get ⟨fun _ _ _ _ h => h, fun _ _ _ _ h => h, fun _ _ _ _ h => h, fun _ _ _ _ h => h, fun _ _ _ _ h => h, fun _ _ _ _ h => h, fun _ _ _ _ h => h, trivial⟩) ⟨?_, ?_, ?_, ?_, ?_, ?_, ?_, trivial⟩ ?_
 ·intro a w G1 f hcl hfi hon hW HE hp hO; obtain ⟨hl, HS⟩ := hW
  refine o_ldI HE rfl HS rfl T.s9 (hC1.le hl) (j := 0) rfl rfl ?_; clear HE; intro a HE
  exact ⟨_, _, Heap.le.refl _, ⟨hl, HS⟩, fun d hd => (by cases hd; exact HE.get _ _ rfl), HE.defers, rfl⟩
 ·intro a w G1 f hcl hfi hon hW HE hp hO; obtain ⟨hl, HS⟩ := hW
  refine o_move HE rfl rfl ?_; clear HE; intro a HE
  exact ⟨_, _, Heap.le.refl _, ⟨hl, HS⟩, fun d hd => (by cases hd; exact HE.get _ _ rfl), HE.defers, rfl⟩
 ·intro a w G1 f hcl hfi hon hW HE hp hO; obtain ⟨hl, HS⟩ := hW
  obtain ⟨_, e1, rfl⟩ := hp 1 5 _ (hon 1 rfl) rfl rfl; replace HE := HE.add e1
  refine o_add HE rfl rfl rfl (by omega) ?_; clear HE; intro a HE
  exact ⟨_, _, Heap.le.refl _, ⟨hl, HS⟩, fun d hd => (by cases hd; exact HE.get _ _ rfl), HE.defers, rfl⟩
 ·intro a w G1 f hcl hfi hon hW HE hp hO; obtain ⟨hl, HS⟩ := hW
  obtain ⟨_, e2, rfl⟩ := hp 2 6 _ (hon 2 rfl) rfl rfl; replace HE := HE.add e2
  refine o_callP HE rfl HS rfl rfl T.g19 (c_print6 (i + 1) _ _ HS.sub (by first | assumption | exact hv.n | omega) (hT.le hl)) ?_
  clear HE HS; rintro _ w a HS rfl HE
  exact ⟨_, _, Heap.le.refl _, ⟨hl, HS⟩, fun d hd => (by cases hd; exact HE.get _ _ rfl), HE.defers, rfl⟩
 ·intro a w G1 f hcl hfi hon hW HE hp hO; obtain ⟨hl, HS⟩ := hW
  obtain ⟨_, e0, rfl⟩ := hp 0 4 _ (hon 0 rfl) rfl rfl; replace HE := HE.add e0
  obtain ⟨_, e3, rfl⟩ := hp 3 7 _ (hon 3 rfl) rfl rfl; replace HE := HE.add e3
  refine o_cat HE rfl rfl rfl (by omega) ?_; clear HE; intro a HE
  exact ⟨_, _, Heap.le.refl _, ⟨hl, HS⟩, fun d hd => (by cases hd; exact HE.get _ _ rfl), HE.defers, rfl⟩
 ·intro a w G1 f hcl hfi hon hW HE hp hO; obtain ⟨hl, HS⟩ := hW
  obtain ⟨_, e4, rfl⟩ := hp 4 8 _ (hon 4 rfl) rfl rfl; replace HE := HE.add e4
  refine o_callP HE rfl HS rfl rfl T.g18 (c_word27 (lt ++ (Lib.itoa (i + 1))) _ _ HS.sub) ?_
  clear HE HS; rintro _ w a HS rfl HE
  exact ⟨_, _, Heap.le.refl _, ⟨hl, HS⟩, fun d hd => (by cases hd; exact HE.get _ _ rfl), HE.defers, rfl⟩
 ·intro a w G1 f hcl hfi hon hW HE hp hO; obtain ⟨hl, HS⟩ := hW
  obtain ⟨_, e5, rfl⟩ := hp 5 9 _ (hon 5 rfl) rfl rfl; replace HE := HE.add e5
  refine o_stA HE HS rfl rfl rfl T.a32 (.here .here) rfl ?_; clear HS; intro w HS
  replace HS := HS.conv (L2 := [(0, _), (1, _), (2, _)]) (.here .here) ⟨rfl, rfl, rfl, trivial⟩
  exact ⟨.bool true, _, Heap.le.refl _, ⟨hl, HS⟩, fun d hd => (by cases hd), HE.defers, trivial⟩
 clear HE HS; intro a w G4 f hle5 hall HW HE hp; obtain ⟨_, HS⟩ := HW
 have hfw6 := hall 6 (by decide)
 simp only [hfw6, cond_true] at HS
 replace hT := hT.le hle5
 replace hC1 := hC1.le hle5
 clear hp hall
 refine hK2 _ _ ?_; clear hK2
 refine rt hQ HE HS ?_
 show _ = _
 rfl

/-! `incognito/names.naming$3` -/
set_option maxRecDepth 100000 in
set_option maxHeartbeats 4000000 in
theorem c_nam3 (i : Int) (b1 b2 : Nat) (so l : List Val) (A1 A2 : Option Addr) (c1 c2 : Nat) (w0 : World) (G : Heap) (hG : Sub G w0) (hC1 : CellsAt G b1 0 [.slice A1 so.length c1]) (hC2 : CellsAt G b2 0 [.slice A2 l.length c2]) (hR1 : Rd kVal G A1 so) (hR2 : Rd kVal G A2 l) (hi : 0 ≤ i ∧ i < (l.length : Int)) (hl : so.length ≤ 1000000) (hso : ∀ t, SoV so t):
  Calls Tryd.prog 24 #[.int .i64 i, .pointer (some ⟨b1, 0, none⟩), .pointer (some ⟨b2, 0, none⟩)] w0 (Ret w0 G (fun v _ => v = .agg #[.int .i64 1, .int .i64 (clV so (l.getD i.toNat ⟨0, 0, []⟩) + 1), str []])) := by
 refine enter Tryd.func24 rfl Tryd.ntmps24 rfl ?_
 intro Q hQ a HE
 have HS := St.start0 hG
 refine sr fun K hK => ?_
 refine o_allocZ HE rfl HS ?_; clear HE HS; intro B4 w a HS HE
 apply hK; clear hK K
 refine wp_seq_k (fun K3 hK2 => ?_)
 have hi4 : i.toNat < l.length := by omega
 obtain ⟨eb4, eo4, hA4, el4⟩ := Rd.at hR2 (List.getElem?_eq_getElem hi4); cases hA4
 rw [show l[i.toNat] = (l.getD i.toNat ⟨0, 0, []⟩) from getD_get (i := i.toNat) hi4 _] at el4
 have el4 := kVal_open el4
 refine drawnP [fun v => v = .slice A1 so.length c1, fun v => v = .slice (some ⟨eb4, eo4, none⟩) l.length c2, fun v => v = .int .i64 i, fun v => v = .pointer (some ⟨eb4, eo4 + i.toNat * 3, none⟩), fun v => v = .agg #[.int .i64 ((l.getD i.toNat ⟨0, 0, []⟩).k), .int .i64 ((l.getD i.toNat ⟨0, 0, []⟩).n), str ((l.getD i.toNat ⟨0, 0, []⟩).s)], fun v => v = .tuple #[.int .i64 (clV so (l.getD i.toNat ⟨0, 0, []⟩)), .bool (fndV so (l.getD i.toNat ⟨0, 0, []⟩))], fun v => v = .tuple #[.int .i64 (clV so (l.getD i.toNat ⟨0, 0, []⟩)), .bool (fndV so (l.getD i.toNat ⟨0, 0, []⟩))], fun v => v = .int .i64 (clV so (l.getD i.toNat ⟨0, 0, []⟩)), fun v => v = .bool (fndV so (l.getD i.toNat ⟨0, 0, []⟩)), fun v => v = .int .i64 (clV so (l.getD i.toNat ⟨0, 0, []⟩)), fun v => v = .bool (fndV so (l.getD i.toNat ⟨0, 0, []⟩))] T.mix rfl HE HS rfl ⟨?_, ?_, ?_, ?_, ?_, ?_, ?_, ?_, ?_, ?_, ?_, trivial⟩ ?_
 ·intro a w G1 hl HS HE hp
  refine o_ldI HE rfl HS rfl T.s22 (hC1.le hl) (j := 0) rfl rfl ?_; clear HE; intro a HE
  exact ⟨_, _, HS, rfl, HE.get _ _ rfl, HE.defers, rfl⟩
 ·intro a w G1 hl HS HE hp
  refine o_ldI HE rfl HS rfl T.s22 (hC2.le hl) (j := 0) rfl rfl ?_; clear HE; intro a HE
  exact ⟨_, _, HS, rfl, HE.get _ _ rfl, HE.defers, rfl⟩
 ·intro a w G1 hl HS HE hp
  refine o_move HE rfl rfl ?_; clear HE; intro a HE
  exact ⟨_, _, HS, rfl, HE.get _ _ rfl, HE.defers, rfl⟩
 ·intro a w G1 hl HS HE hp
  obtain ⟨_, e1, rfl⟩ := hp 1 9 _ rfl rfl rfl; replace HE := HE.add e1
  obtain ⟨_, e2, rfl⟩ := hp 2 10 _ rfl rfl rfl; replace HE := HE.add e2
  refine o_ixL HE rfl rfl rfl T.l22 ⟨by omega, by omega⟩ ?_; clear HE; intro a HE
  exact ⟨_, _, HS, rfl, HE.get _ _ rfl, HE.defers, rfl⟩
 ·intro a w G1 hl HS HE hp
  obtain ⟨_, e3, rfl⟩ := hp 3 11 _ rfl rfl rfl; replace HE := HE.add e3
  refine o_ldIA HE rfl HS rfl (el4.le hl) T.a32 ?_; clear HE; intro a HE
  exact ⟨_, _, HS, rfl, HE.get _ _ rfl, HE.defers, rfl⟩
 ·intro a w G1 hl HS HE hp
  obtain ⟨_, e0, rfl⟩ := hp 0 8 _ rfl rfl rfl; replace HE := HE.add e0
  obtain ⟨_, e4, rfl⟩ := hp 4 12 _ rfl rfl rfl; replace HE := HE.add e4
  refine o_callP HE rfl HS rfl rfl T.g25 (c_bsearch so _ _ (l.getD i.toNat ⟨0, 0, []⟩) _ _ HS.sub (hR1.le hl) (by first | assumption | omega) (by first | assumption | exact hso _)) ?_
  clear HE HS; rintro _ w a HS rfl HE
  exact ⟨_, _, HS, rfl, HE.get _ _ rfl, HE.defers, rfl⟩
 ·intro a w G1 hl HS HE hp
  obtain ⟨_, e5, rfl⟩ := hp 5 13 _ rfl rfl rfl; replace HE := HE.add e5
  refine o_move HE rfl rfl ?_; clear HE; intro a HE
  exact ⟨_, _, HS, rfl, HE.get _ _ rfl, HE.defers, rfl⟩
 ·intro a w G1 hl HS HE hp
  obtain ⟨_, e6, rfl⟩ := hp 6 7 _ rfl rfl rfl; replace HE := HE.add e6
  refine o_extract HE rfl rfl rfl ?_; clear HE; intro a HE
  exact ⟨_, _, HS, rfl, HE.get _ _ rfl, HE.defers, rfl⟩
 ·intro a w G1 hl HS HE hp
  obtain ⟨_, e6, rfl⟩ := hp 6 7 _ rfl rfl rfl; replace HE := HE.add e6
  refine o_extract HE rfl rfl rfl ?_; clear HE; intro a HE
  exact ⟨_, _, HS, rfl, HE.get _ _ rfl, HE.defers, rfl⟩
 ·intro a w G1 hl HS HE hp
  obtain ⟨_, e7, rfl⟩ := hp 7 14 _ rfl rfl rfl; replace HE := HE.add e7
  refine o_assign HE rfl rfl ?_; clear HE; intro a HE
  exact ⟨_, _, HS, rfl, HE.get _ _ rfl, HE.defers, rfl⟩
 ·intro a w G1 hl HS HE hp
  obtain ⟨_, e8, rfl⟩ := hp 8 15 _ rfl rfl rfl; replace HE := HE.add e8
  refine o_assign HE rfl rfl ?_; clear HE; intro a HE
  exact ⟨_, _, HS, rfl, HE.get _ _ rfl, HE.defers, rfl⟩
 clear HE HS; intro a w HS HE hp
 obtain ⟨_, e9, rfl⟩ := hp 9 5 _ rfl rfl; replace HE := HE.add e9
 clear hp
 refine hK2 _ _ ?_; clear hK2
 refine sr fun K hK => ?_
 refine rn 1 HE HS ?_; clear HE HS; intro a w HE HS
 have hcl9 : 0 ≤ clV so (l.getD i.toNat ⟨0, 0, []⟩) ∧ clV so (l.getD i.toNat ⟨0, 0, []⟩) ≤ (so.length : Int) := by
  unfold clV
  have := List.length_filter_le (fun x => decide (compareV x (l.getD i.toNat ⟨0, 0, []⟩) < 0)) so
  omega
 refine rn 1 HE HS ?_; clear HE HS; intro a w HE HS
 refine o_build (cs := #[.int .i64 1, .int .i64 ((clV so (l.getD i.toNat ⟨0, 0, []⟩)) + 1), str []]) HE rfl rfl (by kernel_rfl) ?_; clear HE; intro a HE
 refine rn 1 HE HS ?_; clear HE HS; intro a w HE HS
 apply hK; clear hK K
 refine rt hQ HE HS ?_
 show _ = _
 rfl
end Go.Proofs.YtngoaapgdfohjaaDoor.T27
