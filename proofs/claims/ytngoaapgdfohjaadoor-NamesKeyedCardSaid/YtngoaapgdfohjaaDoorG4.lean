/- Sorting; naming: walked. -/
import Derived.Test.YtngoaapgdfohjaaDoorG3
import Derived.Test.YtngoaapgdfohjaaDoorGN9
import Derived.Test.YtngoaapgdfohjaaDoorGS2
set_option linter.unusedVariables false
set_option linter.unusedSimpArgs false
namespace Go.Proofs.YtngoaapgdfohjaaDoor.T27
open Go Go.Proofs.YtngoaapgdfohjaaDoor.X
instance : LZ Tryd.prog 22 [(0, .slice none 0 0)] := ⟨⟨.slice none 0 0, by kernel_rfl, ⟨rfl, trivial⟩⟩⟩
instance : LZ Tryd.prog 9 [(0, str [])] := ⟨⟨str [], by kernel_rfl, ⟨rfl, trivial⟩⟩⟩
theorem T.g17 : goFn Tryd.prog 17 = true := by kernel_rfl
theorem T.g23 : goFn Tryd.prog 23 = true := by kernel_rfl
theorem T.g24 : goFn Tryd.prog 24 = true := by kernel_rfl
theorem T.g33 : goFn Tryd.prog 33 = true := by kernel_rfl
theorem T.g34 : goFn Tryd.prog 34 = true := by kernel_rfl

theorem val_eq {a b : Val} (h : (decide (a.k = b.k) && (decide (a.n = b.n) && (a.s == b.s && true))) = true) : a = b := by
  obtain ⟨k, n, s⟩ := a
  obtain ⟨k', n', s'⟩ := b
  simp at h
  obtain ⟨rfl, rfl, rfl⟩ := h
  rfl
theorem val_ne {a b : Val} (h : (decide (a.k = b.k) && (decide (a.n = b.n) && (a.s == b.s && true))) = false) : ¬ a = b := by
  rintro rfl
  simp at h
theorem take_snoc_eq7 {α : Type} {a b : List α} {i : Nat} (h : a.take i = b.take i) (ha : i < a.length) (hb : i < b.length) (e : a[i] = b[i]) : a.take (i + 1) = b.take (i + 1) := by
  rw [List.take_add_one, List.take_add_one, h, List.getElem?_eq_getElem ha, List.getElem?_eq_getElem hb, e]
open TS in
theorem pos_down {x y : Val} {out : List Val} {k : Nat} {i : Int} (hi : i = (k : Int) + 1) (hk : k < out.length) (hy : out[k] = y) (hl : lessV x y = true) : posV x out (k + 1) = posV x out k := by
  conv => lhs; unfold posV
  rw [if_pos]
  rw [List.getD_eq_getElem?_getD, List.getElem?_eq_getElem hk, Option.getD_some, hy]
  exact hl
open TS in
theorem pos_stay {x y : Val} {out : List Val} {k : Nat} (hk : k < out.length) (hy : out[k] = y) (hl : lessV x y = false) : posV x out (k + 1) = k + 1 := by
  unfold posV
  rw [if_neg]
  rw [List.getD_eq_getElem?_getD, List.getElem?_eq_getElem hk, Option.getD_some, hy, hl]
  decide

theorem cv_lt (x t : Val) : (compareV x t < 0) ↔ lessV x t = true := by
  rw [← TS.lt_less]
  unfold ltOf
  simp
theorem so_sort (l : List Val) : ∀ t, SoV (TS.sortV l) t := by
  intro t a b hab hb h
  have hp : (TS.sortV l).Pairwise (fun x y => TS.leV x y = true) := (TS.upV_sort l) ▸ ((TS.upV_all l l.length (Nat.le_refl _)).2)
  have h1 := List.pairwise_iff_getElem.1 hp a b (by omega) hb hab
  rw [List.getD_eq_getElem?_getD, List.getElem?_eq_getElem hb, Option.getD_some, cv_lt] at h
  rw [List.getD_eq_getElem?_getD, List.getElem?_eq_getElem (by omega : a < (TS.sortV l).length), Option.getD_some, cv_lt]
  have h2 := TS.leV_less h
  have h3 := TS.leV_trans h1 h2
  cases hq : lessV (TS.sortV l)[a] t with
  | true => rfl
  | false =>
    have h4 : TS.leV t (TS.sortV l)[a] = true := by rw [TS.leV_of, hq]; rfl
    have h5 := TS.leV_anti h3 h4
    have h6 : TS.leV (TS.sortV l)[b] t = true := h2
    rw [← h5] at h
    have h7 : TS.leV (TS.sortV l)[a] (TS.sortV l)[b] = true := h1
    rw [TS.leV_of, h] at h7
    cases h7
theorem clV_sort (l : List Val) (t : Val) : clV (TS.sortV l) t = clV l t := by
  unfold clV
  have hp : (TS.sortV l).Perm l := by
    have := (TS.upV_all l l.length (Nat.le_refl _)).1
    rw [TS.upV_sort, List.take_length] at this
    exact this
  rw [(hp.filter _).length_eq]
theorem clV_rng (l : List Val) (t : Val) : 0 ≤ clV l t ∧ clV l t ≤ (l.length : Int) := by
  unfold clV
  have := List.length_filter_le (fun x => decide (compareV x t < 0)) l
  omega
/-! How the values are named. -/
def nameN (r : Rul) (d : Int) (l : List Val) (i : Nat) : Val := if r.way = 1 then ⟨2, 0, letterS d ++ Lib.itoa ((i : Int) + 1)⟩ else ⟨1, clV l (l.getD i ⟨0, 0, []⟩) + 1, []⟩
def FnOk (P : Program) (G : Heap) (nf : Nat) (caps : List Value) (n : Nat) (nm : Nat → Val) : Prop := ∀ w1 G1, Heap.le G G1 → Sub G1 w1 → ∀ i : Nat, i < n → Calls P nf (([] : List Value) ++ [Value.int .i64 ((i : Nat) : Int)] ++ caps).toArray w1 (Ret w1 G1 (fun v _ => v = .agg #[.int .i64 (nm i).k, .int .i64 (nm i).n, str (nm i).s]))
theorem FnOk.le {P : Program} {G G' : Heap} {nf : Nat} {caps : List Value} {n : Nat} {nm : Nat → Val} (h : FnOk P G nf caps n nm) (hl : Heap.le G G') : FnOk P G' nf caps n nm := fun w1 G1 h1 h2 i hi => h w1 G1 (hl.trans h1) h2 i hi
theorem letter_len (d : Int) : (letterS d).length ≤ 1 := by
  unfold letterS
  split
  · decide
  · unfold sub
    rw [List.length_take]
    omega
/-! `slices.Clone[[]incognito/api.Value,incognito/api.Value]` -/
set_option maxRecDepth 100000 in
set_option maxHeartbeats 4000000 in
theorem c_clone7 (xs : List Val) (A : Option Addr) (c : Nat) (w0 : World) (G : Heap) (hG : Sub G w0) (hR : Rd kVal G A xs) (hl : xs.length ≤ 1000000):
  Calls Tryd.prog 33 #[.slice A xs.length c] w0 (X.Ends w0 G (X.keys []) (fun v G' C' => ∃ A' c', v = .slice A' xs.length c' ∧ X.Own kVal 32 G' A' c' xs C') (fun _ _ _ => False)) := by
 refine enter Tryd.func33 rfl Tryd.ntmps33 rfl ?_
 intro Q hQ a HE
 have HS := St.start0 hG
 refine sr fun K hK => ?_
 refine rn 1 HE HS ?_; clear HE HS; intro a w HE HS
 apply hK; clear hK K
 refine wp_seq_k (fun K3 hK2 => ?_)
 refine sr fun K hK => ?_
 refine rn 1 HE HS ?_; clear HE HS; intro a w HE HS
 refine o_eqNil HE rfl rfl rfl Tryd.underlying22 ?_; clear HE; intro a HE
 apply hK; clear hK K
 refine cond HE rfl (fun h5r => ?_) (fun h5r => ?_)
 ·have h5 := nm h5r
  refine sr fun K hK => ?_
  refine rn 1 HE HS ?_; clear HE HS; intro a w HE HS
  apply hK; clear hK K
  refine rtE hQ HE HS ?_
  have hx : xs = [] := by
   rcases hR with h | ⟨b, o, rfl, _⟩
   ·exact h
   ·exact absurd h5r (by simp)
  subst hx
  exact ⟨_, [], HS.stop (List.nil_sublist _), _, _, rfl, X.Own.nil⟩
 ·have h5 := nm h5r
  refine wp_skip ?_
  refine hK2 _ _ ?_; clear hK2
  refine sr fun K hK => ?_
  refine o_buildNil (K := kVal) HE rfl HS T.p22 ?_; clear HE HS; intro oA7 oc7 oC7 w a HS oH7 HE
  refine rn 1 HE HS ?_; clear HE HS; intro a w HE HS
  refine o_append (K := kVal) HE rfl HS .here oH7 rfl rfl T.p22 hR kVal_one (by simp; omega) (by simp; omega) ?_
  clear HE HS; intro oA8 oc8 oC8 w a HS oH8 HE
  refine rn 1 HE HS ?_; clear HE HS; intro a w HE HS
  apply hK; clear hK K
  refine rtE hQ HE HS ?_
  exact ⟨_, _, HS.stop (List.sublist_append_left _ _), _, _, rfl, oH8⟩

/-! `incognito/value.Sort` -/
set_option maxRecDepth 100000 in
set_option maxHeartbeats 4000000 in
theorem c_sort7 (xs : List Val) (A : Option Addr) (c : Nat) (w0 : World) (G : Heap) (hG : Sub G w0) (hR : Rd kVal G A xs) (hl : xs.length ≤ 1000000):
  Calls Tryd.prog 23 #[.slice A xs.length c] w0 (Ret w0 G (fun v G' => SlV kVal G' v (TS.sortV xs))) := by
 refine enter Tryd.func23 rfl Tryd.ntmps23 rfl ?_
 intro Q hQ a HE
 have HS := St.start0 hG
 refine sr fun K hK => ?_
 refine rn 1 HE HS ?_; clear HE HS; intro a w HE HS
 apply hK; clear hK K
 refine sr fun K hK => ?_
 refine rn 1 HE HS ?_; clear HE HS; intro a w HE HS
 replace HS := HS.nilChunk
 refine o_callM (A := []) (C := []) HE rfl HS rfl rfl T.g33 (c_clone7 xs _ _ _ _ HS.sub hR (by omega)) ?_ (fun _ _ _ _ _ _ h => h.elim)
 clear HE HS; rintro _ G2 oC2 w a HS hle2 ⟨oA2, oc2, rfl, oH2⟩ HE
 replace hR := hR.le hle2
 refine rn 1 HE HS ?_; clear HE HS; intro a w HE HS
 apply hK; clear hK K
 refine sr fun K hK => ?_
 refine rn 1 HE HS ?_; clear HE HS; intro a w HE HS
 replace HS := HS.front .here
 refine o_callM (A := []) HE rfl HS rfl rfl T.g34 (TS.c_sortf HS oH2 (by omega)) ?_ (fun _ _ _ _ _ _ h => h.elim)
 clear HE HS; rintro _ G4 oC4 w a HS hle4 ⟨rfl, oH4⟩ HE
 replace hR := hR.le hle4
 have hsl4 := TS.sortV_len xs; rw [← hsl4] at HE
 apply hK; clear hK K
 refine sr fun K hK => ?_
 refine rn 2 HE HS ?_; clear HE HS; intro a w HE HS
 apply hK; clear hK K
 have hcphR8 := oH4.cap
 obtain ⟨G7, hle9, HS', hR8⟩ := X.Own.still HS .here oH4; clear HS; have HS := HS'; clear HS'
 replace hR := hR.le hle9
 refine rt hQ HE HS ?_
 exact ⟨_, _, rfl, by assumption, by assumption⟩

/-! `incognito/names.naming` -/
set_option maxRecDepth 100000 in
set_option maxHeartbeats 4000000 in
theorem c_naming (r : Rul) (d : Int) (Ak : Option Addr) (kn kc : Nat) (l : List Val) (A : Option Addr) (c : Nat) (w0 : World) (G : Heap) (hG : Sub G w0) (hT : TabG G 3 .u64 Lib.pow10Tab) (hR : Rd kVal G A l) (hdr : I64 d) (hl : l.length ≤ 1000000) (hw2 : ¬ r.way = 2):
  Calls Tryd.prog 13 #[.agg #[.int .i64 r.way, .int .i64 r.size], .int .i64 d, .slice Ak kn kc, .slice A l.length c] w0 (Ret w0 G (fun v G' => ∃ nf caps, v = .func (.func nf) #[] (List.toArray caps) ∧ goFn Tryd.prog nf = true ∧ FnOk Tryd.prog G' nf caps l.length (nameN r d l))) := by
 refine enter Tryd.func13 rfl Tryd.ntmps13 rfl ?_
 intro Q hQ a HE
 have HS := St.start0 hG
 refine sr fun K hK => ?_
 refine o_bx2 HE rfl HS rfl ?_; clear HE HS; intro B4 w a HS HE
 refine o_bx1 HE rfl HS rfl rfl ?_; clear HE HS; intro B6 w a HS HE
 refine o_bx1 HE rfl HS rfl rfl ?_; clear HE HS; intro B7 w a HS HE
 skip
 refine rn 1 HE HS ?_; clear HE HS; intro a w HE HS
 apply hK; clear hK K
 refine sr fun K hK => ?_
 refine rn 1 HE HS ?_; clear HE HS; intro a w HE HS
 refine o_callP HE rfl HS rfl rfl T.g14 (c_letterN d _ _ HS.sub (by first | assumption | decide)) ?_
 clear HE HS; rintro _ w a HS rfl HE
 refine o_allocZ HE rfl HS ?_; clear HE HS; intro B9 w a HS HE
 refine rn 1 HE HS ?_; clear HE HS; intro a w HE HS
 apply hK; clear hK K
 refine wp_seq_k (fun K4 hK3 => ?_)
 refine sr fun K hK => ?_
 refine rn 2 HE HS ?_; clear HE HS; intro a w HE HS
 apply hK; clear hK K
 refine wp_block ?_
 refine sr fun K hK => ?_
 refine rn 2 HE HS ?_; clear HE HS; intro a w HE HS
 apply hK; clear hK K
 refine cond HE rfl (fun h7r => ?_) (fun h7r => ?_)
 ·have h7 := nm h7r
  refine sr fun K hK => ?_
  refine rn 1 HE HS ?_; clear HE HS; intro a w HE HS
  obtain ⟨G8, hle10, hC9, HS'⟩ := HS.stillHead (n := 1) rfl; clear HS; have HS := HS'; clear HS'
  replace hT := hT.le hle10
  replace hR := hR.le hle10
  skip
  refine rn 1 HE HS ?_; clear HE HS; intro a w HE HS
  apply hK; clear hK K
  refine rt hQ HE HS ?_
  refine ⟨17, [.pointer (some ⟨B9, 0, none⟩)], rfl, T.g17, ?_⟩
  intro w1 G1 hle hs i hi
  have e1 : nameN r d l i = ⟨2, 0, letterS d ++ Lib.itoa ((i : Int) + 1)⟩ := by unfold nameN; rw [if_pos (by simpa using h7)]
  have hll := letter_len d
  rw [e1]
  show Calls Tryd.prog 17 #[.int .i64 ((i : Nat) : Int), .pointer (some ⟨B9, 0, none⟩)] w1 (Ret w1 G1 (fun v _ => v = .agg #[.int .i64 2, .int .i64 0, str (letterS d ++ Lib.itoa (((i : Nat) : Int) + 1))]))
  exact c_nam1 ((i : Nat) : Int) B9 (letterS d) w1 G1 hs (hT.le hle) (hC9.le hle) (by omega) (by omega)
 ·have h7 := nm h7r
  refine sr fun K hK => ?_
  refine rn 2 HE HS ?_; clear HE HS; intro a w HE HS
  apply hK; clear hK K
  refine cond HE rfl (fun h13r => ?_) (fun h13r => ?_)
  ·have h13 := nm h13r
   refine sr fun K hK => ?_
   refine rn 1 HE HS ?_; clear HE HS; intro a w HE HS
   obtain ⟨G14, hle16, hC15, HS'⟩ := HS.stillHead (n := 1) rfl; clear HS; have HS := HS'; clear HS'
   replace hT := hT.le hle16
   replace hR := hR.le hle16
   skip
   refine rn 1 HE HS ?_; clear HE HS; intro a w HE HS
   apply hK; clear hK K
   refine rt hQ HE HS ?_
   exact absurd h13 hw2
  ·have h13 := nm h13r
   refine wp_skip ?_
   refine hK3 _ _ ?_; clear hK3
   refine sr fun K hK => ?_
   refine rn 1 HE HS ?_; clear HE HS; intro a w HE HS
   refine o_call HE rfl HS rfl rfl T.g23 (c_sort7 l _ _ _ _ HS.sub hR (by first | omega | (simp; omega))) ?_
   clear HE HS; rintro _ G18 w a HS hle18 ⟨vA18, vc18, rfl, hcp18, hR18⟩ HE
   replace hT := hT.le hle18
   replace hR := hR.le hle18
   refine o_allocZ HE rfl HS ?_; clear HE HS; intro B10 w a HS HE
   refine rn 1 HE HS ?_; clear HE HS; intro a w HE HS
   apply hK; clear hK K
   refine sr fun K hK => ?_
   refine rn 1 HE HS ?_; clear HE HS; intro a w HE HS
   obtain ⟨G20, hle22, hC21, HS'⟩ := HS.stillHead (n := 1) rfl; clear HS; have HS := HS'; clear HS'
   replace hT := hT.le hle22
   replace hR := hR.le hle22
   replace hR18 := hR18.le hle22
   replace HS := HS.front (C := [(B7, Cells 22 [(0, .slice A l.length c)])]) (.there .here)
   obtain ⟨G23, hle25, hC24, HS'⟩ := HS.stillHead (n := 1) rfl; clear HS; have HS := HS'; clear HS'
   replace hT := hT.le hle25
   replace hR := hR.le hle25
   replace hR18 := hR18.le hle25
   replace hC21 := hC21.le hle25
   skip
   refine rn 1 HE HS ?_; clear HE HS; intro a w HE HS
   apply hK; clear hK K
   refine rt hQ HE HS ?_
   refine ⟨24, [.pointer (some ⟨B10, 0, none⟩), .pointer (some ⟨B7, 0, none⟩)], rfl, T.g24, ?_⟩
   intro w1 G1 hle hs i hi
   have e1 : nameN r d l i = ⟨1, clV l (l.getD i ⟨0, 0, []⟩) + 1, []⟩ := by unfold nameN; rw [if_neg (by simpa using h7)]
   have hsl9 := TS.sortV_len l
   rw [e1, ← clV_sort]
   have hi2 : ((i : Nat) : Int).toNat = i := by omega
   have hk9 := c_nam3 ((i : Nat) : Int) B10 B7 (TS.sortV l) l _ _ _ _ w1 G1 hs (hC21.le hle) (hC24.le hle) (hR18.le hle) (hR.le hle) (by omega) (by omega) (so_sort l)
   rw [hi2] at hk9
   exact hk9
end Go.Proofs.YtngoaapgdfohjaaDoor.T27
