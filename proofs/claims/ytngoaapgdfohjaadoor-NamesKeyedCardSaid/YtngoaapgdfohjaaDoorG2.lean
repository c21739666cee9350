/- Letters, rules, values each once: walked. -/
import Derived.Test.YtngoaapgdfohjaaDoorG1
set_option linter.unusedVariables false
set_option linter.unusedSimpArgs false
namespace Go.Proofs.YtngoaapgdfohjaaDoor.T27
open Go Go.Proofs.YtngoaapgdfohjaaDoor.X
theorem T.laidOut : laidOutB Tryd.prog = true := by kernel_rfl
theorem T.zI : zeroIs Tryd.prog 3 (.int .i64 0) := fun w => by kernel_rfl
theorem T.k32 : Go.Maps.Keyed Tryd.prog 32 := keyedS T.laidOut (of_decide_eq_true (by kernel_rfl)) (by kernel_rfl) (by kernel_rfl)
theorem T.K32 : isValKey Tryd.prog 32 = true := by kernel_rfl
instance : UN Tryd.prog 22 (.slice 32) := ⟨Tryd.underlying22⟩
instance : LZ Tryd.prog 32 [(0, .int .i64 0), (1, .int .i64 0), (2, str [])] := ⟨⟨.agg #[.int .i64 0, .int .i64 0, str []], by kernel_rfl, ⟨rfl, rfl, rfl, trivial⟩⟩⟩
instance : LZ Tryd.prog 53 [(0, .int .i64 0), (1, .int .i64 0), (2, .int .i64 0), (3, .int .i64 0), (4, .int .i64 0), (5, .int .i64 0), (6, .int .i64 0), (7, .int .i64 0), (8, .int .i64 0), (9, .int .i64 0), (10, .int .i64 0), (11, .int .i64 0), (12, .bool false), (13, .bool false)] := ⟨⟨.agg #[.int .i64 0, .int .i64 0, .int .i64 0, .int .i64 0, .int .i64 0, .int .i64 0, .int .i64 0, .int .i64 0, .int .i64 0, .int .i64 0, .int .i64 0, .int .i64 0, .bool false, .bool false], by kernel_rfl, ⟨rfl, rfl, rfl, rfl, rfl, rfl, rfl, rfl, rfl, rfl, rfl, rfl, rfl, rfl, trivial⟩⟩⟩
theorem T.a53 : aggSz Tryd.prog 53 = some 14 := by kernel_rfl
instance : AG Tryd.prog 53 14 := ⟨T.a53⟩
theorem T.g14 : goFn Tryd.prog 14 = true := by kernel_rfl
theorem T.g15 : goFn Tryd.prog 15 = true := by kernel_rfl
theorem T.g16 : goFn Tryd.prog 16 = true := by kernel_rfl
theorem T.l22 : slOf Tryd.prog 22 = some (32, 3) := by kernel_rfl
theorem T.p22 : apOf Tryd.prog 22 = some (32, 3, 32) := by kernel_rfl

def letterS (d : Int) : Bs := if (decide (d < 0) || decide (4 < d)) = true then [] else sub [99, 107, 118, 102, 111] d (d + 1)
def setP (d : Int) (r : Rul) : Pol := ⟨if d = 0 then r else ⟨0, 0⟩, if d = 1 then r else ⟨0, 0⟩, if d = 2 then r else ⟨0, 0⟩, if d = 3 then r else ⟨0, 0⟩, if d = 4 then r else ⟨0, 0⟩, 0, 0, false, false⟩
def mayB (r : Rul) (d : Int) : Bool := if (letterS d == []) = true then false else rightB (setP d r)
theorem letter_out {d : Int} (h : ¬ (0 ≤ d ∧ d ≤ 4)) : letterS d = [] := by
  unfold letterS
  rw [if_pos (by simp; omega)]
/-! The values that a domain takes, each once. -/
def addU (d : Int) (acc : List Val) (v : Val) : List Val := if (v ∈ acc) ∨ takesB d v = false then acc else acc ++ [v]
def unlikeL (d : Int) (xs : List Val) : List Val := xs.foldl (addU d) []
theorem unlike_step {d : Int} {xs : List Val} {i : Nat} (hi : i < xs.length) : unlikeL d (xs.take (i + 1)) = addU d (unlikeL d (xs.take i)) (xs.getD i ⟨0, 0, []⟩) := by
  unfold unlikeL
  rw [List.take_add_one, List.foldl_append, List.getElem?_eq_getElem hi]
  simp [hi]
def posG : Int → List Val → Val → Option Int
  | _, [], _ => none
  | n, x :: r, v => if v = x then some n else posG (n + 1) r v
def posF (l : List Val) : Val → Option Int := posG 0 l
theorem posF_none : posF [] = fun _ => none := rfl
theorem posG_some : ∀ (n : Int) (l : List Val) (v : Val), (posG n l v).isSome = decide (v ∈ l)
  | _, [], v => by simp [posG]
  | n, x :: r, v => by
    unfold posG
    by_cases h : v = x
    · simp [h]
    · rw [if_neg h, posG_some (n + 1) r v]
      simp [h]
theorem posF_some {l : List Val} {v : Val} : (posF l v).isSome = decide (v ∈ l) := posG_some 0 l v
theorem posG_add : ∀ (n : Int) (l : List Val) (v c : Val), ¬ v ∈ l → posG n (l ++ [v]) c = if c = v then some (n + (l.length : Int)) else posG n l c
  | n, [], v, c, _ => by simp [posG]
  | n, x :: r, v, c, h => by
    simp only [List.mem_cons, not_or] at h
    rw [List.cons_append]
    unfold posG
    by_cases hx : c = x
    · subst hx
      rw [if_pos rfl, if_pos rfl, if_neg (fun e => h.1 e.symm)]
    · rw [if_neg hx, if_neg hx, posG_add (n + 1) r v c h.2]
      simp only [List.length_cons]
      rw [show n + 1 + (r.length : Int) = n + ((r.length + 1 : Nat) : Int) by omega]
theorem posF_add {l : List Val} {v : Val} (h : ¬ v ∈ l) : upd (posF l) v (some ((l.length : Nat) : Int)) = posF (l ++ [v]) := by
  funext c
  unfold upd posF
  rw [posG_add 0 l v c h]
  simp
theorem unlike_len (d : Int) (xs : List Val) : (unlikeL d xs).length ≤ xs.length := by
  unfold unlikeL
  suffices h : ∀ (xs acc : List Val), (xs.foldl (addU d) acc).length ≤ acc.length + xs.length by
    have := h xs []
    simpa using this
  intro xs
  induction xs with
  | nil => intro acc; simp
  | cons x xs ih =>
    intro acc
    rw [List.foldl_cons]
    have h1 := ih (addU d acc x)
    have h2 : (addU d acc x).length ≤ acc.length + 1 := by unfold addU; split <;> simp
    simp only [List.length_cons]
    omega
theorem unlike_mem {d : Int} : ∀ {xs : List Val} {v : Val}, v ∈ unlikeL d xs → v ∈ xs ∧ takesB d v = true := by
  suffices h : ∀ (xs acc : List Val) (v : Val), v ∈ xs.foldl (addU d) acc → v ∈ acc ∨ (v ∈ xs ∧ takesB d v = true) by
    intro xs v hv
    rcases h xs [] v hv with h1 | h1
    · cases h1
    · exact h1
  intro xs
  induction xs with
  | nil => intro acc v hv; exact .inl hv
  | cons x xs ih =>
    intro acc v hv
    rw [List.foldl_cons] at hv
    rcases ih _ _ hv with h1 | ⟨h1, h2⟩
    · unfold addU at h1
      split at h1
      · exact .inl h1
      · rename_i hn
        rcases List.mem_append.1 h1 with h3 | h3
        · exact .inl h3
        · rw [List.mem_singleton] at h3
          subst h3
          exact .inr ⟨List.mem_cons_self, by simp only [not_or, Bool.not_eq_false] at hn; exact hn.2⟩
    · exact .inr ⟨List.mem_cons_of_mem _ h1, h2⟩
theorem unlike_nodup {d : Int} {xs : List Val} : (unlikeL d xs).Nodup := by
  unfold unlikeL
  suffices h : ∀ (xs acc : List Val), acc.Nodup → (xs.foldl (addU d) acc).Nodup from h xs [] List.nodup_nil
  intro xs
  induction xs with
  | nil => intro acc h; exact h
  | cons x xs ih =>
    intro acc h
    rw [List.foldl_cons]
    refine ih _ ?_
    unfold addU
    split
    · exact h
    · rename_i hn
      rw [List.nodup_append]
      refine ⟨h, by simp, ?_⟩
      intro a ha b hb e
      rw [List.mem_singleton] at hb
      subst hb e
      exact hn (.inl ha)

theorem vmem {l : List Val} {i : Nat} {d : Val} (h : i < l.length) : l.getD i d ∈ l := by
  rw [List.getD_eq_getElem?_getD, List.getElem?_eq_getElem h]
  exact List.getElem_mem h
/-! `incognito/names.Letter` -/
set_option maxRecDepth 100000 in
set_option maxHeartbeats 4000000 in
theorem c_letterN (d : Int) (w0 : World) (G : Heap) (hG : Sub G w0) (hdr : I64 d):
  Calls Tryd.prog 14 #[.int .i64 d] w0 (Ret w0 G (fun v _ => v = str (letterS d))) := by
 refine enter Tryd.func14 rfl Tryd.ntmps14 rfl ?_
 intro Q hQ a HE
 have HS := St.start0 hG
 refine sr fun K hK => ?_
 refine rn 1 HE HS ?_; clear HE HS; intro a w HE HS
 apply hK; clear hK K
 refine wp_seq_k (fun K3 hK2 => ?_)
 refine sr fun K hK => ?_
 refine rn 3 HE HS ?_; clear HE HS; intro a w HE HS
 refine cutG 3 8 (.bool ((decide (d < 0)) || (decide (4 < d)))) HE HS ?_ ?_
 ·refine bsp HE (t := 5) rfl (fun hb4 => ?_) (fun hb4 => ?_)
  ·skip
   refine rn 3 HE HS ?_; clear HE HS; intro a w HE HS
   exact ⟨HS, HE.cutT (by rw [hb4] <;> rfl)⟩
  ·have hk5 := nm hb4
   refine rn 3 HE HS ?_; clear HE HS; intro a w HE HS
   exact ⟨HS, HE.cutT (by rw [hb4] <;> rfl)⟩
 clear HE HS; intro a w HE HS
 apply hK; clear hK K
 refine cond HE rfl (fun h7r => ?_) (fun h7r => ?_)
 ·have h7 := nm h7r
  refine sr fun K hK => ?_
  refine rn 1 HE HS ?_; clear HE HS; intro a w HE HS
  apply hK; clear hK K
  refine rt hQ HE HS ?_
  have e : letterS d = [] := by
   unfold letterS
   rw [if_pos (by simpa using h7)]
  show _ = _
  rw [e]
  rfl
 ·have h7 := nm h7r
  refine wp_skip ?_
  refine hK2 _ _ ?_; clear hK2
  refine sr fun K hK => ?_
  refine rn 3 HE HS ?_; clear HE HS; intro a w HE HS
  refine o_sliceS HE rfl rfl rfl rfl Tryd.underlying9 (by simp; omega) ?_; clear HE; intro a HE
  refine rn 1 HE HS ?_; clear HE HS; intro a w HE HS
  apply hK; clear hK K
  refine rt hQ HE HS ?_
  have e : letterS d = sub [99, 107, 118, 102, 111] d (d + 1) := by
   unfold letterS
   rw [if_neg (by simpa using h7)]
  show _ = _
  rw [e]
  rfl

/-! `incognito/names.may` -/
set_option maxRecDepth 100000 in
set_option maxHeartbeats 4000000 in
theorem c_may0 (r : Rul) (w0 : World) (G : Heap) (hG : Sub G w0) :
  Calls Tryd.prog 11 #[.agg #[.int .i64 r.way, .int .i64 r.size], .int .i64 0] w0 (Ret w0 G (fun v _ => v = .bool (mayB r 0))) := by
 refine enter Tryd.func11 rfl Tryd.ntmps11 rfl ?_
 intro Q hQ a HE
 have HS := St.start0 hG
 refine sr fun K hK => ?_
 refine o_bx2 HE rfl HS rfl ?_; clear HE HS; intro B2 w a HS HE
 refine rn 1 HE HS ?_; clear HE HS; intro a w HE HS
 apply hK; clear hK K
 refine wp_seq_k (fun K3 hK2 => ?_)
 refine sr fun K hK => ?_
 refine rn 1 HE HS ?_; clear HE HS; intro a w HE HS
 refine o_callP HE rfl HS rfl rfl T.g14 (c_letterN 0 _ _ HS.sub (by first | assumption | decide)) ?_
 clear HE HS; rintro _ w a HS rfl HE
 refine rn 1 HE HS ?_; clear HE HS; intro a w HE HS
 apply hK; clear hK K
 refine cond HE rfl (fun h5r => ?_) (fun h5r => ?_)
 ·have h5 := nm h5r
  refine sr fun K hK => ?_
  refine rn 1 HE HS ?_; clear HE HS; intro a w HE HS
  apply hK; clear hK K
  refine rt hQ HE HS ?_
  exact absurd h5r (by decide)
 ·have h5 := nm h5r
  refine wp_skip ?_
  refine hK2 _ _ ?_; clear hK2
  refine sr fun K hK => ?_
  refine o_allocZ HE rfl HS ?_; clear HE HS; intro B5 w a HS HE
  apply hK; clear hK K
  refine sr fun K hK => ?_
  refine rn 3 HE HS ?_; clear HE HS; intro a w HE HS
  refine o_ixA HE rfl rfl rfl T.r51 (by decide) ?_; clear HE; intro a HE
  refine rn 1 HE HS ?_; clear HE HS; intro a w HE HS
  apply hK; clear hK K
  refine sr fun K hK => ?_
  refine rn 1 HE HS ?_; clear HE HS; intro a w HE HS
  refine o_callP HE rfl HS rfl rfl T.g15 (c_right (⟨⟨r.way, r.size⟩, ⟨0, 0⟩, ⟨0, 0⟩, ⟨0, 0⟩, ⟨0, 0⟩, 0, 0, false, false⟩ : Pol) _ _ HS.sub) ?_
  clear HE HS; rintro _ w a HS rfl HE
  refine rn 1 HE HS ?_; clear HE HS; intro a w HE HS
  apply hK; clear hK K
  refine rt hQ HE HS ?_
  show _ = _
  rfl

/-! `incognito/names.may` -/
set_option maxRecDepth 100000 in
set_option maxHeartbeats 4000000 in
theorem c_may1 (r : Rul) (w0 : World) (G : Heap) (hG : Sub G w0) :
  Calls Tryd.prog 11 #[.agg #[.int .i64 r.way, .int .i64 r.size], .int .i64 1] w0 (Ret w0 G (fun v _ => v = .bool (mayB r 1))) := by
 refine enter Tryd.func11 rfl Tryd.ntmps11 rfl ?_
 intro Q hQ a HE
 have HS := St.start0 hG
 refine sr fun K hK => ?_
 refine o_bx2 HE rfl HS rfl ?_; clear HE HS; intro B2 w a HS HE
 refine rn 1 HE HS ?_; clear HE HS; intro a w HE HS
 apply hK; clear hK K
 refine wp_seq_k (fun K3 hK2 => ?_)
 refine sr fun K hK => ?_
 refine rn 1 HE HS ?_; clear HE HS; intro a w HE HS
 refine o_callP HE rfl HS rfl rfl T.g14 (c_letterN 1 _ _ HS.sub (by first | assumption | decide)) ?_
 clear HE HS; rintro _ w a HS rfl HE
 refine rn 1 HE HS ?_; clear HE HS; intro a w HE HS
 apply hK; clear hK K
 refine cond HE rfl (fun h5r => ?_) (fun h5r => ?_)
 ·have h5 := nm h5r
  refine sr fun K hK => ?_
  refine rn 1 HE HS ?_; clear HE HS; intro a w HE HS
  apply hK; clear hK K
  refine rt hQ HE HS ?_
  exact absurd h5r (by decide)
 ·have h5 := nm h5r
  refine wp_skip ?_
  refine hK2 _ _ ?_; clear hK2
  refine sr fun K hK => ?_
  refine o_allocZ HE rfl HS ?_; clear HE HS; intro B5 w a HS HE
  apply hK; clear hK K
  refine sr fun K hK => ?_
  refine rn 3 HE HS ?_; clear HE HS; intro a w HE HS
  refine o_ixA HE rfl rfl rfl T.r51 (by decide) ?_; clear HE; intro a HE
  refine rn 1 HE HS ?_; clear HE HS; intro a w HE HS
  apply hK; clear hK K
  refine sr fun K hK => ?_
  refine rn 1 HE HS ?_; clear HE HS; intro a w HE HS
  refine o_callP HE rfl HS rfl rfl T.g15 (c_right (⟨⟨0, 0⟩, ⟨r.way, r.size⟩, ⟨0, 0⟩, ⟨0, 0⟩, ⟨0, 0⟩, 0, 0, false, false⟩ : Pol) _ _ HS.sub) ?_
  clear HE HS; rintro _ w a HS rfl HE
  refine rn 1 HE HS ?_; clear HE HS; intro a w HE HS
  apply hK; clear hK K
  refine rt hQ HE HS ?_
  show _ = _
  rfl

/-! `incognito/names.may` -/
set_option maxRecDepth 100000 in
set_option maxHeartbeats 4000000 in
theorem c_may2 (r : Rul) (w0 : World) (G : Heap) (hG : Sub G w0) :
  Calls Tryd.prog 11 #[.agg #[.int .i64 r.way, .int .i64 r.size], .int .i64 2] w0 (Ret w0 G (fun v _ => v = .bool (mayB r 2))) := by
 refine enter Tryd.func11 rfl Tryd.ntmps11 rfl ?_
 intro Q hQ a HE
 have HS := St.start0 hG
 refine sr fun K hK => ?_
 refine o_bx2 HE rfl HS rfl ?_; clear HE HS; intro B2 w a HS HE
 refine rn 1 HE HS ?_; clear HE HS; intro a w HE HS
 apply hK; clear hK K
 refine wp_seq_k (fun K3 hK2 => ?_)
 refine sr fun K hK => ?_
 refine rn 1 HE HS ?_; clear HE HS; intro a w HE HS
 refine o_callP HE rfl HS rfl rfl T.g14 (c_letterN 2 _ _ HS.sub (by first | assumption | decide)) ?_
 clear HE HS; rintro _ w a HS rfl HE
 refine rn 1 HE HS ?_; clear HE HS; intro a w HE HS
 apply hK; clear hK K
 refine cond HE rfl (fun h5r => ?_) (fun h5r => ?_)
 ·have h5 := nm h5r
  refine sr fun K hK => ?_
  refine rn 1 HE HS ?_; clear HE HS; intro a w HE HS
  apply hK; clear hK K
  refine rt hQ HE HS ?_
  exact absurd h5r (by decide)
 ·have h5 := nm h5r
  refine wp_skip ?_
  refine hK2 _ _ ?_; clear hK2
  refine sr fun K hK => ?_
  refine o_allocZ HE rfl HS ?_; clear HE HS; intro B5 w a HS HE
  apply hK; clear hK K
  refine sr fun K hK => ?_
  refine rn 3 HE HS ?_; clear HE HS; intro a w HE HS
  refine o_ixA HE rfl rfl rfl T.r51 (by decide) ?_; clear HE; intro a HE
  refine rn 1 HE HS ?_; clear HE HS; intro a w HE HS
  apply hK; clear hK K
  refine sr fun K hK => ?_
  refine rn 1 HE HS ?_; clear HE HS; intro a w HE HS
  refine o_callP HE rfl HS rfl rfl T.g15 (c_right (⟨⟨0, 0⟩, ⟨0, 0⟩, ⟨r.way, r.size⟩, ⟨0, 0⟩, ⟨0, 0⟩, 0, 0, false, false⟩ : Pol) _ _ HS.sub) ?_
  clear HE HS; rintro _ w a HS rfl HE
  refine rn 1 HE HS ?_; clear HE HS; intro a w HE HS
  apply hK; clear hK K
  refine rt hQ HE HS ?_
  show _ = _
  rfl

/-! `incognito/names.may` -/
set_option maxRecDepth 100000 in
set_option maxHeartbeats 4000000 in
theorem c_may3 (r : Rul) (w0 : World) (G : Heap) (hG : Sub G w0) :
  Calls Tryd.prog 11 #[.agg #[.int .i64 r.way, .int .i64 r.size], .int .i64 3] w0 (Ret w0 G (fun v _ => v = .bool (mayB r 3))) := by
 refine enter Tryd.func11 rfl Tryd.ntmps11 rfl ?_
 intro Q hQ a HE
 have HS := St.start0 hG
 refine sr fun K hK => ?_
 refine o_bx2 HE rfl HS rfl ?_; clear HE HS; intro B2 w a HS HE
 refine rn 1 HE HS ?_; clear HE HS; intro a w HE HS
 apply hK; clear hK K
 refine wp_seq_k (fun K3 hK2 => ?_)
 refine sr fun K hK => ?_
 refine rn 1 HE HS ?_; clear HE HS; intro a w HE HS
 refine o_callP HE rfl HS rfl rfl T.g14 (c_letterN 3 _ _ HS.sub (by first | assumption | decide)) ?_
 clear HE HS; rintro _ w a HS rfl HE
 refine rn 1 HE HS ?_; clear HE HS; intro a w HE HS
 apply hK; clear hK K
 refine cond HE rfl (fun h5r => ?_) (fun h5r => ?_)
 ·have h5 := nm h5r
  refine sr fun K hK => ?_
  refine rn 1 HE HS ?_; clear HE HS; intro a w HE HS
  apply hK; clear hK K
  refine rt hQ HE HS ?_
  exact absurd h5r (by decide)
 ·have h5 := nm h5r
  refine wp_skip ?_
  refine hK2 _ _ ?_; clear hK2
  refine sr fun K hK => ?_
  refine o_allocZ HE rfl HS ?_; clear HE HS; intro B5 w a HS HE
  apply hK; clear hK K
  refine sr fun K hK => ?_
  refine rn 3 HE HS ?_; clear HE HS; intro a w HE HS
  refine o_ixA HE rfl rfl rfl T.r51 (by decide) ?_; clear HE; intro a HE
  refine rn 1 HE HS ?_; clear HE HS; intro a w HE HS
  apply hK; clear hK K
  refine sr fun K hK => ?_
  refine rn 1 HE HS ?_; clear HE HS; intro a w HE HS
  refine o_callP HE rfl HS rfl rfl T.g15 (c_right (⟨⟨0, 0⟩, ⟨0, 0⟩, ⟨0, 0⟩, ⟨r.way, r.size⟩, ⟨0, 0⟩, 0, 0, false, false⟩ : Pol) _ _ HS.sub) ?_
  clear HE HS; rintro _ w a HS rfl HE
  refine rn 1 HE HS ?_; clear HE HS; intro a w HE HS
  apply hK; clear hK K
  refine rt hQ HE HS ?_
  show _ = _
  rfl

/-! `incognito/names.may` -/
set_option maxRecDepth 100000 in
set_option maxHeartbeats 4000000 in
theorem c_may4 (r : Rul) (w0 : World) (G : Heap) (hG : Sub G w0) :
  Calls Tryd.prog 11 #[.agg #[.int .i64 r.way, .int .i64 r.size], .int .i64 4] w0 (Ret w0 G (fun v _ => v = .bool (mayB r 4))) := by
 refine enter Tryd.func11 rfl Tryd.ntmps11 rfl ?_
 intro Q hQ a HE
 have HS := St.start0 hG
 refine sr fun K hK => ?_
 refine o_bx2 HE rfl HS rfl ?_; clear HE HS; intro B2 w a HS HE
 refine rn 1 HE HS ?_; clear HE HS; intro a w HE HS
 apply hK; clear hK K
 refine wp_seq_k (fun K3 hK2 => ?_)
 refine sr fun K hK => ?_
 refine rn 1 HE HS ?_; clear HE HS; intro a w HE HS
 refine o_callP HE rfl HS rfl rfl T.g14 (c_letterN 4 _ _ HS.sub (by first | assumption | decide)) ?_
 clear HE HS; rintro _ w a HS rfl HE
 refine rn 1 HE HS ?_; clear HE HS; intro a w HE HS
 apply hK; clear hK K
 refine cond HE rfl (fun h5r => ?_) (fun h5r => ?_)
 ·have h5 := nm h5r
  refine sr fun K hK => ?_
  refine rn 1 HE HS ?_; clear HE HS; intro a w HE HS
  apply hK; clear hK K
  refine rt hQ HE HS ?_
  exact absurd h5r (by decide)
 ·have h5 := nm h5r
  refine wp_skip ?_
  refine hK2 _ _ ?_; clear hK2
  refine sr fun K hK => ?_
  refine o_allocZ HE rfl HS ?_; clear HE HS; intro B5 w a HS HE
  apply hK; clear hK K
  refine sr fun K hK => ?_
  refine rn 3 HE HS ?_; clear HE HS; intro a w HE HS
  refine o_ixA HE rfl rfl rfl T.r51 (by decide) ?_; clear HE; intro a HE
  refine rn 1 HE HS ?_; clear HE HS; intro a w HE HS
  apply hK; clear hK K
  refine sr fun K hK => ?_
  refine rn 1 HE HS ?_; clear HE HS; intro a w HE HS
  refine o_callP HE rfl HS rfl rfl T.g15 (c_right (⟨⟨0, 0⟩, ⟨0, 0⟩, ⟨0, 0⟩, ⟨0, 0⟩, ⟨r.way, r.size⟩, 0, 0, false, false⟩ : Pol) _ _ HS.sub) ?_
  clear HE HS; rintro _ w a HS rfl HE
  refine rn 1 HE HS ?_; clear HE HS; intro a w HE HS
  apply hK; clear hK K
  refine rt hQ HE HS ?_
  show _ = _
  rfl

/-! `incognito/names.unlike` -/
set_option maxRecDepth 100000 in
set_option maxHeartbeats 4000000 in
theorem c_unlike (d : Int) (xs : List Val) (A : Option Addr) (c : Nat) (w0 : World) (G : Heap) (hG : Sub G w0) (hg0 : CellsAt G 0 0 [.int .i64 3, .int .i64 1, str []]) (hg1 : CellsAt G 1 0 [.int .i64 3, .int .i64 0, str []]) (hR : Rd kVal G A xs) (hl : xs.length ≤ 1000000) (hw : ∀ v ∈ xs, v.Wf):
  Calls Tryd.prog 12 #[.int .i64 d, .slice A xs.length c] w0 (Ret w0 G (fun v G' => SlV kVal G' v (unlikeL d xs))) := by
 refine enter Tryd.func12 rfl Tryd.ntmps12 rfl ?_
 intro Q hQ a HE
 have HS := St.start0 hG
 refine sr fun K hK => ?_
 refine rn 1 HE HS ?_; clear HE HS; intro a w HE HS
 apply hK; clear hK K
 refine sr fun K hK => ?_
 refine rn 1 HE HS ?_; clear HE HS; intro a w HE HS
 apply hK; clear hK K
 refine sr fun K hK => ?_
 refine o_makeMap 32 kvV vvI HE rfl HS ?_; clear HE HS; intro B11 w a HS HE
 refine rn 1 HE HS ?_; clear HE HS; intro a w HE HS
 apply hK; clear hK K
 refine wp_seq_k (fun K5 hK4 => ?_)
 refine sr fun K hK => ?_
 refine rn 3 HE HS ?_; clear HE HS; intro a w HE HS
 apply hK; clear hK K
 refine wp_block ?_
 replace HS := HS.nilChunk
 have oH8 : X.Own kVal 32 G none 0 ([] : List Val) [] := X.Own.nil
 replace HS := HS.turnP (q := MapF Tryd.prog 32 kvV vvI (posF (unlikeL d (xs.take 0)))) (.there (.here .here)) (fun o ho => ho.turn (by rw [List.take_zero]; rfl))
 refine loop (fun (i : Nat) a' w' => ∃ (oA5_1 : Option Addr) (oc5_1 : Nat) (oC5_1 : Chunk), St w0 G [] G w' [oC5_1, [(B11, MapF Tryd.prog 32 kvV vvI (posF (unlikeL d (xs.take i))))]] ∧ Env a' 41 [] [(0, .int .i64 d), (1, .slice A xs.length c), (5, .slice oA5_1 ((unlikeL d (xs.take i)).length) oc5_1), (6, .map (some B11)), (12, .slice A xs.length c), (13, .int .i64 (xs.length : Int)), (14, .int .i64 ((i : Nat) : Int))] ∧ X.Own kVal 32 G oA5_1 oc5_1 (unlikeL d (xs.take i)) oC5_1 ∧ (i ≤ xs.length)) (fun (i : Nat) => xs.length - i) 0 ⟨_, _, _, HS, HE.cut ⟨rfl, rfl, rfl, rfl, rfl, rfl, rfl, trivial⟩, X.Own.nil (K := kVal), Nat.zero_le _⟩ ?_
 clear HE HS; intro i a w ⟨oA5_1, oc5_1, oC5_1, HS, HE, oH5_1, hi⟩
 refine sr fun K hK => ?_
 refine rn 1 HE HS ?_; clear HE HS; intro a w HE HS
 apply hK; clear hK K
 refine wp_seq_k (fun K12 hK11 => ?_)
 refine cond HE rfl (fun h13r => ?_) (fun h13r => ?_)
 ·have h13 := nm h13r
  refine wp_skip ?_
  refine hK11 _ _ ?_; clear hK11
  refine wp_seq_k (fun K15 hK14 => ?_)
  refine wp_block ?_
  refine sr fun K hK => ?_
  have hi16 : ((i : Nat) : Int).toNat < xs.length := by omega
  obtain ⟨eb16, eo16, hA16, el16⟩ := Rd.at hR (List.getElem?_eq_getElem hi16); cases hA16
  rw [show xs[((i : Nat) : Int).toNat] = (xs.getD i ⟨0, 0, []⟩) from getD_get (i := i) hi16 _] at el16
  have el16 := kVal_open el16
  refine o_ixL HE rfl rfl rfl T.l22 ⟨by omega, by omega⟩ ?_; clear HE; intro a HE
  refine o_ldIA HE rfl HS rfl el16 T.a32 ?_; clear HE; intro a HE
  refine o_allocZ HE rfl HS ?_; clear HE HS; intro B8 w a HS HE
  refine rn 1 HE HS ?_; clear HE HS; intro a w HE HS
  apply hK; clear hK K
  refine wp_seq_k (fun K19 hK18 => ?_)
  refine sr fun K hK => ?_
  refine rn 2 HE HS ?_; clear HE HS; intro a w HE HS
  have hvw : (xs.getD i ⟨0, 0, []⟩).Wf := hw _ (vmem (l := xs) (i := i) (by omega))
  have hul := unlike_len d (xs.take i)
  have htl : (xs.take i).length ≤ 1000000 := by rw [List.length_take]; omega
  refine o_lookOkI T.k32 Tryd.underlying48 T.zI kvV_inj HE rfl HS (.there (.there (.here .here))) rfl rfl rfl (key_val T.K32 (by first | assumption | exact hvw)) ?_; clear HE; intro a HE
  refine rn 5 HE HS ?_; clear HE HS; intro a w HE HS
  apply hK; clear hK K
  refine sr fun K hK => ?_
  refine rn 2 HE HS ?_; clear HE HS; intro a w HE HS
  refine cutG 5 30 (.bool ((((posF (unlikeL d (xs.take i))) (xs.getD i ⟨0, 0, []⟩)).isSome) || (!(takesB d (xs.getD i ⟨0, 0, []⟩))))) HE HS ?_ ?_
  ·refine bsp HE (t := 25) rfl (fun hb21 => ?_) (fun hb21 => ?_)
   ·skip
    refine rn 5 HE HS ?_; clear HE HS; intro a w HE HS
    exact ⟨HS, HE.cutT (by rw [hb21] <;> rfl)⟩
   ·have hk22 := nm hb21
    refine rn 2 HE HS ?_; clear HE HS; intro a w HE HS
    refine op_on HE rfl rfl hb21 ?_
    refine o_callP HE rfl HS rfl rfl T.g16 (c_takes d (xs.getD i ⟨0, 0, []⟩) _ _ HS.sub hg0 hg1 (by assumption)) ?_
    clear HE HS; rintro _ w a HS rfl HE
    refine rn 2 HE HS ?_; clear HE HS; intro a w HE HS
    exact ⟨HS, HE.cutT (by rw [hb21] <;> rfl)⟩
  clear HE HS; intro a w HE HS
  apply hK; clear hK K
  refine cond HE rfl (fun h24r => ?_) (fun h24r => ?_)
  ·have h24 := nm h24r
   refine wp_exit ?_
   refine hK14 _ _ ?_; clear hK14
   refine wp_region_lit ?_
   refine rn 2 HE HS ?_; clear HE HS; intro a w HE HS
   replace HS := HS.drop (M' := [_, _]) (sub_drop (sub_keep (sub_keep sub_nil)))
   have hst : (unlikeL d (xs.take i)) = (unlikeL d (xs.take (i + 1))) := by
    rw [unlike_step (by omega)]
    unfold addU
    rw [if_pos (by have := h24; rw [posF_some] at this; simpa using this)]
   replace HS := HS.turnP (q := MapF Tryd.prog 32 kvV vvI (posF (unlikeL d (xs.take (i + 1))))) (.there (.here .here)) (fun o ho => ho.turn (by rw [hst]))
   have hxs : (unlikeL d (xs.take i)) = unlikeL d (xs.take (i + 1)) := hst
   rw [hxs] at HE oH5_1; clear hxs
   exact ⟨i + 1, ⟨_, _, _, HS, HE.cut ⟨rfl, rfl, rfl, rfl, rfl, rfl, rfl, trivial⟩, oH5_1, by omega⟩, by omega⟩
  ·have h24 := nm h24r
   refine wp_skip ?_
   refine hK18 _ _ ?_; clear hK18
   refine sr fun K hK => ?_
   refine rn 4 HE HS ?_; clear HE HS; intro a w HE HS
   refine o_mapUpd (y := (xs.getD i ⟨0, 0, []⟩)) (u := ((unlikeL d (xs.take i)).length : Int)) T.k32 Tryd.underlying48 kvV_inj HE rfl HS (.there (.there (.here .here))) rfl rfl rfl rfl rfl (key_val T.K32 (by first | assumption | exact hvw)) ?_; clear HS; intro w HS
   apply hK; clear hK K
   refine wp_region_lit ?_
   refine rn 2 HE HS ?_; clear HE HS; intro a w HE HS
   refine o_buildSl (cs := #[.int .i64 ((xs.getD i ⟨0, 0, []⟩).k), .int .i64 ((xs.getD i ⟨0, 0, []⟩).n), str ((xs.getD i ⟨0, 0, []⟩).s)]) [(0, _), (1, _), (2, _)] HE rfl HS rfl T.l22 (by kernel_rfl) ⟨rfl, rfl, rfl, trivial⟩ ?_; clear HE HS; intro B37 w a HS HE
   refine o_appendL (K := kVal) (ys := [(xs.getD i ⟨0, 0, []⟩)]) (n := 3) HE rfl HS (.there (.there .here)) oH5_1 rfl rfl T.p22 (.here .here) rfl ⟨rfl, rfl⟩ rfl rfl (by simp; omega) (by simp; omega) ?_
   clear HE HS; intro oA26 oc26 oC26 w a HS oH26 HE
   refine rn 1 HE HS ?_; clear HE HS; intro a w HE HS
   refine hK14 _ _ ?_; clear hK14
   refine wp_region_lit ?_
   refine rn 2 HE HS ?_; clear HE HS; intro a w HE HS
   replace HS := HS.drop (M' := [_, _]) (sub_keep (sub_drop (sub_drop (sub_keep sub_nil))))
   have hno := h24r
   rw [Bool.or_eq_false_iff, posF_some, decide_eq_false_iff_not] at hno
   have hst : (unlikeL d (xs.take i)) ++ [(xs.getD i ⟨0, 0, []⟩)] = (unlikeL d (xs.take (i + 1))) := by
    rw [unlike_step (by omega)]
    unfold addU
    rw [if_neg (by rintro (h_9 | h_9); exact hno.1 h_9; have := hno.2; rw [h_9] at this; cases this)]
   replace HS := HS.turnP (q := MapF Tryd.prog 32 kvV vvI (posF (unlikeL d (xs.take (i + 1))))) (.there (.here .here)) (fun o ho => ho.turn (by rw [← hst]; exact posF_add hno.1))
   have hxs : ((unlikeL d (xs.take i)) ++ [(xs.getD i ⟨0, 0, []⟩)]) = unlikeL d (xs.take (i + 1)) := hst
   rw [hxs] at HE oH26; clear hxs
   exact ⟨i + 1, ⟨_, _, _, HS, HE.cut ⟨rfl, rfl, rfl, rfl, rfl, rfl, rfl, trivial⟩, oH26, by omega⟩, by omega⟩
 ·have h13 := nm h13r
  refine wp_exit ?_
  refine hK4 _ _ ?_; clear hK4
  refine sr fun K hK => ?_
  refine rn 2 HE HS ?_; clear HE HS; intro a w HE HS
  apply hK; clear hK K
  have hcphR29 := oH5_1.cap
  obtain ⟨G28, hle30, HS', hR29⟩ := X.Own.still HS .here oH5_1; clear HS; have HS := HS'; clear HS'
  replace hg0 := hg0.le hle30
  replace hg1 := hg1.le hle30
  replace hR := hR.le hle30
  refine rt hQ HE HS ?_
  have hi9 : i = xs.length := by omega
  subst hi9
  rw [List.take_length] at *
  exact ⟨_, _, rfl, by assumption, by assumption⟩
end Go.Proofs.YtngoaapgdfohjaaDoor.T27
