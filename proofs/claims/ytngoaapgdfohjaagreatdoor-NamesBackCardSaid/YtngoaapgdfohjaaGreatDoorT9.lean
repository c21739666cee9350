/- Own text. -/
import Derived.Test.YtngoaapgdfohjaaGreatDoorT7
import Derived.Test.YtngoaapgdfohjaaGreatDoorM5
set_option linter.unusedVariables false
set_option linter.unusedSimpArgs false
set_option maxRecDepth 100000
set_option maxHeartbeats 4000000
namespace Go.Proofs.YtngoaapgdfohjaaGreatDoor.T27
open Go Go.Proofs.YtngoaapgdfohjaaGreatDoor.X Go.Proofs Go.Proofs.YtngoaapgdfohjaaGreatDoor.T28 Go.Proofs.YtngoaapgdfohjaaGreatDoor.TS Go.Proofs.YtngoaapgdfohjaaGreatDoor.TK
/-! ## Names told again -/
def realN (xs : List Ent) (d : Int) (v : Val) : Val × Bool := match xs.find? (fun x => decide (x.dom = d) && decide (x.name = v)) with
  | some x => (x.real, true)
  | none => (⟨0, 0, []⟩, false)
theorem drop_at {xs : List Ent} {i : Nat} (hi : i < xs.length) : xs.drop i = xs.getD i E0e :: xs.drop (i + 1) := by
  rw [List.drop_eq_getElem_cons hi, List.getD_eq_getElem?_getD, List.getElem?_eq_getElem hi, Option.getD_some]
theorem real_step {xs : List Ent} {d : Int} {v : Val} {i : Nat} (hi : i < xs.length) (h : ¬ ((xs.getD i E0e).dom = d ∧ (xs.getD i E0e).name = v)) : realN (xs.drop i) d v = realN (xs.drop (i + 1)) d v := by
  rw [drop_at hi]
  unfold realN
  rw [List.find?_cons_of_neg (by simpa using h)]
theorem real_here {xs : List Ent} {d : Int} {v : Val} {i : Nat} (hi : i < xs.length) (h : (xs.getD i E0e).dom = d ∧ (xs.getD i E0e).name = v) : realN (xs.drop i) d v = ((xs.getD i E0e).real, true) := by
  rw [drop_at hi]
  unfold realN
  rw [List.find?_cons_of_pos (by simpa using h)]
theorem real_end {xs : List Ent} {d : Int} {v : Val} {i : Nat} (hi : xs.length ≤ i) : realN (xs.drop i) d v = (⟨0, 0, []⟩, false) := by
  rw [List.drop_eq_nil_of_le hi]; rfl
theorem called_here' {xs : List Ent} {d : Int} {v : Val} {i : Nat} (hi : i < xs.length) (h : (xs.getD i E0e).dom = d ∧ (xs.getD i E0e).real = v) : calledN (xs.drop i) d v = ((xs.getD i E0e).name, true) := called_here hi h
theorem c_Called (xs : List Ent) (A : Option Addr) (c : Nat) (d : Int) (v : Val) (G : Heap) (hR : Rd kEnt G A xs) (hl : xs.length ≤ 1000000) :
    FnP Tryz.prog 20 [.slice A xs.length c, .int .i64 d, vV v] G (.tuple #[vV (calledN xs d v).1, .bool (calledN xs d v).2]) := by
  refine fnP_in Tryz.func20 rfl Tryz.ntmps20 rfl fun w0 Q0 hQ => ?_
  refine go ?_; intro B5
  refine go ?_; intro B6
  refine go ?_
  refine w_loop (fun i : Nat => [(12, .int .i64 (i : Int))]) (fun i => [[(B6, Cells 42 [(0, .int .i64 0), (1, .int .i64 0), (2, str [])])], [(B5, Arr 42 [.int .i64 v.k, .int .i64 v.n, str v.s])]]) (fun i _ => i ≤ xs.length ∧ calledN (xs.drop i) d v = calledN xs d v) (fun i => xs.length - i) 0 ⟨by omega, by rw [List.drop_zero]⟩ ?_
  rintro i G1 _ ⟨hi, hs⟩
  refine go ?_
  refine w_cd rfl (fun h3 => ?_) (fun h3 => ?_)
  · have hi' : i < xs.length := by omega
    have hE := hR.ent hi'
    refine go ?_; intro B9
    refine go ?_
    refine w_and (y := decide ((xs.getD i E0e).real = v)) 25 20 rfl (fun h => ?_) (fun h => ?_) ?_
    · refine go ?_; exact w_at
    · refine go ?_; exact w_at
    refine go ?_
    refine w_cond rfl (fun h4 => ?_) (fun h4 => ?_)
    · have h4' : (xs.getD i E0e).dom = d ∧ (xs.getD i E0e).real = v := by
        rw [Bool.and_eq_true, decide_eq_true_eq, decide_eq_true_eq] at h4; exact h4
      refine go ?_
      refine w_ret hQ ?_
      rw [← hs, called_here' hi' h4']; rfl
    · have h4' : ¬ ((xs.getD i E0e).dom = d ∧ (xs.getD i E0e).real = v) := by
        rw [← Bool.decide_and] at h4; exact of_decide_eq_false h4
      refine go ?_
      exact w_again (i + 1) ⟨by omega, by rw [← called_step hi' h4']; exact hs⟩ (by omega)
  · have : i = xs.length := by omega
    subst this
    refine go ?_
    refine w_stp (p_build (cs := (valCells V0).toArray) rfl rfl (by kernel_rfl)) ?_
    refine go ?_
    refine w_ret hQ ?_
    rw [← hs, called_end (Nat.le_refl _)]; rfl
theorem c_Real (xs : List Ent) (A : Option Addr) (c : Nat) (d : Int) (v : Val) (G : Heap) (hR : Rd kEnt G A xs) (hl : xs.length ≤ 1000000) :
    FnP Tryz.prog 21 [.slice A xs.length c, .int .i64 d, vV v] G (.tuple #[vV (realN xs d v).1, .bool (realN xs d v).2]) := by
  refine fnP_in Tryz.func21 rfl Tryz.ntmps21 rfl fun w0 Q0 hQ => ?_
  refine go ?_; intro B5
  refine go ?_; intro B6
  refine go ?_
  refine w_loop (fun i : Nat => [(12, .int .i64 (i : Int))]) (fun i => [[(B6, Cells 42 [(0, .int .i64 0), (1, .int .i64 0), (2, str [])])], [(B5, Arr 42 [.int .i64 v.k, .int .i64 v.n, str v.s])]]) (fun i _ => i ≤ xs.length ∧ realN (xs.drop i) d v = realN xs d v) (fun i => xs.length - i) 0 ⟨by omega, by rw [List.drop_zero]⟩ ?_
  rintro i G1 _ ⟨hi, hs⟩
  refine go ?_
  refine w_cd rfl (fun h3 => ?_) (fun h3 => ?_)
  · have hi' : i < xs.length := by omega
    have hE := hR.ent hi'
    refine go ?_; intro B9
    refine go ?_
    refine w_and (y := decide ((xs.getD i E0e).name = v)) 25 20 rfl (fun h => ?_) (fun h => ?_) ?_
    · refine go ?_; exact w_at
    · refine go ?_; exact w_at
    refine go ?_
    refine w_cond rfl (fun h4 => ?_) (fun h4 => ?_)
    · have h4' : (xs.getD i E0e).dom = d ∧ (xs.getD i E0e).name = v := by
        rw [Bool.and_eq_true, decide_eq_true_eq, decide_eq_true_eq] at h4; exact h4
      refine go ?_
      refine w_ret hQ ?_
      rw [← hs, real_here hi' h4']; rfl
    · have h4' : ¬ ((xs.getD i E0e).dom = d ∧ (xs.getD i E0e).name = v) := by
        rw [← Bool.decide_and] at h4; exact of_decide_eq_false h4
      refine go ?_
      exact w_again (i + 1) ⟨by omega, by rw [← real_step hi' h4']; exact hs⟩ (by omega)
  · have : i = xs.length := by omega
    subst this
    refine go ?_
    refine w_stp (p_build (cs := (valCells V0).toArray) rfl rfl (by kernel_rfl)) ?_
    refine go ?_
    refine w_ret hQ ?_
    rw [← hs, real_end (Nat.le_refl _)]; rfl
theorem c_CalledR (xs : List Ent) (A : Option Addr) (c : Nat) (d : Int) (v : Val) (G : Heap) (hR : Rd kEnt G A xs) (hl : xs.length ≤ 1000000) :
    FnP Tryz.prog 23 [.slice A xs.length c, .int .i64 d, vV v] G (.tuple #[vV (calledN xs d v).1, .bool (calledN xs d v).2]) := by
  refine fnP_in Tryz.func23 rfl Tryz.ntmps23 rfl fun w0 Q0 hQ => ?_
  refine go ?_; intro B5
  refine go ?_; intro B6
  refine go ?_
  refine w_loop (fun i : Nat => [(8, .int .i64 (i : Int))]) (fun i => [[(B6, Cells 42 [(0, .int .i64 0), (1, .int .i64 0), (2, str [])])], [(B5, Arr 42 [.int .i64 v.k, .int .i64 v.n, str v.s])]]) (fun i _ => i ≤ xs.length ∧ calledN (xs.drop i) d v = calledN xs d v) (fun i => xs.length - i) 0 ⟨by omega, by rw [List.drop_zero]⟩ ?_
  rintro i G1 _ ⟨hi, hs⟩
  refine go ?_
  refine w_cd rfl (fun h3 => ?_) (fun h3 => ?_)
  · have hi' : i < xs.length := by omega
    have hE := hR.ent hi'
    refine go ?_
    refine w_dB (y := decide ((xs.getD i E0e).dom = d) && decide ((xs.getD i E0e).real = v)) 30 (by kernel_rfl) ?_ ?_
    · refine dg ?_
      refine dr_and 22 rfl (fun h => ?_) (fun h => ?_)
      · refine dg ?_; exact rfl
      · refine dg ?_; exact rfl
    refine go ?_
    refine w_cond rfl (fun h4 => ?_) (fun h4 => ?_)
    · have h4' : (xs.getD i E0e).dom = d ∧ (xs.getD i E0e).real = v := by
        rw [Bool.and_eq_true, decide_eq_true_eq, decide_eq_true_eq] at h4; exact h4
      refine go ?_
      refine w_ret hQ ?_
      rw [← hs, called_here' hi' h4']; rfl
    · have h4' : ¬ ((xs.getD i E0e).dom = d ∧ (xs.getD i E0e).real = v) := by
        rw [← Bool.decide_and] at h4; exact of_decide_eq_false h4
      refine go ?_
      exact w_again (i + 1) ⟨by omega, by rw [← called_step hi' h4']; exact hs⟩ (by omega)
  · have : i = xs.length := by omega
    subst this
    refine go ?_
    refine w_stp (p_build (cs := (valCells V0).toArray) rfl rfl (by kernel_rfl)) ?_
    refine go ?_
    refine w_ret hQ ?_
    rw [← hs, called_end (Nat.le_refl _)]; rfl
theorem c_RealR (xs : List Ent) (A : Option Addr) (c : Nat) (d : Int) (v : Val) (G : Heap) (hR : Rd kEnt G A xs) (hl : xs.length ≤ 1000000) :
    FnP Tryz.prog 24 [.slice A xs.length c, .int .i64 d, vV v] G (.tuple #[vV (realN xs d v).1, .bool (realN xs d v).2]) := by
  refine fnP_in Tryz.func24 rfl Tryz.ntmps24 rfl fun w0 Q0 hQ => ?_
  refine go ?_; intro B5
  refine go ?_; intro B6
  refine go ?_
  refine w_loop (fun i : Nat => [(8, .int .i64 (i : Int))]) (fun i => [[(B6, Cells 42 [(0, .int .i64 0), (1, .int .i64 0), (2, str [])])], [(B5, Arr 42 [.int .i64 v.k, .int .i64 v.n, str v.s])]]) (fun i _ => i ≤ xs.length ∧ realN (xs.drop i) d v = realN xs d v) (fun i => xs.length - i) 0 ⟨by omega, by rw [List.drop_zero]⟩ ?_
  rintro i G1 _ ⟨hi, hs⟩
  refine go ?_
  refine w_cd rfl (fun h3 => ?_) (fun h3 => ?_)
  · have hi' : i < xs.length := by omega
    have hE := hR.ent hi'
    refine go ?_
    refine w_dB (y := decide ((xs.getD i E0e).dom = d) && decide ((xs.getD i E0e).name = v)) 30 (by kernel_rfl) ?_ ?_
    · refine dg ?_
      refine dr_and 22 rfl (fun h => ?_) (fun h => ?_)
      · refine dg ?_; exact rfl
      · refine dg ?_; exact rfl
    refine go ?_
    refine w_cond rfl (fun h4 => ?_) (fun h4 => ?_)
    · have h4' : (xs.getD i E0e).dom = d ∧ (xs.getD i E0e).name = v := by
        rw [Bool.and_eq_true, decide_eq_true_eq, decide_eq_true_eq] at h4; exact h4
      refine go ?_
      refine w_ret hQ ?_
      rw [← hs, real_here hi' h4']; rfl
    · have h4' : ¬ ((xs.getD i E0e).dom = d ∧ (xs.getD i E0e).name = v) := by
        rw [← Bool.decide_and] at h4; exact of_decide_eq_false h4
      refine go ?_
      exact w_again (i + 1) ⟨by omega, by rw [← real_step hi' h4']; exact hs⟩ (by omega)
  · have : i = xs.length := by omega
    subst this
    refine go ?_
    refine w_stp (p_build (cs := (valCells V0).toArray) rfl rfl (by kernel_rfl)) ?_
    refine go ?_
    refine w_ret hQ ?_
    rw [← hs, real_end (Nat.le_refl _)]; rfl
theorem c_Same (xa xb : List Ent) (Aa Ab : Option Addr) (ca cb : Nat) (G : Heap) (hRa : Rd kEnt G Aa xa) (hRb : Rd kEnt G Ab xb) (hla : xa.length ≤ 1000000) (hlb : xb.length ≤ 1000000) :
    FnP Tryz.prog 17 [.slice Aa xa.length ca, .slice Ab xb.length cb] G (.bool (decide (xa = xb))) := by
  refine fnP_in Tryz.func17 rfl Tryz.ntmps17 rfl fun w0 Q0 hQ => ?_
  refine go ?_
  refine w_cond rfl (fun h0 => ?_) (fun h0 => ?_)
  · refine go ?_
    refine w_ret hQ ?_
    rw [decide_eq_false (fun e => by subst e; simp at h0)]; rfl
  · have hle : xa.length = xb.length := by simp at h0; omega
    refine go ?_
    refine w_loop (fun i : Nat => [(5, .int .i64 (i : Int))]) (fun i => []) (fun i _ => i ≤ xa.length ∧ ∀ j, j < i → xa.getD j E0e = xb.getD j E0e) (fun i => xa.length - i) 0 ⟨by omega, fun j hj => by omega⟩ ?_
    rintro i G1 _ ⟨hi, hs⟩
    refine go ?_
    refine w_cd rfl (fun h3 => ?_) (fun h3 => ?_)
    · have hi' : i < xa.length := by omega
      have hi2 : i < xb.length := by omega
      have hE := hRa.ent hi'
      have hE2 := hRb.ent hi2
      refine go ?_
      refine w_d (by kernel_rfl) ?_
      refine dg ?_
      refine w_cond rfl (fun h4 => ?_) (fun h4 => ?_)
      · refine go ?_
        refine w_ret hQ ?_
        rw [decide_eq_false (fun e => by subst e; simp at h4)]; rfl
      · have h4' : xa.getD i E0e = xb.getD i E0e := by simpa using h4
        refine go ?_
        refine w_again (i + 1) ⟨by omega, fun j hj => ?_⟩ (by omega)
        rcases Nat.lt_or_ge j i with h | h
        · exact hs j h
        · obtain rfl : j = i := by omega
          exact h4'
    · have hx : xa = xb := by
        refine List.ext_getElem hle fun j h1 h2 => ?_
        have := hs j (by omega)
        rw [List.getD_eq_getElem?_getD, List.getD_eq_getElem?_getD, List.getElem?_eq_getElem h1, List.getElem?_eq_getElem h2] at this
        exact this
      refine go ?_
      refine w_ret hQ ?_
      rw [decide_eq_true hx]; rfl
end Go.Proofs.YtngoaapgdfohjaaGreatDoor.T27

set_option linter.unusedVariables false
set_option linter.unusedSimpArgs false
set_option maxRecDepth 100000
set_option maxHeartbeats 4000000
namespace Go.Proofs.YtngoaapgdfohjaaGreatDoor.T27
open Go Go.Proofs.YtngoaapgdfohjaaGreatDoor.X Go.Proofs Go.Proofs.YtngoaapgdfohjaaGreatDoor.T28 Go.Proofs.YtngoaapgdfohjaaGreatDoor.TS Go.Proofs.YtngoaapgdfohjaaGreatDoor.TK
/-! ## The document's entries -/
theorem cl_count (l : List Val) (t : Val) : clV l t = ((l.filter fun x => lessV x t).length : Int) := by
  unfold clV
  congr 2
  refine List.filter_congr fun x _ => ?_
  have := cv_lt x t
  cases h : lessV x t with
  | true => exact decide_eq_true (this.2 h)
  | false => exact decide_eq_false (fun q => by rw [this.1 q] at h; cases h)
theorem cnt_step (l : List Val) (t : Val) (k : Nat) (hk : k < l.length) : ((l.take (k + 1)).filter fun x => lessV x t).length = ((l.take k).filter fun x => lessV x t).length + (if lessV (l.getD k ⟨0, 0, []⟩) t = true then 1 else 0) := by
  rw [List.take_add_one, List.getElem?_eq_getElem hk, List.getD_eq_getElem?_getD, List.getElem?_eq_getElem hk, Option.toList_some, Option.getD_some, List.filter_append, List.length_append]
  congr 1
  by_cases h : lessV l[k] t = true
  · rw [if_pos h]; simp [h]
  · rw [if_neg h]; simp [h]
theorem nm_eq (key : List Int) (r : Rul) (d : Int) (l : List Val) (i : Nat) (ho : Oc key) (hs : r.way = 2 → 1 ≤ r.size ∧ r.size ≤ 16) : nameN key r d l i = if r.way = 1 then ⟨2, 0, letterS d ++ Lib.itoa ((i : Int) + 1)⟩ else if r.way = 2 then ⟨2, 0, letterS d ++ ofR key (letterS d) r.size (printV (l.getD i ⟨0, 0, []⟩))⟩ else ⟨1, clV l (l.getD i ⟨0, 0, []⟩) + 1, []⟩ := by
  unfold nameN
  split
  · rfl
  · split
    · rename_i h; rw [of_eq key (letterS d) r.size _ ho (hs h)]
    · rfl
theorem ofR_len (key : List Int) (dom : Bs) (size : Int) (val : Bs) : (ofR key dom size val).length ≤ 64 := by
  unfold ofR
  rw [encR_len, List.length_take, macR_len]
  omega
attribute [local irreducible] ofR
theorem c_NameRef (key : List Int) (ho : Oc key) (r : Rul) (d : Int) (Ak : Option Addr) (kc : Nat) (l : List Val) (A : Option Addr) (c : Nat) (i : Nat) (hi : i < l.length) (hs : r.way = 2 → 1 ≤ r.size ∧ r.size ≤ 16) (G : Heap) (hRk : Rd (Knd.int .u8) G Ak key) (hkl : key.length ≤ 1000000) (hR : Rd kVal G A l) (hl : l.length ≤ 1000000) (hw : ∀ v ∈ l, v.Wf) (hpr : ∀ v ∈ l, (printV v).length ≤ 10000000) :
    FnP Tryz.prog 19 [vR r, .int .i64 d, .slice Ak key.length kc, .slice A l.length c, .int .i64 (i : Int)] G (vV (nameN key r d l i)) := by
  refine fnP_in Tryz.func19 rfl Tryz.ntmps19 rfl fun w0 Q0 hQ => ?_
  have hll := letter_len d
  have hn : I64 ((i : Int) + 1) := by unfold I64; omega
  have hlen := Lib.itoa_length_le ((i : Int) + 1) hn.1 hn.2
  have hE := hR.val hi
  have hvw := getD_wf hw hi
  have hpv := hpr _ (vmem (d := ⟨0, 0, []⟩) hi)
  have hol := ofR_len key (letterS d) r.size (printV (l.getD i ⟨0, 0, []⟩))
  rw [nm_eq key r d l i ho hs] at hQ
  refine go ?_; intro B5
  refine go ?_; intro B10
  refine go ?_
  refine w_cd rfl (fun h1 => ?_) (fun h1 => ?_)
  · rw [if_pos h1] at hQ
    refine go ?_
    refine w_stp (p_call rfl rfl rfl (c_LetterR d _)) ?_
    refine go ?_
    refine w_stp (p_call rfl rfl rfl (c_Print6 ((i : Int) + 1) hn _)) ?_
    refine go ?_
    refine w_stp (p_build (cs := #[.int .i64 2, .int .i64 0, str (letterS d ++ Lib.itoa ((i : Int) + 1))]) rfl rfl (by kernel_rfl)) ?_
    refine go ?_
    exact w_ret hQ rfl
  · rw [if_neg h1] at hQ
    refine go ?_
    refine w_cd rfl (fun h2 => ?_) (fun h2 => ?_)
    · rw [if_pos h2] at hQ
      refine go ?_
      refine w_dt 15 (by kernel_rfl) ?_
      refine dg ?_
      refine .cons (p_call rfl rfl rfl (c_LetterR d _)) (dg ?_)
      refine .cons (p_call rfl rfl rfl (c_LetterR d _)) (dg ?_)
      refine .cons (p_call rfl rfl rfl (c_PrintR _ hvw _)) (dg ?_)
      refine .cons (p_call rfl rfl rfl (c_OfR key ho Ak kc (letterS d) r.size _ (hs h2) _ hRk hkl (by omega) hpv)) (dg ?_)
      refine .cons (p_build (cs := #[.int .i64 2, .int .i64 0, str (letterS d ++ ofR key (letterS d) r.size (printV (l.getD i ⟨0, 0, []⟩)))]) rfl rfl (by kernel_rfl)) (dg ?_)
      refine go ?_
      exact w_ret hQ rfl
    · rw [if_neg h2, cl_count] at hQ
      refine go ?_
      refine w_loop (fun k : Nat => [(11, .int .i64 (1 + (((l.take k).filter fun x => lessV x (l.getD i ⟨0, 0, []⟩)).length : Int))), (12, .int .i64 (k : Int))]) (fun k => [[(B10, Cells 42 [(0, .int .i64 0), (1, .int .i64 0), (2, str [])])]]) (fun k _ => k ≤ l.length) (fun k => l.length - k) 0 (by omega) ?_
      intro k G1 _ hk
      have hfl := List.length_filter_le (fun x => lessV x (l.getD i ⟨0, 0, []⟩)) (l.take k)
      have hkl2 : (l.take k).length = k := by rw [List.length_take]; omega
      refine go ?_
      refine w_cd rfl (fun h3 => ?_) (fun h3 => ?_)
      · have hk' : k < l.length := by omega
        have hE2 := hR.val hk'
        have hcs := cnt_step l (l.getD i ⟨0, 0, []⟩) k hk'
        refine go ?_
        refine w_d (by kernel_rfl) ?_
        refine dg ?_
        refine .cons (p_call rfl rfl rfl (c_LessR (l.getD k ⟨0, 0, []⟩) (l.getD i ⟨0, 0, []⟩) _)) (dg ?_)
        refine w_cond rfl (fun h4 => ?_) (fun h4 => ?_)
        · rw [if_pos h4] at hcs
          refine go ?_
          refine w_as 11 (.int .i64 (1 + (((l.take (k + 1)).filter fun x => lessV x (l.getD i ⟨0, 0, []⟩)).length : Int))) rfl (by congr 1; omega) ?_
          exact w_again (k + 1) (by omega) (by omega)
        · rw [if_neg (by rw [h4]; simp)] at hcs
          refine go ?_
          refine w_as 11 (.int .i64 (1 + (((l.take (k + 1)).filter fun x => lessV x (l.getD i ⟨0, 0, []⟩)).length : Int))) rfl (by congr 1; omega) ?_
          exact w_again (k + 1) (by omega) (by omega)
      · have : k = l.length := by omega
        subst this
        rw [List.take_length]
        refine go ?_
        refine w_stp (p_build (cs := #[.int .i64 1, .int .i64 (1 + ((l.filter fun x => lessV x (l.getD i ⟨0, 0, []⟩)).length : Int)), str []]) rfl rfl (by kernel_rfl)) ?_
        refine go ?_
        refine w_ret hQ ?_
        rw [Int.add_comm]; rfl
/-- The document's entries: none, if two have one name. -/
def buildR (key : List Int) (r : Rul) (d : Int) (xs : List Val) : List Ent × Bool :=
  if r.way = 0 then ([], true) else if (namesN key r d (unlikeL d xs) (unlikeL d xs).length).Nodup then (entsN key r d (unlikeL d xs) (unlikeL d xs).length, true) else ([], false)
theorem ents_name (key : List Int) (r : Rul) (d : Int) (l : List Val) (n k : Nat) (hk : k < n) : ((entsN key r d l n).getD k E0e).name = nameN key r d l k := by
  unfold entsN
  rw [List.getD_eq_getElem?_getD, List.getElem?_map, List.getElem?_range hk]
  rfl
theorem names_mem {key : List Int} {r : Rul} {d : Int} {l : List Val} {n k : Nat} (hk : k < n) : nameN key r d l k ∈ namesN key r d l n := by
  unfold namesN
  exact List.mem_map.2 ⟨k, List.mem_range.2 hk, rfl⟩
attribute [local irreducible] nameN
theorem c_BuildR (key : List Int) (ho : Oc key) (r : Rul) (d : Int) (Ak : Option Addr) (kc : Nat) (xs : List Val) (A : Option Addr) (c : Nat) (hs : r.way = 2 → 1 ≤ r.size ∧ r.size ≤ 16) (G : Heap) (hRk : Rd (Knd.int .u8) G Ak key) (hkl : key.length ≤ 1000000) (hR : Rd kVal G A xs) (hl : xs.length ≤ 1000000) (hw : ∀ v ∈ xs, v.Wf) (hpr : ∀ v ∈ xs, (printV v).length ≤ 10000000) :
    FnR Tryz.prog 16 [vR r, .int .i64 d, .slice Ak key.length kc, .slice A xs.length c] G (fun v G' => ∃ A c, v = .tuple #[.slice A (buildR key r d xs).1.length c, .bool (buildR key r d xs).2] ∧ (buildR key r d xs).1.length ≤ c ∧ Rd kEnt G' A (buildR key r d xs).1) := by
  refine fn_in Tryz.func16 rfl Tryz.ntmps16 rfl fun w0 Q0 hQ => ?_
  refine go ?_; intro B4
  refine go ?_
  refine w_cd rfl (fun h2 => ?_) (fun h2 => ?_)
  · have e : buildR key r d xs = ([], true) := by unfold buildR; rw [if_pos h2]
    refine go ?_
    refine w_ret hQ ?_
    rw [e]
    exact ⟨none, 0, rfl, Nat.le_refl _, .inl rfl⟩
  · have hwu : ∀ v ∈ unlikeL d xs, v.Wf := fun v hv => hw v (unlike_mem hv).1
    have hpu : ∀ v ∈ unlikeL d xs, (printV v).length ≤ 10000000 := fun v hv => hpr v (unlike_mem hv).1
    have hlu : (unlikeL d xs).length ≤ 1000000 := by have := unlike_len d xs; omega
    have hb : buildR key r d xs = if (namesN key r d (unlikeL d xs) (unlikeL d xs).length).Nodup then (entsN key r d (unlikeL d xs) (unlikeL d xs).length, true) else ([], false) := by unfold buildR; rw [if_neg h2]
    refine go ?_
    refine w_call rfl rfl rfl (c_UnlikeR d xs A c _ hR.up hl hw) fun r1 G1 _ hr1 => ?_
    obtain ⟨A1, c1, rfl, hc1, hR1⟩ := hr1
    generalize unlikeL d xs = u at *
    refine go ?_
    refine w_nilO (K := kEnt) 70 fun hO => ?_
    refine w_loop (α := Nat × Option Addr × Nat × Chunk) (fun x => [(11, .slice x.2.1 (entsN key r d u x.1).length x.2.2.1), (12, .int .i64 (x.1 : Int))]) (fun x => [x.2.2.2, [(B4, Arr 23 [.int .i64 r.way, .int .i64 r.size])]]) (fun x G => x.1 ≤ u.length ∧ X.Own kEnt 70 G x.2.1 x.2.2.1 (entsN key r d u x.1) x.2.2.2 ∧ (namesN key r d u x.1).Nodup) (fun x => u.length - x.1) (0, none, 0, []) ⟨by omega, hO, List.nodup_nil⟩ ?_
    rintro ⟨i, A5, c5, C5⟩ G3 _ ⟨hi, hO5, hnd⟩
    dsimp only at hi hO5 hnd ⊢
    have hel := entsN_len (ky := key) (r := r) (d := d) (l := u) (n := i)
    refine go ?_
    refine w_cd rfl (fun h3 => ?_) (fun h3 => ?_)
    · have hi' : i < u.length := by omega
      have hE := hR1.val hi'
      refine go ?_
      refine w_stp (p_call rfl rfl rfl (c_NameRef key ho r d Ak kc u A1 c1 i hi' hs _ hRk.up hkl hR1.up hlu hwu hpu)) ?_
      refine go ?_; intro B13
      refine go ?_
      refine w_loop (fun k : Nat => [(14, .int .i64 (k : Int))]) (fun k => [C5, [(B13, Cells 42 [(0, .int .i64 (nameN key r d u i).k), (1, .int .i64 (nameN key r d u i).n), (2, str (nameN key r d u i).s)])], [(B4, Arr 23 [.int .i64 r.way, .int .i64 r.size])]]) (fun k _ => k ≤ i ∧ ∀ j, j < k → nameN key r d u j ≠ nameN key r d u i) (fun k => i - k) 0 ⟨by omega, fun j hj => by omega⟩ ?_
      rintro k G4 _ ⟨hk, hne⟩
      refine go ?_
      refine w_cd rfl (fun h4 => ?_) (fun h4 => ?_)
      · have hk' : k < (entsN key r d u i).length := by omega
        have hnm := ents_name key r d u i k (by omega)
        refine go ?_
        refine w_d (by kernel_rfl) ?_
        refine dg ?_
        refine w_cd rfl (fun h5 => ?_) (fun h5 => ?_)
        · rw [hnm] at h5
          have hm : nameN key r d u i ∈ namesN key r d u i := h5 ▸ names_mem (by omega)
          have e : buildR key r d xs = ([], false) := by rw [hb, if_neg (names_bad hi' hm)]
          refine go ?_
          refine w_ret hQ ?_
          rw [e]
          exact ⟨none, 0, rfl, Nat.le_refl _, .inl rfl⟩
        · rw [hnm] at h5
          refine go ?_
          refine w_again (k + 1) ⟨by omega, fun j hj => ?_⟩ (by omega)
          rcases Nat.lt_or_ge j k with h | h
          · exact hne j h
          · obtain rfl : j = k := by omega
            exact h5
      · have hki : k = i := by omega
        subst hki
        have hm : ¬ nameN key r d u k ∈ namesN key r d u k := fun hm => by
          unfold namesN at hm
          obtain ⟨j, hj, hje⟩ := List.mem_map.1 hm
          exact hne j (List.mem_range.1 hj) hje
        refine go ?_
        refine w_dc 9 (by kernel_rfl) ?_
        refine dcg ?_
        refine .cons (p_build (cs := (entCells (entN key r d u k)).toArray) rfl rfl (by kernel_rfl)) ?_
        refine .call (r_lit (K := kEnt) [entN key r d u k] rfl rfl rfl (cs := (entCells (entN key r d u k)).toArray) (by kernel_rfl) ⟨rfl, rfl⟩) (.nil ?_)
        intro G6 _; simp only [KC]; rintro _ ⟨b, rfl, hR6⟩
        refine w_app rfl rfl hO5 inferInstance (by repeat (first | exact .here | apply Pk.there)) rfl hR6 (.refl _) rfl kone_ent (by simp only [List.length_cons, List.length_nil]; omega) fun A6 c6 C6 hO6 => ?_
        rw [entsN_step] at hO6
        rw [entsN_step]
        refine go ?_
        exact w_again (k + 1, A6, c6, C6) ⟨by omega, hO6, nodup_step hnd hm⟩ (by show u.length - (k + 1) < u.length - k; omega)
    · have : i = u.length := by omega
      subst this
      refine go ?_
      refine w_stillO hO5 inferInstance .here fun G5 _ hR5 hc => ?_
      refine w_ret hQ ?_
      rw [hb, if_pos hnd]
      exact ⟨A5, c5, rfl, hc, hR5⟩
end Go.Proofs.YtngoaapgdfohjaaGreatDoor.T27
