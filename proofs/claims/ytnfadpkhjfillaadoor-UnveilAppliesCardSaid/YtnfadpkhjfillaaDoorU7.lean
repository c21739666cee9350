/- Own text. -/
import Derived.Test.YtnfadpkhjfillaaDoorU6
set_option linter.unusedVariables false
set_option linter.unusedSimpArgs false
set_option maxRecDepth 100000
set_option maxHeartbeats 4000000
namespace Go.Proofs.YtnfadpkhjfillaaDoor.T28
open Go Go.Proofs.YtnfadpkhjfillaaDoor.X
instance : UN Tryd.prog 28 (.slice 71) := ⟨Tryd.underlying28⟩
instance : UN Tryd.prog 29 (.slice 74) := ⟨Tryd.underlying29⟩
instance : LZ Tryd.prog 71 [(0, .int .i64 0), (1, .int .i64 0), (2, .int .i64 0), (3, str []), (4, .int .i64 0), (5, .int .i64 0), (6, str [])] := ⟨⟨.agg #[.int .i64 0, .int .i64 0, .int .i64 0, str [], .int .i64 0, .int .i64 0, str []], by kernel_rfl, ⟨rfl, rfl, rfl, rfl, rfl, rfl, rfl, trivial⟩⟩⟩
theorem T.a71 : aggSz Tryd.prog 71 = some 7 := by kernel_rfl
instance : AG Tryd.prog 71 7 := ⟨T.a71⟩
theorem T.f32_0 : fieldOff Tryd.prog 32 0 = some 0 := by kernel_rfl
instance : FO Tryd.prog 32 0 0 := ⟨T.f32_0⟩
theorem T.f32_2 : fieldOff Tryd.prog 32 2 = some 15 := by kernel_rfl
instance : FO Tryd.prog 32 2 15 := ⟨T.f32_2⟩
theorem T.f71_0 : fieldOff Tryd.prog 71 0 = some 0 := by kernel_rfl
instance : FO Tryd.prog 71 0 0 := ⟨T.f71_0⟩
theorem T.f71_1 : fieldOff Tryd.prog 71 1 = some 1 := by kernel_rfl
instance : FO Tryd.prog 71 1 1 := ⟨T.f71_1⟩
theorem T.f71_2 : fieldOff Tryd.prog 71 2 = some 4 := by kernel_rfl
instance : FO Tryd.prog 71 2 4 := ⟨T.f71_2⟩
theorem T.f74_0 : fieldOff Tryd.prog 74 0 = some 0 := by kernel_rfl
instance : FO Tryd.prog 74 0 0 := ⟨T.f74_0⟩
theorem T.f74_1 : fieldOff Tryd.prog 74 1 = some 1 := by kernel_rfl
instance : FO Tryd.prog 74 1 1 := ⟨T.f74_1⟩
theorem T.g13 : goFn Tryd.prog 13 = true := by kernel_rfl
theorem T.l28 : slOf Tryd.prog 28 = some (71, 7) := by kernel_rfl
theorem T.l29 : slOf Tryd.prog 29 = some (74, 2) := by kernel_rfl
theorem T.s29 : scal Tryd.prog 29 = true := by kernel_rfl
instance : SC Tryd.prog 29 := ⟨T.s29⟩

structure Ent where
  dom : Int
  name : Val
  real : Val deriving DecidableEq
abbrev entCells (x : Ent) : List Value := [.int .i64 x.dom, .int .i64 x.name.k, .int .i64 x.name.n, str x.name.s, .int .i64 x.real.k, .int .i64 x.real.n, str x.real.s]
def kEnt : Knd Ent where
  sz := 7
  R := fun _ x cs => cs = entCells x
  len := by rintro G x cs rfl; rfl
  le := fun _ h => h
theorem kEnt_open {G : Heap} {b o : Nat} {x : Ent} (h : ElAt kEnt G b o x) : CellsAt G b o (entCells x) := by
  obtain ⟨cs, rfl, hc⟩ := h
  exact hc
def ENT0 : Ent := ⟨0, ⟨0, 0, []⟩, ⟨0, 0, []⟩⟩
structure Mom where
  rank : Int
  time : Int deriving DecidableEq
structure Rem where
  ev : Int
  note : Bs deriving DecidableEq
def MOM0 : Mom := ⟨0, 0⟩
def REM0 : Rem := ⟨0, []⟩
def kMom : Knd Mom where
  sz := 2
  R := fun _ x cs => cs = [.int .i64 x.rank, .int .i64 x.time]
  len := by rintro G x cs rfl; rfl
  le := fun _ h => h
theorem kMom_open {G : Heap} {b o : Nat} {x : Mom} (h : ElAt kMom G b o x) : CellsAt G b o [.int .i64 x.rank, .int .i64 x.time] := by
  obtain ⟨cs, rfl, hc⟩ := h
  exact hc
def kRem : Knd Rem where
  sz := 2
  R := fun _ x cs => cs = [.int .i64 x.ev, str x.note]
  len := by rintro G x cs rfl; rfl
  le := fun _ h => h
theorem kRem_open {G : Heap} {b o : Nat} {x : Rem} (h : ElAt kRem G b o x) : CellsAt G b o [.int .i64 x.ev, str x.note] := by
  obtain ⟨cs, rfl, hc⟩ := h
  exact hc
structure Book where
  pol : Pol
  es : List Ent
  ms : List Mom
  rs : List Rem
abbrev PC (b : Book) (l : List (Nat × Value)) : List (Nat × Value) := (0, .int .i64 b.pol.r0.way) :: (1, .int .i64 b.pol.r0.size) :: (2, .int .i64 b.pol.r1.way) :: (3, .int .i64 b.pol.r1.size) :: (4, .int .i64 b.pol.r2.way) :: (5, .int .i64 b.pol.r2.size) :: (6, .int .i64 b.pol.r3.way) :: (7, .int .i64 b.pol.r3.size) :: (8, .int .i64 b.pol.r4.way) :: (9, .int .i64 b.pol.r4.size) :: (10, .int .i64 b.pol.time) :: (11, .int .i64 b.pol.note) :: (12, .bool b.pol.loose) :: (13, .bool b.pol.force) :: l
/-! Names and their reals. -/
def hitE (es : List Ent) (d : Int) (v : Val) (i : Nat) : Bool := decide ((es.getD i ENT0).dom = d) && decide ((es.getD i ENT0).name = v)
def realI (es : List Ent) (d : Int) (v : Val) : Option Nat := (List.range es.length).find? (hitE es d v)
def realS (es : List Ent) (d : Int) (v : Val) : Val × Bool := match realI es d v with
  | some i => ((es.getD i ENT0).real, true)
  | none => (⟨0, 0, []⟩, false)
theorem real_hit {es : List Ent} {d : Int} {v : Val} {i : Nat} (hi : i < es.length) (h1 : ∀ j, j < i → hitE es d v j = false) (h2 : hitE es d v i = true) : realS es d v = ((es.getD i ENT0).real, true) := by
  have : realI es d v = some i := List.find?_range_eq_some.2 ⟨h2, List.mem_range.2 hi, fun j hj => by simp [h1 j hj]⟩
  unfold realS
  rw [this]
theorem real_miss {es : List Ent} {d : Int} {v : Val} (h1 : ∀ j, j < es.length → hitE es d v j = false) : realS es d v = (⟨0, 0, []⟩, false) := by
  have : realI es d v = none := List.find?_range_eq_none.2 fun j hj => by simp [h1 j hj]
  unfold realS
  rw [this]
def plainB (s : Bs) : Bool := !decide (0 ≤ Lib.indexByte s 10) && decide ((s.length : Int) ≤ 100)
/-! The domains of the events. -/
def VE0 : VE := ⟨E0, []⟩
def domL (h : List Evt) (n : Nat) : List (List Int) := (List.range n).map fun i => ((allV h).getD i VE0).ds
theorem domL_step (h : List Evt) (n : Nat) : domL h n ++ [((allV h).getD n VE0).ds] = domL h (n + 1) := by unfold domL; rw [List.range_succ, List.map_append]; rfl
theorem allV_len (h : List Evt) : (allV h).length ≤ h.length := by
  unfold allV
  split
  · rw [vesS_len]; omega
  · exact Nat.zero_le _
theorem domL_len (h : List Evt) (n : Nat) : (domL h n).length = n := by simp [domL]
theorem called_hit {h : List Evt} {at_ j : Nat} {c : Val} (ht : (h.getD j E0).type = 1 ∧ (h.getD j E0).client = c) : lastCall h c (j + 1) = some j := by unfold lastCall; rw [if_pos ht]
theorem called_miss {h : List Evt} {j : Nat} {c : Val} (ht : ¬ ((h.getD j E0).type = 1 ∧ (h.getD j E0).client = c)) : lastCall h c (j + 1) = lastCall h c j := by
  conv => lhs; unfold lastCall
  rw [if_neg ht]
/-! An event's own values. -/
def ownE (x : Evt) : List Val := if x.type = 1 then ([x.client] ++ [x.key]) ++ x.args else if x.type = 2 then [x.client] ++ x.out else [x.client]
def timeI (ms : List Mom) (r : Int) : Option Nat := (List.range ms.length).find? fun i => decide ((ms.getD i MOM0).rank = r)
def timeM (ms : List Mom) (r : Int) : Int × Bool := match timeI ms r with
  | some i => ((ms.getD i MOM0).time, true)
  | none => (0, false)
def timeS (b : Book) (r : Int) : Int × Bool := if b.pol.time = 3 then timeM b.ms r else (r, true)
theorem timeI_hit {ms : List Mom} {r : Int} {i : Nat} (hi : i < ms.length) (h1 : ∀ j, j < i → ¬ (ms.getD j MOM0).rank = r) (h2 : (ms.getD i MOM0).rank = r) : timeI ms r = some i := List.find?_range_eq_some.2 ⟨decide_eq_true h2, List.mem_range.2 hi, fun j hj => by rw [decide_eq_false (h1 j hj)]; rfl⟩
theorem timeI_miss {ms : List Mom} {r : Int} (h1 : ∀ j, j < ms.length → ¬ (ms.getD j MOM0).rank = r) : timeI ms r = none := List.find?_range_eq_none.2 fun j hj => by rw [decide_eq_false (h1 j hj)]; rfl
def greatH (h : List Evt) (m : Int) : Bool := decide (m < (h.length : Int)) || h.any greatE
theorem any_drop {α : Type} {p : α → Bool} {l : List α} {i : Nat} {d : α} (hi : i < l.length) : (l.drop i).any p = (p (l.getD ((i : Nat) : Int).toNat d) || (l.drop (i + 1)).any p) := by
  rw [List.drop_eq_getElem_cons hi, List.any_cons]
  simp [hi]
theorem any_end {α : Type} {p : α → Bool} {l : List α} {i : Nat} (hi : l.length ≤ i) : (l.drop i).any p = false := by rw [List.drop_eq_nil_of_le hi]; rfl
theorem greatH_out {h : List Evt} {m : Int} (hg : greatH h m = false) : (h.length : Int) ≤ m ∧ ∀ x ∈ h, greatE x = false := by
  unfold greatH at hg
  rw [Bool.or_eq_false_iff, decide_eq_false_iff_not] at hg
  refine ⟨by omega, fun x hx => ?_⟩
  have := List.any_eq_false.1 hg.2 x hx
  simpa using this
/-! `incognito/names.Real` -/
theorem c_realN (es : List Ent) (d : Int) (x : Val) (A : Option Addr) (c : Nat) (w0 : World) (G : Heap) (hG : Sub G w0) (hR : Rd kEnt G A es) (hl : es.length ≤ 9223372036854775807):
  Calls Tryd.prog 35 #[.slice A es.length c, .int .i64 d, .agg #[.int .i64 x.k, .int .i64 x.n, str x.s]] w0 (Ret w0 G (fun v _ => v = .tuple #[.agg #[.int .i64 (realS es d x).1.k, .int .i64 (realS es d x).1.n, str (realS es d x).1.s], .bool (realS es d x).2])) := by
 refine enter Tryd.func35 rfl Tryd.ntmps35 rfl ?_
 intro Q hQ a E
 have S := St.start0 hG
 refine sr fun K hK => ?_
 refine o_bx3 E rfl S rfl ?_; clear E S; intro B5 w a S E
 refine o_allocZ E rfl S ?_; clear E S; intro B6 w a S E
 refine rn 1 E S ?_; clear E S; intro a w E S
 apply hK; clear hK K
 refine wp_seq_k (fun K3 hK2 => ?_)
 refine sr fun K hK => ?_
 refine rn 3 E S ?_; clear E S; intro a w E S
 apply hK; clear hK K
 refine wp_block ?_
 refine loop (fun (i : Nat) a' w' => St w0 G [] G w' [[(B6, Cells 49 [(0, .int .i64 0), (1, .int .i64 0), (2, str [])])], [(B5, Cells 49 [(0, .int .i64 x.k), (1, .int .i64 x.n), (2, str x.s)])]] ∧ Env a' 30 [] [(1, .int .i64 d), (5, .pointer (some ⟨B5, 0, none⟩)), (6, .pointer (some ⟨B6, 0, none⟩)), (7, .bool false), (10, .slice A es.length c), (11, .int .i64 (es.length : Int)), (12, .int .i64 (i : Int))] ∧ (i ≤ es.length ∧ ∀ j, j < i → hitE es d x j = false)) (fun (i : Nat) => es.length - i) 0 ⟨S, E.cut ⟨rfl, rfl, rfl, rfl, rfl, rfl, rfl, trivial⟩, ⟨Nat.zero_le _, fun j hj => absurd hj (Nat.not_lt_zero _)⟩⟩ ?_
 clear E S; intro i a w ⟨S, E, ⟨hi, hall⟩⟩
 refine sr fun K hK => ?_
 refine rn 1 E S ?_; clear E S; intro a w E S
 apply hK; clear hK K
 refine wp_seq_k (fun K8 hK7 => ?_)
 refine cond E rfl (fun h9r => ?_) (fun h9r => ?_)
 ·have h9 := nm h9r
  refine wp_skip ?_
  refine hK7 _ _ ?_; clear hK7
  refine wp_seq_k (fun K11 hK10 => ?_)
  refine wp_block ?_
  refine sr fun K hK => ?_
  have hi12 : (i : Int).toNat < es.length := by omega
  obtain ⟨eb12, eo12, hA12, el12⟩ := Rd.at hR (List.getElem?_eq_getElem hi12); cases hA12
  rw [show es[(i : Int).toNat] = (es.getD i ENT0) from getD_get (i := i) hi12 _] at el12
  have el12 := kEnt_open el12
  refine o_ixL E rfl rfl rfl T.l28 ⟨by omega, by omega⟩ ?_; clear E; intro a E
  refine o_ldIA E rfl S rfl el12 T.a71 ?_; clear E; intro a E
  refine o_allocZ E rfl S ?_; clear E S; intro B9 w a S E
  refine rn 1 E S ?_; clear E S; intro a w E S
  apply hK; clear hK K
  refine sr fun K hK => ?_
  refine rn 5 E S ?_; clear E S; intro a w E S
  refine cutG 5 25 (.bool ((decide (((es.getD i ENT0).dom) = d)) && (decide (((es.getD i ENT0).name.k) = x.k) && (decide (((es.getD i ENT0).name.n) = x.n) && (((es.getD i ENT0).name.s) == x.s && true))))) E S ?_ ?_
  ·refine bsp E (t := 20) rfl (fun hb14 => ?_) (fun hb14 => ?_)
   ·have hk15 := nm hb14
    refine rn 3 E S ?_; clear E S; intro a w E S
    refine op_on E rfl rfl hb14 ?_
    refine o_eqA (b := decide (((es.getD i ENT0).name.k) = x.k) && (decide (((es.getD i ENT0).name.n) = x.n) && (((es.getD i ENT0).name.s) == x.s && true))) E rfl rfl rfl T.q49 rfl rfl ?_; clear E; intro a E
    refine rn 1 E S ?_; clear E S; intro a w E S
    exact ⟨S, E.cutT (by rw [hb14] <;> rfl)⟩
   ·refine rn 5 E S ?_; clear E S; intro a w E S
    exact ⟨S, E.cutT (by rw [hb14] <;> rfl)⟩
  clear E S; intro a w E S
  apply hK; clear hK K
  refine cond E rfl (fun h17r => ?_) (fun h17r => ?_)
  ·have h17 := nm h17r
   refine sr fun K hK => ?_
   refine rn 4 E S ?_; clear E S; intro a w E S
   apply hK; clear hK K
   refine rt hQ E S ?_
   have hq := h17r
   rw [same_val] at hq
   have he := real_hit (es := es) (d := d) (v := x) (i := i) (by omega) hall (by unfold hitE; simpa using hq)
   show _ = _
   rw [he]
   rfl
  ·have h17 := nm h17r
   refine wp_skip ?_
   refine hK10 _ _ ?_; clear hK10
   refine wp_region_lit ?_
   refine rn 2 E S ?_; clear E S; intro a w E S
   replace S := S.drop (M' := [_, _]) (sub_drop (sub_keep (sub_keep sub_nil)))
   have hq := h17r
   rw [same_val] at hq
   have hall2 : ∀ j, j < i + 1 → hitE es d x j = false := by
    intro j hj
    rcases Nat.lt_or_ge j i with h_9 | h_9
    ·exact hall j h_9
    ·obtain rfl : j = i := by omega
     unfold hitE; simpa using hq
   exact ⟨i + 1, ⟨S, E.cut ⟨rfl, rfl, rfl, rfl, rfl, rfl, rfl, trivial⟩, ⟨by omega, hall2⟩⟩, by omega⟩
 ·have h9 := nm h9r
  refine wp_exit ?_
  refine hK2 _ _ ?_; clear hK2
  refine sr fun K hK => ?_
  refine o_build (cs := #[.int .i64 0, .int .i64 0, str []]) E rfl rfl (by kernel_rfl) ?_; clear E; intro a E
  refine rn 2 E S ?_; clear E S; intro a w E S
  apply hK; clear hK K
  refine rt hQ E S ?_
  have he := real_miss (es := es) (d := d) (v := x) (fun j hj => hall j (by omega))
  show _ = _
  rw [he]
  rfl

/-! `incognito/incognitoref27.Real` -/
theorem c_Real27 (es : List Ent) (d : Int) (x : Val) (A : Option Addr) (c : Nat) (w0 : World) (G : Heap) (hG : Sub G w0) (hR : Rd kEnt G A es) (hl : es.length ≤ 9223372036854775807):
  Calls Tryd.prog 29 #[.slice A es.length c, .int .i64 d, .agg #[.int .i64 x.k, .int .i64 x.n, str x.s]] w0 (Ret w0 G (fun v _ => v = .tuple #[.agg #[.int .i64 (realS es d x).1.k, .int .i64 (realS es d x).1.n, str (realS es d x).1.s], .bool (realS es d x).2])) := by
 refine enter Tryd.func29 rfl Tryd.ntmps29 rfl ?_
 intro Q hQ a E
 have S := St.start0 hG
 refine sr fun K hK => ?_
 refine o_bx3 E rfl S rfl ?_; clear E S; intro B5 w a S E
 refine o_allocZ E rfl S ?_; clear E S; intro B6 w a S E
 refine rn 1 E S ?_; clear E S; intro a w E S
 apply hK; clear hK K
 refine wp_seq_k (fun K3 hK2 => ?_)
 refine sr fun K hK => ?_
 refine rn 1 E S ?_; clear E S; intro a w E S
 apply hK; clear hK K
 refine wp_block ?_
 refine loop (fun (i : Nat) a' w' => St w0 G [] G w' [[(B6, Cells 49 [(0, .int .i64 0), (1, .int .i64 0), (2, str [])])], [(B5, Cells 49 [(0, .int .i64 x.k), (1, .int .i64 x.n), (2, str x.s)])]] ∧ Env a' 37 [] [(0, .slice A es.length c), (1, .int .i64 d), (5, .pointer (some ⟨B5, 0, none⟩)), (6, .pointer (some ⟨B6, 0, none⟩)), (7, .bool false), (8, .int .i64 (i : Int))] ∧ (i ≤ es.length ∧ ∀ j, j < i → hitE es d x j = false)) (fun (i : Nat) => es.length - i) 0 ⟨S, E.cut ⟨rfl, rfl, rfl, rfl, rfl, rfl, trivial⟩, ⟨Nat.zero_le _, fun j hj => absurd hj (Nat.not_lt_zero _)⟩⟩ ?_
 clear E S; intro i a w ⟨S, E, ⟨hi, hall⟩⟩
 refine wp_seq_k (fun K7 hK6 => ?_)
 refine sr fun K hK => ?_
 refine rn 4 E S ?_; clear E S; intro a w E S
 apply hK; clear hK K
 refine cond E rfl (fun h9r => ?_) (fun h9r => ?_)
 ·have h9 := nm h9r
  refine wp_skip ?_
  refine hK6 _ _ ?_; clear hK6
  refine wp_seq_k (fun K11 hK10 => ?_)
  refine wp_block ?_
  refine wp_seq_k (fun K13 hK12 => ?_)
  have hi14 : (i : Int).toNat < es.length := by omega
  obtain ⟨eb14, eo14, hA14, el14⟩ := Rd.at hR (List.getElem?_eq_getElem hi14); cases hA14
  rw [show es[(i : Int).toNat] = (es.getD i ENT0) from getD_get (i := i) hi14 _] at el14
  have el14 := kEnt_open el14
  refine drawnP [fun v => v = .slice (some ⟨eb14, eo14, none⟩) es.length c, fun v => v = .int .i64 (i : Int), fun v => v = .pointer (some ⟨eb14, eo14 + (i : Int).toNat * 7, none⟩), fun v => v = .pointer (some ⟨eb14, eo14 + (i : Int).toNat * 7 + 0, none⟩), fun v => v = .int .i64 ((es.getD i ENT0).dom), fun v => v = .int .i64 d, fun v => v = .bool (decide (((es.getD i ENT0).dom) = d)), fun v => v = .bool (decide (((es.getD i ENT0).dom) = d)), fun v => (decide (((es.getD i ENT0).dom) = d)) = true → v = .slice (some ⟨eb14, eo14, none⟩) es.length c, fun v => (decide (((es.getD i ENT0).dom) = d)) = true → v = .int .i64 (i : Int), fun v => (decide (((es.getD i ENT0).dom) = d)) = true → v = .pointer (some ⟨eb14, eo14 + (i : Int).toNat * 7, none⟩), fun v => (decide (((es.getD i ENT0).dom) = d)) = true → v = .pointer (some ⟨eb14, eo14 + (i : Int).toNat * 7 + 1, none⟩), fun v => (decide (((es.getD i ENT0).dom) = d)) = true → v = .agg #[.int .i64 ((es.getD i ENT0).name.k), .int .i64 ((es.getD i ENT0).name.n), str ((es.getD i ENT0).name.s)], fun v => (decide (((es.getD i ENT0).dom) = d)) = true → v = .agg #[.int .i64 x.k, .int .i64 x.n, str x.s], fun v => (decide (((es.getD i ENT0).dom) = d)) = true → v = .bool (decide (((es.getD i ENT0).name.k) = x.k) && (decide (((es.getD i ENT0).name.n) = x.n) && (((es.getD i ENT0).name.s) == x.s && true))), fun v => v = .bool ((decide (((es.getD i ENT0).dom) = d)) && (decide (((es.getD i ENT0).name.k) = x.k) && (decide (((es.getD i ENT0).name.n) = x.n) && (((es.getD i ENT0).name.s) == x.s && true))))] T.mix rfl E S rfl ⟨?_, ?_, ?_, ?_, ?_, ?_, ?_, ?_, ?_, ?_, ?_, ?_, ?_, ?_, ?_, ?_, trivial⟩ ?_
  ·intro a w G1 hl S E hp
   refine o_move E rfl rfl ?_; clear E; intro a E
   exact ⟨_, _, S, rfl, E.get _ _ rfl, E.defers, rfl⟩
  ·intro a w G1 hl S E hp
   refine o_move E rfl rfl ?_; clear E; intro a E
   exact ⟨_, _, S, rfl, E.get _ _ rfl, E.defers, rfl⟩
  ·intro a w G1 hl S E hp
   obtain ⟨_, e0, rfl⟩ := hp 0 15 _ rfl rfl rfl; replace E := E.add e0
   obtain ⟨_, e1, rfl⟩ := hp 1 16 _ rfl rfl rfl; replace E := E.add e1
   refine o_ixL E rfl rfl rfl T.l28 ⟨by omega, by omega⟩ ?_; clear E; intro a E
   exact ⟨_, _, S, rfl, E.get _ _ rfl, E.defers, rfl⟩
  ·intro a w G1 hl S E hp
   obtain ⟨_, e2, rfl⟩ := hp 2 17 _ rfl rfl rfl; replace E := E.add e2
   refine o_fld E rfl rfl T.f71_0 ?_; clear E; intro a E
   exact ⟨_, _, S, rfl, E.get _ _ rfl, E.defers, rfl⟩
  ·intro a w G1 hl S E hp
   obtain ⟨_, e3, rfl⟩ := hp 3 18 _ rfl rfl rfl; replace E := E.add e3
   refine o_ldI E rfl S rfl T.s3 (el14.le hl) (j := 0) rfl rfl ?_; clear E; intro a E
   exact ⟨_, _, S, rfl, E.get _ _ rfl, E.defers, rfl⟩
  ·intro a w G1 hl S E hp
   refine o_move E rfl rfl ?_; clear E; intro a E
   exact ⟨_, _, S, rfl, E.get _ _ rfl, E.defers, rfl⟩
  ·intro a w G1 hl S E hp
   obtain ⟨_, e4, rfl⟩ := hp 4 19 _ rfl rfl rfl; replace E := E.add e4
   obtain ⟨_, e5, rfl⟩ := hp 5 20 _ rfl rfl rfl; replace E := E.add e5
   refine o_eqI E rfl rfl rfl ?_; clear E; intro a E
   exact ⟨_, _, S, rfl, E.get _ _ rfl, E.defers, rfl⟩
  ·intro a w G1 hl S E hp
   obtain ⟨_, e6, rfl⟩ := hp 6 21 _ rfl rfl rfl; replace E := E.add e6
   refine o_move E rfl rfl ?_; clear E; intro a E
   exact ⟨_, _, S, rfl, E.get _ _ rfl, E.defers, rfl⟩
  ·intro a w G1 hl S E hp
   obtain ⟨_, eg, rfl⟩ := hp 7 22 _ rfl rfl rfl; replace E := E.add eg
   refine (Bool.eq_false_or_eq_true (decide (((es.getD i ENT0).dom) = d))).elim (fun hb => ?_) (fun hb => ?_)
   ·refine op_on E rfl rfl hb ?_
    refine o_move E rfl rfl ?_; clear E; intro a E
    exact ⟨_, _, S, rfl, E.get _ _ rfl, E.defers, fun _ => rfl⟩
   ·refine g_off E rfl rfl rfl hb ?_; clear E; intro a E
    exact ⟨_, _, S, rfl, E.get _ _ rfl, E.defers, fun h => absurd (hb.symm.trans h) (by decide)⟩
  ·intro a w G1 hl S E hp
   obtain ⟨_, eg, rfl⟩ := hp 7 22 _ rfl rfl rfl; replace E := E.add eg
   refine (Bool.eq_false_or_eq_true (decide (((es.getD i ENT0).dom) = d))).elim (fun hb => ?_) (fun hb => ?_)
   ·refine op_on E rfl rfl hb ?_
    refine o_move E rfl rfl ?_; clear E; intro a E
    exact ⟨_, _, S, rfl, E.get _ _ rfl, E.defers, fun _ => rfl⟩
   ·refine g_off E rfl rfl rfl hb ?_; clear E; intro a E
    exact ⟨_, _, S, rfl, E.get _ _ rfl, E.defers, fun h => absurd (hb.symm.trans h) (by decide)⟩
  ·intro a w G1 hl S E hp
   obtain ⟨_, eg, rfl⟩ := hp 7 22 _ rfl rfl rfl; replace E := E.add eg
   refine (Bool.eq_false_or_eq_true (decide (((es.getD i ENT0).dom) = d))).elim (fun hb => ?_) (fun hb => ?_)
   ·obtain ⟨_, e8, h8v⟩ := hp 8 23 _ rfl rfl rfl; cases h8v hb; replace E := E.add e8
    obtain ⟨_, e9, h9v⟩ := hp 9 24 _ rfl rfl rfl; cases h9v hb; replace E := E.add e9
    refine op_on E rfl rfl hb ?_
    refine o_ixL E rfl rfl rfl T.l28 ⟨by omega, by omega⟩ ?_; clear E; intro a E
    exact ⟨_, _, S, rfl, E.get _ _ rfl, E.defers, fun _ => rfl⟩
   ·refine g_off E rfl rfl rfl hb ?_; clear E; intro a E
    exact ⟨_, _, S, rfl, E.get _ _ rfl, E.defers, fun h => absurd (hb.symm.trans h) (by decide)⟩
  ·intro a w G1 hl S E hp
   obtain ⟨_, eg, rfl⟩ := hp 7 22 _ rfl rfl rfl; replace E := E.add eg
   refine (Bool.eq_false_or_eq_true (decide (((es.getD i ENT0).dom) = d))).elim (fun hb => ?_) (fun hb => ?_)
   ·obtain ⟨_, e10, h10v⟩ := hp 10 25 _ rfl rfl rfl; cases h10v hb; replace E := E.add e10
    refine op_on E rfl rfl hb ?_
    refine o_fld E rfl rfl T.f71_1 ?_; clear E; intro a E
    exact ⟨_, _, S, rfl, E.get _ _ rfl, E.defers, fun _ => rfl⟩
   ·refine g_off E rfl rfl rfl hb ?_; clear E; intro a E
    exact ⟨_, _, S, rfl, E.get _ _ rfl, E.defers, fun h => absurd (hb.symm.trans h) (by decide)⟩
  ·intro a w G1 hl S E hp
   obtain ⟨_, eg, rfl⟩ := hp 7 22 _ rfl rfl rfl; replace E := E.add eg
   refine (Bool.eq_false_or_eq_true (decide (((es.getD i ENT0).dom) = d))).elim (fun hb => ?_) (fun hb => ?_)
   ·obtain ⟨_, e11, h11v⟩ := hp 11 26 _ rfl rfl rfl; cases h11v hb; replace E := E.add e11
    refine op_on E rfl rfl hb ?_
    refine o_ldIA E rfl S rfl ((el14.le hl).part 1 3) T.a49 ?_; clear E; intro a E
    exact ⟨_, _, S, rfl, E.get _ _ rfl, E.defers, fun _ => rfl⟩
   ·refine g_off E rfl rfl rfl hb ?_; clear E; intro a E
    exact ⟨_, _, S, rfl, E.get _ _ rfl, E.defers, fun h => absurd (hb.symm.trans h) (by decide)⟩
  ·intro a w G1 hl S E hp
   obtain ⟨_, eg, rfl⟩ := hp 7 22 _ rfl rfl rfl; replace E := E.add eg
   refine (Bool.eq_false_or_eq_true (decide (((es.getD i ENT0).dom) = d))).elim (fun hb => ?_) (fun hb => ?_)
   ·refine op_on E rfl rfl hb ?_
    refine o_ldA E rfl S rfl T.a49 (.there (.here .here)) rfl ?_; clear E; intro a E
    exact ⟨_, _, S, rfl, E.get _ _ rfl, E.defers, fun _ => rfl⟩
   ·refine g_off E rfl rfl rfl hb ?_; clear E; intro a E
    exact ⟨_, _, S, rfl, E.get _ _ rfl, E.defers, fun h => absurd (hb.symm.trans h) (by decide)⟩
  ·intro a w G1 hl S E hp
   obtain ⟨_, eg, rfl⟩ := hp 7 22 _ rfl rfl rfl; replace E := E.add eg
   refine (Bool.eq_false_or_eq_true (decide (((es.getD i ENT0).dom) = d))).elim (fun hb => ?_) (fun hb => ?_)
   ·obtain ⟨_, e12, h12v⟩ := hp 12 27 _ rfl rfl rfl; cases h12v hb; replace E := E.add e12
    obtain ⟨_, e13, h13v⟩ := hp 13 28 _ rfl rfl rfl; cases h13v hb; replace E := E.add e13
    refine op_on E rfl rfl hb ?_
    refine o_eqA (b := decide (((es.getD i ENT0).name.k) = x.k) && (decide (((es.getD i ENT0).name.n) = x.n) && (((es.getD i ENT0).name.s) == x.s && true))) E rfl rfl rfl T.q49 rfl rfl ?_; clear E; intro a E
    exact ⟨_, _, S, rfl, E.get _ _ rfl, E.defers, fun _ => rfl⟩
   ·refine g_off E rfl rfl rfl hb ?_; clear E; intro a E
    exact ⟨_, _, S, rfl, E.get _ _ rfl, E.defers, fun h => absurd (hb.symm.trans h) (by decide)⟩
  ·intro a w G1 hl S E hp
   obtain ⟨_, e7, rfl⟩ := hp 7 22 _ rfl rfl rfl; replace E := E.add e7
   refine (Bool.eq_false_or_eq_true (decide (((es.getD i ENT0).dom) = d))).elim (fun hb => ?_) (fun hb => ?_)
   ·obtain ⟨_, e14, h14v⟩ := hp 14 29 _ rfl rfl rfl; cases h14v hb; replace E := E.add e14
    refine o_pick_t E rfl rfl hb rfl ?_; clear E; intro a E
    exact ⟨_, _, S, rfl, E.get _ _ rfl, E.defers, by rw [hb]; rfl⟩
   ·refine o_pick_f E rfl rfl hb rfl ?_; clear E; intro a E
    exact ⟨_, _, S, rfl, E.get _ _ rfl, E.defers, by rw [hb]; rfl⟩
  clear E S; intro a w S E hp
  obtain ⟨_, e15, rfl⟩ := hp 15 30 _ rfl rfl; replace E := E.add e15
  clear hp
  refine hK12 _ _ ?_; clear hK12
  refine cond E rfl (fun h15r => ?_) (fun h15r => ?_)
  ·have h15 := nm h15r
   refine sr fun K hK => ?_
   refine rn 2 E S ?_; clear E S; intro a w E S
   refine o_ixL E rfl rfl rfl T.l28 ⟨by omega, by omega⟩ ?_; clear E; intro a E
   refine rn 1 E S ?_; clear E S; intro a w E S
   refine o_ldIA E rfl S rfl (el14.part 4 3) T.a49 ?_; clear E; intro a E
   refine rn 2 E S ?_; clear E S; intro a w E S
   apply hK; clear hK K
   refine rt hQ E S ?_
   have hq := h15r
   rw [same_val] at hq
   have he := real_hit (es := es) (d := d) (v := x) (i := i) (by omega) hall (by unfold hitE; simpa using hq)
   show _ = _
   rw [he]
   rfl
  ·have h15 := nm h15r
   refine wp_skip ?_
   refine hK10 _ _ ?_; clear hK10
   refine wp_region_lit ?_
   refine rn 3 E S ?_; clear E S; intro a w E S
   have hq := h15r
   rw [same_val] at hq
   have hall2 : ∀ j, j < i + 1 → hitE es d x j = false := by
    intro j hj
    rcases Nat.lt_or_ge j i with h_9 | h_9
    ·exact hall j h_9
    ·obtain rfl : j = i := by omega
     unfold hitE; simpa using hq
   exact ⟨i + 1, ⟨S, E.cut ⟨rfl, rfl, rfl, rfl, rfl, rfl, trivial⟩, ⟨by omega, hall2⟩⟩, by omega⟩
 ·have h9 := nm h9r
  refine wp_exit ?_
  refine hK2 _ _ ?_; clear hK2
  refine sr fun K hK => ?_
  refine o_build (cs := #[.int .i64 0, .int .i64 0, str []]) E rfl rfl (by kernel_rfl) ?_; clear E; intro a E
  refine rn 2 E S ?_; clear E S; intro a w E S
  apply hK; clear hK K
  refine rt hQ E S ?_
  have he := real_miss (es := es) (d := d) (v := x) (fun j hj => hall j (by omega))
  show _ = _
  rw [he]
  rfl

/-! `incognito/book.name` -/
theorem c_bookname (x : Val) (w0 : World) (G : Heap) (hG : Sub G w0) (hg0 : CellsAt G 0 0 [.int .i64 3, .int .i64 1, str []]) (hg1 : CellsAt G 1 0 [.int .i64 3, .int .i64 0, str []]) (hv : x.Wf):
  Calls Tryd.prog 51 #[.agg #[.int .i64 x.k, .int .i64 x.n, str x.s]] w0 (Ret w0 G (fun v _ => v = .bool (nameB x))) := by
 refine enter Tryd.func51 rfl Tryd.ntmps51 rfl ?_
 intro Q hQ a E
 have S := St.start0 hG
 refine sr fun K hK => ?_
 refine o_bx3 E rfl S rfl ?_; clear E S; intro B1 w a S E
 refine rn 1 E S ?_; clear E S; intro a w E S
 apply hK; clear hK K
 refine sr fun K hK => ?_
 refine rn 1 E S ?_; clear E S; intro a w E S
 refine o_callP E rfl S rfl rfl T.g63 (c_right7 x _ _ S.sub hg0 hg1 (by first | assumption | exact hv | (constructor <;> first | assumption | (simp only [I64]; omega) | (simp; omega)))) ?_
 clear E S; rintro _ w a S rfl E
 refine rn 1 E S ?_; clear E S; intro a w E S
 refine cutG 9 14 (.bool ((rightV x) && ((decide (x.k = 1)) || (decide (x.k = 2))))) E S ?_ ?_
 ·refine bsp E (t := 5) rfl (fun hb2 => ?_) (fun hb2 => ?_)
  ·have hk3 := nm hb2
   refine rn 4 E S ?_; clear E S; intro a w E S
   refine cutG 4 13 (.bool ((decide (x.k = 1)) || (decide (x.k = 2)))) E S ?_ ?_
   ·refine bsp E (t := 9) rfl (fun hb4 => ?_) (fun hb4 => ?_)
    ·refine rn 4 E S ?_; clear E S; intro a w E S
     exact ⟨S, E.cutT (by rw [hb4] <;> rfl)⟩
    ·have hk5 := nm hb4
     refine rn 4 E S ?_; clear E S; intro a w E S
     exact ⟨S, E.cutT (by rw [hb4] <;> rfl)⟩
   clear E S; intro a w E S
   refine rn 1 E S ?_; clear E S; intro a w E S
   exact ⟨S, E.cutT (by rw [hb2] <;> rfl)⟩
  ·refine rn 9 E S ?_; clear E S; intro a w E S
   exact ⟨S, E.cutT (by rw [hb2] <;> rfl)⟩
 clear E S; intro a w E S
 refine rn 1 E S ?_; clear E S; intro a w E S
 apply hK; clear hK K
 refine rt hQ E S ?_
 show _ = _
 simp only [packed, Value.bool.injEq]
 unfold nameB
 rfl

/-! `incognito/incognitoref29.plain` -/
theorem c_plain29 (s : Bs) (w0 : World) (G : Heap) (hG : Sub G w0) (hs : s.length ≤ 9223372036854775807):
  Calls Tryd.prog 25 #[str s] w0 (Ret w0 G (fun v _ => v = .bool (plainB s))) := by
 refine enter Tryd.func25 rfl Tryd.ntmps25 rfl ?_
 intro Q hQ a E
 have S := St.start0 hG
 refine sr fun K hK => ?_
 refine rn 1 E S ?_; clear E S; intro a w E S
 apply hK; clear hK K
 refine wp_seq_k (fun K3 hK2 => ?_)
 refine sr fun K hK => ?_
 refine rn 1 E S ?_; clear E S; intro a w E S
 apply hK; clear hK K
 refine wp_block ?_
 refine loop (fun (i : Nat) a' w' => St w0 G [] G w' [] ∧ Env a' 17 [] [(0, str s), (2, .bool false), (3, .int .i64 (i : Int))] ∧ (∃ hi : i ≤ s.length, ∀ j (hj : j < i), ¬ s[j]'(by omega) = 10)) (fun (i : Nat) => s.length - i) 0 ⟨S, E.cut ⟨rfl, rfl, rfl, trivial⟩, ⟨Nat.zero_le _, fun j hj => absurd hj (Nat.not_lt_zero _)⟩⟩ ?_
 clear E S; intro i a w ⟨S, E, ⟨hi, ha⟩⟩
 refine wp_seq_k (fun K7 hK6 => ?_)
 refine sr fun K hK => ?_
 refine rn 4 E S ?_; clear E S; intro a w E S
 apply hK; clear hK K
 refine cond E rfl (fun h9r => ?_) (fun h9r => ?_)
 ·have h9 := nm h9r
  refine wp_skip ?_
  refine hK6 _ _ ?_; clear hK6
  refine wp_seq_k (fun K11 hK10 => ?_)
  refine wp_block ?_
  refine sr fun K hK => ?_
  refine rn 2 E S ?_; clear E S; intro a w E S
  refine o_index E rfl rfl rfl Tryd.underlying9 (by omega) ?_; clear E; intro a E
  refine rn 1 E S ?_; clear E S; intro a w E S
  apply hK; clear hK K
  refine cond E rfl (fun h13r => ?_) (fun h13r => ?_)
  ·have h13 := nm h13r
   refine sr fun K hK => ?_
   refine rn 1 E S ?_; clear E S; intro a w E S
   apply hK; clear hK K
   refine rt hQ E S ?_
   have hb := bAt8 (c := 10) (n := i) (s := s) (by omega) (by simpa using h13)
   have he : plainB s = false := by unfold plainB; rw [nl_yes (by omega) hb]; rfl
   show _ = _
   rw [he]
   rfl
  ·have h13 := nm h13r
   refine wp_skip ?_
   refine hK10 _ _ ?_; clear hK10
   refine wp_region_lit ?_
   refine rn 3 E S ?_; clear E S; intro a w E S
   have hb := bNo8 (c := 10) (n := i) (s := s) (by omega) (by simpa using h13)
   have ha2 : ∀ j (hj : j < i + 1), ¬ s[j]'(by omega) = 10 := by
    intro j hj
    rcases Nat.lt_or_ge j i with h_9 | h_9
    ·exact ha j h_9
    ·obtain rfl : j = i := by omega
     exact hb
   exact ⟨i + 1, ⟨S, E.cut ⟨rfl, rfl, rfl, trivial⟩, ⟨by omega, ha2⟩⟩, by omega⟩
 ·have h9 := nm h9r
  refine wp_exit ?_
  refine hK2 _ _ ?_; clear hK2
  refine sr fun K hK => ?_
  refine rn 4 E S ?_; clear E S; intro a w E S
  apply hK; clear hK K
  refine rt hQ E S ?_
  have he : plainB s = decide ((s.length : Int) ≤ 100) := by unfold plainB; rw [nl_no fun j hj => ha j (by omega)]; rfl
  show _ = _
  rw [he]
  rfl

/-! `incognito/incognitoref11.Great` -/
theorem c_Great11 (xs : List Evt) (A : Option Addr) (c : Nat) (m : Int) (w0 : World) (G : Heap) (hG : Sub G w0) (hR : Rd kEvt G A xs) (hl : xs.length ≤ 9223372036854775807) (hw : ∀ x ∈ xs, x.Wf):
  Calls Tryd.prog 5 #[.slice A xs.length c, .int .i64 m] w0 (Ret w0 G (fun v _ => v = .bool (greatH xs m))) := by
 refine enter Tryd.func5 rfl Tryd.ntmps5 rfl ?_
 intro Q hQ a E
 have S := St.start0 hG
 refine sr fun K hK => ?_
 refine rn 1 E S ?_; clear E S; intro a w E S
 apply hK; clear hK K
 refine wp_seq_k (fun K3 hK2 => ?_)
 refine sr fun K hK => ?_
 refine rn 4 E S ?_; clear E S; intro a w E S
 apply hK; clear hK K
 refine cond E rfl (fun h5r => ?_) (fun h5r => ?_)
 ·have h5 := nm h5r
  refine sr fun K hK => ?_
  refine rn 1 E S ?_; clear E S; intro a w E S
  apply hK; clear hK K
  refine rt hQ E S ?_
  show _ = _
  simp only [packed, Value.bool.injEq]
  unfold greatH
  rw [decide_eq_true (by omega)]
  rfl
 ·have h5 := nm h5r
  refine wp_skip ?_
  refine hK2 _ _ ?_; clear hK2
  refine wp_seq_k (fun K8 hK7 => ?_)
  refine sr fun K hK => ?_
  refine rn 1 E S ?_; clear E S; intro a w E S
  apply hK; clear hK K
  refine wp_block ?_
  refine loop (fun (i : Nat) a' w' => St w0 G [] G w' [] ∧ Env a' 21 [] [(0, .slice A xs.length c), (4, .bool false), (5, .int .i64 (i : Int))] ∧ (i ≤ xs.length ∧ xs.any greatE = (xs.drop i).any greatE)) (fun (i : Nat) => xs.length - i) 0 ⟨S, E.cut ⟨rfl, rfl, rfl, trivial⟩, ⟨Nat.zero_le _, rfl⟩⟩ ?_
  clear E S; intro i a w ⟨S, E, ⟨hi, hfi⟩⟩
  refine wp_seq_k (fun K12 hK11 => ?_)
  refine sr fun K hK => ?_
  refine rn 4 E S ?_; clear E S; intro a w E S
  apply hK; clear hK K
  refine cond E rfl (fun h14r => ?_) (fun h14r => ?_)
  ·have h14 := nm h14r
   refine wp_skip ?_
   refine hK11 _ _ ?_; clear hK11
   refine wp_seq_k (fun K16 hK15 => ?_)
   refine wp_block ?_
   refine sr fun K hK => ?_
   refine rn 2 E S ?_; clear E S; intro a w E S
   have hi17 : (i : Int).toNat < xs.length := by omega
   obtain ⟨eb17, eo17, hA17, el17⟩ := Rd.at hR (List.getElem?_eq_getElem hi17); cases hA17
   rw [show xs[(i : Int).toNat] = (xs.getD i E0) from getD_get (i := i) hi17 _] at el17
   obtain ⟨A1_17, c1_17, A2_17, c2_17, el17, ha1_17, hr1_17, ha2_17, hr2_17⟩ := kEvt_open el17
   refine o_ixL E rfl rfl rfl T.l22 ⟨by omega, by omega⟩ ?_; clear E; intro a E
   have hwe : (xs.getD i E0).Wf := hw _ (evm (h := xs) (i := i) (by omega))
   refine o_ldIA E rfl S rfl el17 T.a52 ?_; clear E; intro a E
   refine o_callP E rfl S rfl rfl T.g13 (c_Great (xs.getD i E0) _ _ _ _ _ _ S.sub hr1_17 hr2_17 (by first | assumption | exact hwe)) ?_
   clear E S; rintro _ w a S rfl E
   apply hK; clear hK K
   refine cond E rfl (fun h19r => ?_) (fun h19r => ?_)
   ·have h19 := nm h19r
    refine sr fun K hK => ?_
    refine rn 1 E S ?_; clear E S; intro a w E S
    apply hK; clear hK K
    refine rt hQ E S ?_
    show _ = _
    simp only [packed, Value.bool.injEq]
    unfold greatH
    rw [decide_eq_false (by omega), Bool.false_or, hfi, any_drop (d := E0) (by omega), show greatE _ = true from by simpa using h19]
    simp
   ·have h19 := nm h19r
    refine wp_skip ?_
    refine hK15 _ _ ?_; clear hK15
    refine wp_region_lit ?_
    refine rn 3 E S ?_; clear E S; intro a w E S
    have hst := hfi
    rw [any_drop (d := E0) (by omega), show greatE _ = false from by simpa using h19, Bool.false_or] at hst
    exact ⟨i + 1, ⟨S, E.cut ⟨rfl, rfl, rfl, trivial⟩, ⟨by omega, hst⟩⟩, by omega⟩
  ·have h14 := nm h14r
   refine wp_exit ?_
   refine hK7 _ _ ?_; clear hK7
   refine sr fun K hK => ?_
   refine rn 1 E S ?_; clear E S; intro a w E S
   apply hK; clear hK K
   refine rt hQ E S ?_
   show _ = _
   simp only [packed, Value.bool.injEq]
   unfold greatH
   rw [decide_eq_false (by omega), Bool.false_or, hfi, any_end (by omega)]

/-! `incognito/incognitoref30.time` -/
theorem c_time30 (b : Book) (Ae : Option Addr) (ce : Nat) (Am : Option Addr) (cm : Nat) (Ar : Option Addr) (cr : Nat) (r : Int) (w0 : World) (G : Heap) (hG : Sub G w0) (hRe : Rd kEnt G Ae b.es) (hRm : Rd kMom G Am b.ms) (hRr : Rd kRem G Ar b.rs) (hle : b.es.length ≤ 1000000000) (hlm : b.ms.length ≤ 9223372036854775807) (hlr : b.rs.length ≤ 9223372036854775807):
  Calls Tryd.prog 26 #[.agg #[.int .i64 b.pol.r0.way, .int .i64 b.pol.r0.size, .int .i64 b.pol.r1.way, .int .i64 b.pol.r1.size, .int .i64 b.pol.r2.way, .int .i64 b.pol.r2.size, .int .i64 b.pol.r3.way, .int .i64 b.pol.r3.size, .int .i64 b.pol.r4.way, .int .i64 b.pol.r4.size, .int .i64 b.pol.time, .int .i64 b.pol.note, .bool b.pol.loose, .bool b.pol.force, .slice Ae b.es.length ce, .slice Am b.ms.length cm, .slice Ar b.rs.length cr], .int .i64 r] w0 (Ret w0 G (fun v _ => v = .tuple #[.int .i64 (timeS b r).1, .bool (timeS b r).2])) := by
 refine enter Tryd.func26 rfl Tryd.ntmps26 rfl ?_
 intro Q hQ a E
 have S := St.start0 hG
 refine sr fun K hK => ?_
 refine o_boxL [(0, _), (1, _), (2, _), (3, _), (4, _), (5, _), (6, _), (7, _), (8, _), (9, _), (10, _), (11, _), (12, _), (13, _), (14, _), (15, _), (16, _)] E rfl S rfl ⟨rfl, rfl, rfl, rfl, rfl, rfl, rfl, rfl, rfl, rfl, rfl, rfl, rfl, rfl, rfl, rfl, rfl, trivial⟩ ?_; clear E S; intro B2 w a S E
 refine rn 2 E S ?_; clear E S; intro a w E S
 apply hK; clear hK K
 refine wp_seq_k (fun K3 hK2 => ?_)
 refine sr fun K hK => ?_
 refine rn 4 E S ?_; clear E S; intro a w E S
 apply hK; clear hK K
 refine cond E rfl (fun h5r => ?_) (fun h5r => ?_)
 ·have h5 := nm h5r
  refine sr fun K hK => ?_
  refine rn 3 E S ?_; clear E S; intro a w E S
  apply hK; clear hK K
  refine rt hQ E S ?_
  have he : timeS b r = (r, true) := by unfold timeS; rw [if_neg (by simpa using h5)]
  show _ = _
  rw [he]
  rfl
 ·have h5 := nm h5r
  refine wp_skip ?_
  refine hK2 _ _ ?_; clear hK2
  refine wp_seq_k (fun K8 hK7 => ?_)
  refine sr fun K hK => ?_
  refine rn 1 E S ?_; clear E S; intro a w E S
  apply hK; clear hK K
  refine wp_block ?_
  refine loop (fun (i : Nat) a' w' => St w0 G [] G w' [[(B2, Cells 32 (PC b [(14, .slice Ae b.es.length ce), (15, .slice Am b.ms.length cm), (16, .slice Ar b.rs.length cr)]))]] ∧ Env a' 33 [] [(1, .int .i64 r), (2, .pointer (some ⟨B2, 0, none⟩)), (4, .int .i64 0), (5, .bool false), (6, .int .i64 (i : Int))] ∧ (i ≤ b.ms.length ∧ ∀ j, j < i → ¬ (b.ms.getD j MOM0).rank = r)) (fun (i : Nat) => b.ms.length - i) 0 ⟨S, E.cut ⟨rfl, rfl, rfl, rfl, rfl, trivial⟩, ⟨Nat.zero_le _, fun j hj => absurd hj (Nat.not_lt_zero _)⟩⟩ ?_
  clear E S; intro i a w ⟨S, E, ⟨hi, hall⟩⟩
  refine wp_seq_k (fun K12 hK11 => ?_)
  refine sr fun K hK => ?_
  refine rn 5 E S ?_; clear E S; intro a w E S
  apply hK; clear hK K
  refine cond E rfl (fun h14r => ?_) (fun h14r => ?_)
  ·have h14 := nm h14r
   refine wp_skip ?_
   refine hK11 _ _ ?_; clear hK11
   refine wp_seq_k (fun K16 hK15 => ?_)
   refine wp_block ?_
   refine sr fun K hK => ?_
   refine rn 3 E S ?_; clear E S; intro a w E S
   have hi17 : (i : Int).toNat < b.ms.length := by omega
   obtain ⟨eb17, eo17, hA17, el17⟩ := Rd.at hRm (List.getElem?_eq_getElem hi17); cases hA17
   rw [show b.ms[(i : Int).toNat] = (b.ms.getD i MOM0) from getD_get (i := i) hi17 _] at el17
   have el17 := kMom_open el17
   refine o_ixL E rfl rfl rfl T.l29 ⟨by omega, by omega⟩ ?_; clear E; intro a E
   refine rn 1 E S ?_; clear E S; intro a w E S
   refine o_ldI E rfl S rfl T.s2 el17 (j := 0) rfl rfl ?_; clear E; intro a E
   refine rn 2 E S ?_; clear E S; intro a w E S
   apply hK; clear hK K
   refine cond E rfl (fun h19r => ?_) (fun h19r => ?_)
   ·have h19 := nm h19r
    refine sr fun K hK => ?_
    refine rn 3 E S ?_; clear E S; intro a w E S
    refine o_ixL E rfl rfl rfl T.l29 ⟨by omega, by omega⟩ ?_; clear E; intro a E
    refine rn 1 E S ?_; clear E S; intro a w E S
    refine o_ldI E rfl S rfl T.s2 el17 (j := 1) rfl rfl ?_; clear E; intro a E
    refine rn 2 E S ?_; clear E S; intro a w E S
    apply hK; clear hK K
    refine rt hQ E S ?_
    have he : timeS b r = ((b.ms.getD i MOM0).time, true) := by unfold timeS timeM; rw [if_pos (by simpa using h5), timeI_hit (by omega) hall (by simpa using h19)]
    show _ = _
    rw [he]
    rfl
   ·have h19 := nm h19r
    refine wp_skip ?_
    refine hK15 _ _ ?_; clear hK15
    refine wp_region_lit ?_
    refine rn 3 E S ?_; clear E S; intro a w E S
    have hall2 : ∀ j, j < i + 1 → ¬ (b.ms.getD j MOM0).rank = r := by
     intro j hj
     rcases Nat.lt_or_ge j i with h_9 | h_9
     ·exact hall j h_9
     ·obtain rfl : j = i := by omega
      simpa using h19
    exact ⟨i + 1, ⟨S, E.cut ⟨rfl, rfl, rfl, rfl, rfl, trivial⟩, ⟨by omega, hall2⟩⟩, by omega⟩
  ·have h14 := nm h14r
   refine wp_exit ?_
   refine hK7 _ _ ?_; clear hK7
   refine sr fun K hK => ?_
   refine rn 2 E S ?_; clear E S; intro a w E S
   apply hK; clear hK K
   refine rt hQ E S ?_
   have he : timeS b r = (0, false) := by unfold timeS timeM; rw [if_pos (by simpa using h5), timeI_miss (fun j hj => hall j (by omega))]
   show _ = _
   rw [he]
   rfl
end Go.Proofs.YtnfadpkhjfillaaDoor.T28
