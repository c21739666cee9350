/- Own text. -/
import Derived.Test.YtnfadpkhjfillaaDoorU10
set_option linter.unusedVariables false
set_option linter.unusedSimpArgs false
set_option maxRecDepth 100000
set_option maxHeartbeats 4000000
namespace Go.Proofs.YtnfadpkhjfillaaDoor.T28
open Go Go.Proofs.YtnfadpkhjfillaaDoor.X
theorem T.k108 : Go.Maps.Keyed Tryd.prog 108 := keyedS T.laidOut (of_decide_eq_true (by kernel_rfl)) (by kernel_rfl) (by kernel_rfl)
theorem T.K108 : isDValKey Tryd.prog 108 = true := by kernel_rfl
instance : LZ Tryd.prog 108 [(0, .int .i64 0), (1, .int .i64 0), (2, .int .i64 0), (3, str [])] := ⟨⟨.agg #[.int .i64 0, .int .i64 0, .int .i64 0, str []], by kernel_rfl, ⟨rfl, rfl, rfl, rfl, trivial⟩⟩⟩
theorem T.a108 : aggSz Tryd.prog 108 = some 4 := by kernel_rfl
instance : AG Tryd.prog 108 4 := ⟨T.a108⟩
theorem T.g51 : goFn Tryd.prog 51 = true := by kernel_rfl

/-! Books that are right. -/
def ENTd (b : Book) (i : Nat) : Ent := b.es.getD i ENT0
def headB (b : Book) (x : Ent) : Bool := (((decide (x.dom < 0) || decide (4 < x.dom)) || decide (wayP b.pol x.dom = 0)) || !nameB x.name) || !nameB x.real
def pairB (y x : Ent) : Bool := decide (x.dom < y.dom) || (decide (y.dom = x.dom) && (decide (y.name = x.name) || decide (y.real = x.real)))
def entOk (b : Book) (i : Nat) : Bool := !headB b (ENTd b i) && (List.range i).all fun k => !pairB (ENTd b k) (ENTd b i)
def enteredB (b : Book) : Bool := (List.range b.es.length).all (entOk b)
def momOk (b : Book) (i : Nat) : Bool := !((!decide ((b.ms.getD i MOM0).rank = ((i : Nat) : Int) + 1) || decide ((b.ms.getD i MOM0).time < 0)) || (decide (0 < ((i : Nat) : Int)) && decide ((b.ms.getD i MOM0).time ≤ (b.ms.getD (((i : Nat) : Int) - 1).toNat MOM0).time)))
def remOk (b : Book) (i : Nat) : Bool := !(((decide ((b.rs.getD i REM0).ev < 1) || decide (4096 < (b.rs.getD i REM0).ev)) || (decide (0 < ((i : Nat) : Int)) && decide ((b.rs.getD i REM0).ev ≤ (b.rs.getD (((i : Nat) : Int) - 1).toNat REM0).ev))) || !plainB (b.rs.getD i REM0).note)
def momsB (b : Book) : Bool := (decide (b.ms.length = 0) || decide (b.pol.time = 3)) && (List.range b.ms.length).all (momOk b)
def remsB (b : Book) : Bool := (decide (b.rs.length = 0) || decide (b.pol.note = 4)) && (List.range b.rs.length).all (remOk b)
def bookB (b : Book) : Bool := rightB b.pol && enteredB b && momsB b && remsB b
theorem rall_no {n i : Nat} {f : Nat → Bool} (hi : i < n) (h : f i = false) : (List.range n).all f = false := by
  cases e : (List.range n).all f with
  | false => rfl
  | true => rw [List.all_eq_true.1 e i (List.mem_range.2 hi)] at h; cases h
theorem rall_yes {n : Nat} {f : Nat → Bool} (h : ∀ i, i < n → f i = true) : (List.range n).all f = true := List.all_eq_true.2 fun i hi => h i (List.mem_range.1 hi)
theorem book_r {b : Book} (h : rightB b.pol = false) : bookB b = false := by unfold bookB; rw [h]; rfl
theorem book_e {b : Book} (h : enteredB b = false) : bookB b = false := by unfold bookB; rw [h, Bool.and_false]; rfl
theorem book_m {b : Book} (h : momsB b = false) : bookB b = false := by unfold bookB; rw [h, Bool.and_false]; rfl
theorem book_n {b : Book} (h : remsB b = false) : bookB b = false := by unfold bookB; rw [h, Bool.and_false]
theorem book_yes {b : Book} (h1 : rightB b.pol = true) (h2 : enteredB b = true) (h3 : momsB b = true) (h4 : remsB b = true) : bookB b = true := by unfold bookB; rw [h1, h2, h3, h4]; rfl
theorem moms_time {b : Book} (h1 : 0 < b.ms.length) (h2 : ¬ b.pol.time = 3) : momsB b = false := by unfold momsB; rw [decide_eq_false (by omega), decide_eq_false h2]; rfl
theorem rems_note {b : Book} (h1 : 0 < b.rs.length) (h2 : ¬ b.pol.note = 4) : remsB b = false := by unfold remsB; rw [decide_eq_false (by omega), decide_eq_false h2]; rfl
theorem moms_bad {b : Book} {i : Nat} (hi : i < b.ms.length) (h : momOk b i = false) : momsB b = false := by unfold momsB; rw [rall_no hi h, Bool.and_false]
theorem rems_bad {b : Book} {i : Nat} (hi : i < b.rs.length) (h : remOk b i = false) : remsB b = false := by unfold remsB; rw [rall_no hi h, Bool.and_false]
theorem moms_yes {b : Book} (h1 : b.ms.length = 0 ∨ b.pol.time = 3) (h : ∀ i, i < b.ms.length → momOk b i = true) : momsB b = true := by
  unfold momsB
  rw [rall_yes h, Bool.and_true, Bool.or_eq_true, decide_eq_true_eq, decide_eq_true_eq]
  exact h1
theorem rems_yes {b : Book} (h1 : b.rs.length = 0 ∨ b.pol.note = 4) (h : ∀ i, i < b.rs.length → remOk b i = true) : remsB b = true := by
  unfold remsB
  rw [rall_yes h, Bool.and_true, Bool.or_eq_true, decide_eq_true_eq, decide_eq_true_eq]
  exact h1
theorem ent_bad {b : Book} {i : Nat} (hi : i < b.es.length) (h : entOk b i = false) : enteredB b = false := rall_no hi h
theorem ent_head {b : Book} {i : Nat} (h : headB b (ENTd b i) = true) : entOk b i = false := by unfold entOk; rw [h]; rfl
theorem ent_pair {b : Book} {i k : Nat} (hk : k < i) (h : pairB (ENTd b k) (ENTd b i) = true) : entOk b i = false := by
  unfold entOk
  rw [rall_no hk (by rw [h]; rfl), Bool.and_false]
theorem ent_yes {b : Book} {i : Nat} (h : headB b (ENTd b i) = false) (h2 : ∀ k, k < i → pairB (ENTd b k) (ENTd b i) = false) : entOk b i = true := by
  unfold entOk
  rw [h, rall_yes fun k hk => by rw [h2 k hk]; rfl]
  rfl
/-! The program's way: maps, and the domain before. -/
def posM (k : Nat → DVal) : Nat → DVal → Option Int
  | 0 => fun _ => none
  | n + 1 => upd (posM k n) (k n) (some (((n : Nat) : Int) + 1))
theorem posM_get (k : Nat → DVal) (y : DVal) : ∀ n, 0 ≤ (posM k n y).getD 0 ∧ (posM k n y).getD 0 ≤ ((n : Nat) : Int) ∧ (0 < (posM k n y).getD 0 ↔ ∃ j, j < n ∧ k j = y)
  | 0 => ⟨Int.le_refl _, Int.le_refl _, fun h => absurd (show (0 : Int) < 0 from h) (by decide), fun ⟨j, hj, _⟩ => absurd hj (Nat.not_lt_zero _)⟩
  | n + 1 => by
    obtain ⟨h1, h2, h3⟩ := posM_get k y n
    show 0 ≤ (upd (posM k n) (k n) (some (((n : Nat) : Int) + 1)) y).getD 0 ∧ (upd (posM k n) (k n) (some (((n : Nat) : Int) + 1)) y).getD 0 ≤ _ ∧ (0 < (upd (posM k n) (k n) (some (((n : Nat) : Int) + 1)) y).getD 0 ↔ _)
    by_cases e : y = k n
    · rw [e, upd_same]
      refine ⟨by simp only [Option.getD_some]; omega, by simp only [Option.getD_some]; omega, fun _ => ⟨n, by omega, rfl⟩, fun _ => by simp only [Option.getD_some]; omega⟩
    · rw [upd_other e]
      refine ⟨h1, by omega, fun h => ?_, fun ⟨j, hj, hk⟩ => ?_⟩
      · obtain ⟨j, hj, hk⟩ := h3.1 h
        exact ⟨j, by omega, hk⟩
      · refine h3.2 ⟨j, ?_, hk⟩
        rcases Nat.lt_or_ge j n with h | h
        · exact h
        · obtain rfl : j = n := by omega
          exact absurd hk.symm e
def kN (b : Book) (j : Nat) : DVal := ⟨(b.es.getD j ENT0).dom, (b.es.getD j ENT0).name⟩
def kR (b : Book) (j : Nat) : DVal := ⟨(b.es.getD j ENT0).dom, (b.es.getD j ENT0).real⟩
def lastD (b : Book) : Nat → Int
  | 0 => 0
  | n + 1 => (b.es.getD n ENT0).dom
theorem ent_dom {b : Book} {i : Nat} (h : entOk b i = true) : 0 ≤ (b.es.getD i ENT0).dom ∧ (b.es.getD i ENT0).dom ≤ 4 := by
  unfold entOk headB at h
  simp only [Bool.and_eq_true, Bool.not_eq_true', Bool.or_eq_false_iff, decide_eq_false_iff_not] at h
  have h1 := h.1.1.1.1
  unfold ENTd at h1
  omega
theorem last_nn {b : Book} {i : Nat} (h : ∀ j, j < i → entOk b j = true) : 0 ≤ lastD b i := by
  cases i with
  | zero => exact Int.le_refl _
  | succ n => exact (ent_dom (h n (by omega))).1
theorem last_le {b : Book} {i : Nat} (h : ∀ j, j < i → entOk b j = true) : ∀ k, k < i → (b.es.getD k ENT0).dom ≤ lastD b i := by
  intro k hk
  cases i with
  | zero => omega
  | succ n =>
    rcases Nat.lt_or_ge k n with h1 | h1
    · have := h n (by omega)
      unfold entOk at this
      rw [Bool.and_eq_true] at this
      have := List.all_eq_true.1 this.2 k (List.mem_range.2 h1)
      unfold pairB ENTd at this
      rw [Bool.not_eq_true', Bool.or_eq_false_iff, decide_eq_false_iff_not] at this
      show _ ≤ (b.es.getD n ENT0).dom
      omega
    · obtain rfl : k = n := by omega
      exact Int.le_refl _
def oddB (b : Book) (i : Nat) : Bool := ((((decide ((b.es.getD i ENT0).dom < lastD b i) || decide (4 < (b.es.getD i ENT0).dom)) || decide (wayP b.pol (b.es.getD i ENT0).dom = 0)) || !nameB (b.es.getD i ENT0).name) || !nameB (b.es.getD i ENT0).real)
theorem odd_bad {b : Book} {i : Nat} (ha : ∀ j, j < i → entOk b j = true) (h : oddB b i = true) : entOk b i = false := by
  by_cases hl : (b.es.getD i ENT0).dom < lastD b i
  · cases i with
    | zero =>
      refine ent_head ?_
      unfold headB ENTd
      have : (b.es.getD 0 ENT0).dom < 0 := hl
      rw [decide_eq_true this]
      rfl
    | succ n =>
      refine ent_pair (k := n) (by omega) ?_
      unfold pairB ENTd
      have : (b.es.getD (n + 1) ENT0).dom < (b.es.getD n ENT0).dom := hl
      rw [decide_eq_true this]
      rfl
  · refine ent_head ?_
    unfold oddB at h
    rw [decide_eq_false hl, Bool.false_or] at h
    unfold headB ENTd
    cases decide ((b.es.getD i ENT0).dom < 0)
    · rw [Bool.false_or]; exact h
    · rfl
theorem even_ok {b : Book} {i : Nat} (ha : ∀ j, j < i → entOk b j = true) (h : oddB b i = false) (h1 : ¬ 0 < (posM (kN b) i (kN b i)).getD 0 + (posM (kR b) i (kR b i)).getD 0) : entOk b i = true := by
  obtain ⟨a1, a2, a3⟩ := posM_get (kN b) (kN b i) i
  obtain ⟨b1, b2, b3⟩ := posM_get (kR b) (kR b i) i
  unfold oddB at h
  simp only [Bool.or_eq_false_iff, decide_eq_false_iff_not] at h
  obtain ⟨⟨⟨⟨o1, o2⟩, o3⟩, o4⟩, o5⟩ := h
  have hl := last_nn ha
  refine ent_yes ?_ fun k hk => ?_
  · unfold headB ENTd
    rw [decide_eq_false (by omega), decide_eq_false o2, decide_eq_false o3, o4, o5]
    rfl
  · have h9 := last_le ha k hk
    unfold pairB ENTd
    rw [Bool.or_eq_false_iff, decide_eq_false_iff_not]
    refine ⟨by omega, ?_⟩
    cases e : (decide ((b.es.getD k ENT0).dom = (b.es.getD i ENT0).dom) && (decide ((b.es.getD k ENT0).name = (b.es.getD i ENT0).name) || decide ((b.es.getD k ENT0).real = (b.es.getD i ENT0).real))) with
    | false => rfl
    | true =>
      exfalso
      simp only [Bool.and_eq_true, Bool.or_eq_true, decide_eq_true_eq] at e
      rcases e.2 with e2 | e2
      · have := a3.2 ⟨k, hk, by unfold kN; rw [e.1, e2]⟩
        omega
      · have := b3.2 ⟨k, hk, by unfold kR; rw [e.1, e2]⟩
        omega
theorem met_bad {b : Book} {i : Nat} (h1 : 0 < (posM (kN b) i (kN b i)).getD 0 + (posM (kR b) i (kR b i)).getD 0) : entOk b i = false := by
  obtain ⟨a1, a2, a3⟩ := posM_get (kN b) (kN b i) i
  obtain ⟨b1, b2, b3⟩ := posM_get (kR b) (kR b i) i
  have h : 0 < (posM (kN b) i (kN b i)).getD 0 ∨ 0 < (posM (kR b) i (kR b i)).getD 0 := by omega
  rcases h with h | h
  · obtain ⟨j, hj, e⟩ := a3.1 h
    unfold kN at e
    injection e with e1 e2
    refine ent_pair hj ?_
    unfold pairB ENTd
    rw [e1, e2]
    simp
  · obtain ⟨j, hj, e⟩ := b3.1 h
    unfold kR at e
    injection e with e1 e2
    refine ent_pair hj ?_
    unfold pairB ENTd
    rw [e1, e2]
    simp
theorem entm {b : Book} {i : Nat} (hi : i < b.es.length) : b.es.getD i ENT0 ∈ b.es := by
  rw [List.getD_eq_getElem?_getD, List.getElem?_eq_getElem hi]
  exact List.getElem_mem hi
/-! `incognito/book.entered` -/
theorem c_entered (b : Book) (Ae : Option Addr) (ce : Nat) (Am : Option Addr) (cm : Nat) (Ar : Option Addr) (cr : Nat) (w0 : World) (G : Heap) (hG : Sub G w0) (hg0 : CellsAt G 0 0 [.int .i64 3, .int .i64 1, str []]) (hg1 : CellsAt G 1 0 [.int .i64 3, .int .i64 0, str []]) (hRe : Rd kEnt G Ae b.es) (hRm : Rd kMom G Am b.ms) (hRr : Rd kRem G Ar b.rs) (hle : b.es.length ≤ 1000000000) (hlm : b.ms.length ≤ 9223372036854775807) (hlr : b.rs.length ≤ 9223372036854775807) (hew : ∀ x ∈ b.es, I64 x.dom ∧ x.name.Wf ∧ x.real.Wf):
  Calls Tryd.prog 33 #[.agg #[.int .i64 b.pol.r0.way, .int .i64 b.pol.r0.size, .int .i64 b.pol.r1.way, .int .i64 b.pol.r1.size, .int .i64 b.pol.r2.way, .int .i64 b.pol.r2.size, .int .i64 b.pol.r3.way, .int .i64 b.pol.r3.size, .int .i64 b.pol.r4.way, .int .i64 b.pol.r4.size, .int .i64 b.pol.time, .int .i64 b.pol.note, .bool b.pol.loose, .bool b.pol.force, .slice Ae b.es.length ce, .slice Am b.ms.length cm, .slice Ar b.rs.length cr]] w0 (Ret w0 G (fun v _ => v = .bool (enteredB b))) := by
 refine enter Tryd.func33 rfl Tryd.ntmps33 rfl ?_
 intro Q hQ a E
 have S := St.start0 hG
 refine sr fun K hK => ?_
 refine o_boxL [(0, _), (1, _), (2, _), (3, _), (4, _), (5, _), (6, _), (7, _), (8, _), (9, _), (10, _), (11, _), (12, _), (13, _), (14, _), (15, _), (16, _)] E rfl S rfl ⟨rfl, rfl, rfl, rfl, rfl, rfl, rfl, rfl, rfl, rfl, rfl, rfl, rfl, rfl, rfl, rfl, rfl, trivial⟩ ?_; clear E S; intro B1 w a S E
 refine rn 1 E S ?_; clear E S; intro a w E S
 apply hK; clear hK K
 refine sr fun K hK => ?_
 refine o_makeMap 108 kvD vvI E rfl S ?_; clear E S; intro B10 w a S E
 refine o_makeMap 108 kvD vvI E rfl S ?_; clear E S; intro B11 w a S E
 refine rn 2 E S ?_; clear E S; intro a w E S
 apply hK; clear hK K
 refine sr fun K hK => ?_
 refine rn 1 E S ?_; clear E S; intro a w E S
 apply hK; clear hK K
 refine wp_seq_k (fun K5 hK4 => ?_)
 refine sr fun K hK => ?_
 refine rn 4 E S ?_; clear E S; intro a w E S
 apply hK; clear hK K
 refine wp_block ?_
 replace S := S.turnP (q := MapF Tryd.prog 108 kvD vvI (posM (kN b) 0)) (.there (.here .here)) (fun o ho => ho.turn (rfl))
 replace S := S.turnP (q := MapF Tryd.prog 108 kvD vvI (posM (kR b) 0)) (.here .here) (fun o ho => ho.turn (rfl))
 refine loop (fun (i : Nat) a' w' => ∃ GL7, Heap.le G GL7 ∧ St w0 G [] GL7 w' [[(B11, MapF Tryd.prog 108 kvD vvI (posM (kR b) i))], [(B10, MapF Tryd.prog 108 kvD vvI (posM (kN b) i))], [(B1, Cells 32 (PC b [(14, .slice Ae b.es.length ce), (15, .slice Am b.ms.length cm), (16, .slice Ar b.rs.length cr)]))]] ∧ Env a' 80 [] [(1, .pointer (some ⟨B1, 0, none⟩)), (2, .bool false), (3, .map (some B10)), (4, .map (some B11)), (5, .int .i64 (lastD b i)), (13, .slice Ae b.es.length ce), (14, .int .i64 (b.es.length : Int)), (15, .int .i64 (i : Int))] ∧ (i ≤ b.es.length ∧ ∀ j, j < i → entOk b j = true)) (fun (i : Nat) => b.es.length - i) 0 ⟨_, Heap.le.refl _, S, E.cut ⟨rfl, rfl, rfl, rfl, rfl, rfl, rfl, rfl, trivial⟩, ⟨Nat.zero_le _, fun j hj => absurd hj (Nat.not_lt_zero _)⟩⟩ ?_
 clear E S; intro i a w ⟨GL7, hle8, S, E, ⟨hi, hall⟩⟩
 replace hg0 := hg0.le hle8
 replace hg1 := hg1.le hle8
 replace hRe := hRe.le hle8
 replace hRm := hRm.le hle8
 replace hRr := hRr.le hle8
 refine sr fun K hK => ?_
 refine rn 1 E S ?_; clear E S; intro a w E S
 apply hK; clear hK K
 refine wp_seq_k (fun K11 hK10 => ?_)
 refine cond E rfl (fun h12r => ?_) (fun h12r => ?_)
 ·have h12 := nm h12r
  refine wp_skip ?_
  refine hK10 _ _ ?_; clear hK10
  refine wp_seq_k (fun K14 hK13 => ?_)
  refine wp_block ?_
  refine sr fun K hK => ?_
  refine rn 1 E S ?_; clear E S; intro a w E S
  have hi15 : (i : Int).toNat < b.es.length := by omega
  obtain ⟨eb15, eo15, hA15, el15⟩ := Rd.at hRe (List.getElem?_eq_getElem hi15); cases hA15
  rw [show b.es[(i : Int).toNat] = (b.es.getD i ENT0) from getD_get (i := i) hi15 _] at el15
  have el15 := kEnt_open el15
  refine o_ixL E rfl rfl rfl T.l28 ⟨by omega, by omega⟩ ?_; clear E; intro a E
  refine o_ldIA E rfl S rfl el15 T.a71 ?_; clear E; intro a E
  refine o_allocZ E rfl S ?_; clear E S; intro B7 w a S E
  refine rn 2 E S ?_; clear E S; intro a w E S
  apply hK; clear hK K
  refine wp_seq_k (fun K18 hK17 => ?_)
  refine sr fun K hK => ?_
  have hln := last_nn hall
  have hew9 := hew _ (entm (b := b) (i := i) (by omega))
  have hkd := hew9.1
  have hkn := hew9.2.1
  have hkr := hew9.2.2
  have hwn9 := hkn
  have hwr9 := hkr
  have hpn9 := posM_get (kN b) ⟨(b.es.getD i ENT0).dom, (b.es.getD i ENT0).name⟩ i
  have hpr9 := posM_get (kR b) ⟨(b.es.getD i ENT0).dom, (b.es.getD i ENT0).real⟩ i
  have hpn91 := hpn9.1
  have hpn92 := hpn9.2.1
  have hpr91 := hpr9.1
  have hpr92 := hpr9.2.1
  refine rn 5 E S ?_; clear E S; intro a w E S
  refine cutG 4 28 (.bool ((decide (((b.es.getD i ENT0).dom) < (lastD b i))) || (decide (4 < ((b.es.getD i ENT0).dom))))) E S ?_ ?_
  ·refine bsp E (t := 24) rfl (fun hb19 => ?_) (fun hb19 => ?_)
   ·refine rn 4 E S ?_; clear E S; intro a w E S
    exact ⟨S, E.cutT (by rw [hb19] <;> rfl)⟩
   ·have hk20 := nm hb19
    refine rn 4 E S ?_; clear E S; intro a w E S
    exact ⟨S, E.cutT (by rw [hb19] <;> rfl)⟩
  clear E S; intro a w E S
  refine rn 1 E S ?_; clear E S; intro a w E S
  refine cutG 9 38 (.bool (((decide (((b.es.getD i ENT0).dom) < (lastD b i))) || (decide (4 < ((b.es.getD i ENT0).dom)))) || (decide ((wayP b.pol ((b.es.getD i ENT0).dom)) = 0)))) E S ?_ ?_
  ·refine bsp E (t := 29) rfl (fun hb21 => ?_) (fun hb21 => ?_)
   ·refine rn 9 E S ?_; clear E S; intro a w E S
    exact ⟨S, E.cutT (by rw [hb21] <;> rfl)⟩
   ·have hk22 := nm hb21
    refine rn 4 E S ?_; clear E S; intro a w E S
    refine op_on E rfl rfl hb21 ?_
    refine o_ixA E rfl rfl rfl T.r25 (by omega) ?_; clear E; intro a E
    refine rn 1 E S ?_; clear E S; intro a w E S
    refine op_on E rfl rfl hb21 ?_
    refine o_ld E rfl S rfl T.s3 (.there (.there (.there (.here .here)))) (v := .int .i64 (wayP b.pol ((b.es.getD i ENT0).dom))) (by (try have hbk := hb); (try simp only [Bool.not_eq_true', Bool.not_eq_false', Bool.and_eq_true, Bool.or_eq_false_iff, decide_eq_true_eq, decide_eq_false_iff_not] at hbk); have hd9 := True.intro; rcases (show (b.es.getD i ENT0).dom = 0 ∨ (b.es.getD i ENT0).dom = 1 ∨ (b.es.getD i ENT0).dom = 2 ∨ (b.es.getD i ENT0).dom = 3 ∨ (b.es.getD i ENT0).dom = 4 from by omega) with e | e | e | e | e <;> rw [e] <;> rfl) ?_; clear E; intro a E
    refine rn 2 E S ?_; clear E S; intro a w E S
    exact ⟨S, E.cutT (by rw [hb21] <;> rfl)⟩
  clear E S; intro a w E S
  refine rn 1 E S ?_; clear E S; intro a w E S
  refine cutG 5 44 (.bool ((((decide (((b.es.getD i ENT0).dom) < (lastD b i))) || (decide (4 < ((b.es.getD i ENT0).dom)))) || (decide ((wayP b.pol ((b.es.getD i ENT0).dom)) = 0))) || (!(nameB ((b.es.getD i ENT0).name))))) E S ?_ ?_
  ·refine bsp E (t := 39) rfl (fun hb23 => ?_) (fun hb23 => ?_)
   ·refine rn 5 E S ?_; clear E S; intro a w E S
    exact ⟨S, E.cutT (by rw [hb23] <;> rfl)⟩
   ·have hk24 := nm hb23
    refine rn 2 E S ?_; clear E S; intro a w E S
    refine op_on E rfl rfl hb23 ?_
    refine o_callP E rfl S rfl rfl T.g51 (c_bookname ((b.es.getD i ENT0).name) _ _ S.sub hg0 hg1 (by first | assumption | exact hwn9 | exact hwr9)) ?_
    clear E S; rintro _ w a S rfl E
    refine rn 2 E S ?_; clear E S; intro a w E S
    exact ⟨S, E.cutT (by rw [hb23] <;> rfl)⟩
  clear E S; intro a w E S
  refine rn 1 E S ?_; clear E S; intro a w E S
  refine cutG 5 50 (.bool (((((decide (((b.es.getD i ENT0).dom) < (lastD b i))) || (decide (4 < ((b.es.getD i ENT0).dom)))) || (decide ((wayP b.pol ((b.es.getD i ENT0).dom)) = 0))) || (!(nameB ((b.es.getD i ENT0).name)))) || (!(nameB ((b.es.getD i ENT0).real))))) E S ?_ ?_
  ·refine bsp E (t := 45) rfl (fun hb25 => ?_) (fun hb25 => ?_)
   ·refine rn 5 E S ?_; clear E S; intro a w E S
    exact ⟨S, E.cutT (by rw [hb25] <;> rfl)⟩
   ·have hk26 := nm hb25
    refine rn 2 E S ?_; clear E S; intro a w E S
    refine op_on E rfl rfl hb25 ?_
    refine o_callP E rfl S rfl rfl T.g51 (c_bookname ((b.es.getD i ENT0).real) _ _ S.sub hg0 hg1 (by first | assumption | exact hwn9 | exact hwr9)) ?_
    clear E S; rintro _ w a S rfl E
    refine rn 2 E S ?_; clear E S; intro a w E S
    exact ⟨S, E.cutT (by rw [hb25] <;> rfl)⟩
  clear E S; intro a w E S
  apply hK; clear hK K
  refine cond E rfl (fun h28r => ?_) (fun h28r => ?_)
  ·have h28 := nm h28r
   refine sr fun K hK => ?_
   refine rn 1 E S ?_; clear E S; intro a w E S
   apply hK; clear hK K
   refine rt hQ E S ?_
   have he : enteredB b = false := ent_bad (i := i) (by omega) (odd_bad hall (by have := h28r; unfold oddB; exact this))
   show _ = _
   rw [he]
   rfl
  ·have h28 := nm h28r
   refine wp_skip ?_
   refine hK17 _ _ ?_; clear hK17
   refine sr fun K hK => ?_
   refine rn 3 E S ?_; clear E S; intro a w E S
   apply hK; clear hK K
   refine wp_seq_k (fun K32 hK31 => ?_)
   replace E := E.cut (L' := [(1, .pointer (some ⟨B1, 0, none⟩)), (2, .bool false), (3, .map (some B10)), (4, .map (some B11)), (5, .int .i64 ((b.es.getD i ENT0).dom)), (6, .int .i64 (i : Int)), (7, .pointer (some ⟨B7, 0, none⟩)), (13, .slice (some ⟨eb15, eo15, none⟩) b.es.length ce), (14, .int .i64 (b.es.length : Int)), (15, .int .i64 (i : Int)), (16, .bool (decide ((i : Int) < (b.es.length : Int)))), (17, .int .i64 (i : Int)), (18, .pointer (some ⟨eb15, eo15 + (i : Int).toNat * 7, none⟩)), (19, .agg #[.int .i64 ((b.es.getD i ENT0).dom), .int .i64 ((b.es.getD i ENT0).name.k), .int .i64 ((b.es.getD i ENT0).name.n), str ((b.es.getD i ENT0).name.s), .int .i64 ((b.es.getD i ENT0).real.k), .int .i64 ((b.es.getD i ENT0).real.n), str ((b.es.getD i ENT0).real.s)]), (20, .pointer (some ⟨B7, 0, none⟩)), (21, .int .i64 ((b.es.getD i ENT0).dom)), (22, .int .i64 (lastD b i)), (23, .bool (decide (((b.es.getD i ENT0).dom) < (lastD b i)))), (24, .bool (decide (((b.es.getD i ENT0).dom) < (lastD b i)))), (28, .bool ((decide (((b.es.getD i ENT0).dom) < (lastD b i))) || (decide (4 < ((b.es.getD i ENT0).dom))))), (29, .bool ((decide (((b.es.getD i ENT0).dom) < (lastD b i))) || (decide (4 < ((b.es.getD i ENT0).dom))))), (38, .bool (((decide (((b.es.getD i ENT0).dom) < (lastD b i))) || (decide (4 < ((b.es.getD i ENT0).dom)))) || (decide ((wayP b.pol ((b.es.getD i ENT0).dom)) = 0)))), (39, .bool (((decide (((b.es.getD i ENT0).dom) < (lastD b i))) || (decide (4 < ((b.es.getD i ENT0).dom)))) || (decide ((wayP b.pol ((b.es.getD i ENT0).dom)) = 0)))), (44, .bool ((((decide (((b.es.getD i ENT0).dom) < (lastD b i))) || (decide (4 < ((b.es.getD i ENT0).dom)))) || (decide ((wayP b.pol ((b.es.getD i ENT0).dom)) = 0))) || (!(nameB ((b.es.getD i ENT0).name))))), (45, .bool ((((decide (((b.es.getD i ENT0).dom) < (lastD b i))) || (decide (4 < ((b.es.getD i ENT0).dom)))) || (decide ((wayP b.pol ((b.es.getD i ENT0).dom)) = 0))) || (!(nameB ((b.es.getD i ENT0).name))))), (50, .bool (((((decide (((b.es.getD i ENT0).dom) < (lastD b i))) || (decide (4 < ((b.es.getD i ENT0).dom)))) || (decide ((wayP b.pol ((b.es.getD i ENT0).dom)) = 0))) || (!(nameB ((b.es.getD i ENT0).name)))) || (!(nameB ((b.es.getD i ENT0).real))))), (51, .pointer (some ⟨B7, 0, none⟩)), (52, .int .i64 ((b.es.getD i ENT0).dom))]) ⟨rfl, rfl, rfl, rfl, rfl, rfl, rfl, rfl, rfl, rfl, rfl, rfl, rfl, rfl, rfl, rfl, rfl, rfl, rfl, rfl, rfl, rfl, rfl, rfl, rfl, rfl, rfl, rfl, trivial⟩
   refine drawnA (fun f tm G' w => GL7 = G' ∧ ∃ X10_ : List Chunk, ∃ X11_ : List Chunk, St w0 G [] G' w (X10_ ++ X11_ ++ [[(B7, Cells 71 [(0, .int .i64 ((b.es.getD i ENT0).dom)), (1, .int .i64 ((b.es.getD i ENT0).name.k)), (2, .int .i64 ((b.es.getD i ENT0).name.n)), (3, str ((b.es.getD i ENT0).name.s)), (4, .int .i64 ((b.es.getD i ENT0).real.k)), (5, .int .i64 ((b.es.getD i ENT0).real.n)), (6, str ((b.es.getD i ENT0).real.s))])], [(B11, MapF Tryd.prog 108 kvD vvI (posM (kR b) i))], [(B10, MapF Tryd.prog 108 kvD vvI (posM (kN b) i))], [(B1, Cells 32 (PC b [(14, .slice (some ⟨eb15, eo15, none⟩) b.es.length ce), (15, .slice Am b.ms.length cm), (16, .slice Ar b.rs.length cr)]))]]) ∧ ((f 10 = false ∧ X10_ = []) ∨ (f 10 = true ∧ ∃ B8 : Nat, tm 8 = some (.pointer (some ⟨B8, 0, none⟩)) ∧ X10_ = [[(B8, Cells 108 [(0, bif f 12 then .int .i64 ((b.es.getD i ENT0).dom) else .int .i64 0), (1, bif f 12 then .int .i64 ((b.es.getD i ENT0).name.k) else .int .i64 0), (2, bif f 12 then .int .i64 ((b.es.getD i ENT0).name.n) else .int .i64 0), (3, bif f 12 then str ((b.es.getD i ENT0).name.s) else str [])])]])) ∧ ((f 11 = false ∧ X11_ = []) ∨ (f 11 = true ∧ ∃ B9 : Nat, tm 9 = some (.pointer (some ⟨B9, 0, none⟩)) ∧ X11_ = [[(B9, Cells 108 [(0, bif f 13 then .int .i64 ((b.es.getD i ENT0).dom) else .int .i64 0), (1, bif f 13 then .int .i64 ((b.es.getD i ENT0).real.k) else .int .i64 0), (2, bif f 13 then .int .i64 ((b.es.getD i ENT0).real.n) else .int .i64 0), (3, bif f 13 then str ((b.es.getD i ENT0).real.s) else str [])])]]))) [fun v _ => v = .pointer (some ⟨B7, 0, none⟩), fun v _ => v = .int .i64 ((b.es.getD i ENT0).dom), fun v _ => v = .pointer (some ⟨B7, 1, none⟩), fun v _ => v = .agg #[.int .i64 ((b.es.getD i ENT0).name.k), .int .i64 ((b.es.getD i ENT0).name.n), str ((b.es.getD i ENT0).name.s)], fun v _ => v = .agg #[.int .i64 ((b.es.getD i ENT0).dom), .int .i64 ((b.es.getD i ENT0).name.k), .int .i64 ((b.es.getD i ENT0).name.n), str ((b.es.getD i ENT0).name.s)], fun v _ => v = .pointer (some ⟨B7, 0, none⟩), fun v _ => v = .int .i64 ((b.es.getD i ENT0).dom), fun v _ => v = .pointer (some ⟨B7, 4, none⟩), fun v _ => v = .agg #[.int .i64 ((b.es.getD i ENT0).real.k), .int .i64 ((b.es.getD i ENT0).real.n), str ((b.es.getD i ENT0).real.s)], fun v _ => v = .agg #[.int .i64 ((b.es.getD i ENT0).dom), .int .i64 ((b.es.getD i ENT0).real.k), .int .i64 ((b.es.getD i ENT0).real.n), str ((b.es.getD i ENT0).real.s)], fun _ _ => True, fun _ _ => True, fun _ _ => True, fun _ _ => True] [] T.mix rfl E ⟨rfl, [], [], S.drew, .inl ⟨rfl, rfl⟩, .inl ⟨rfl, rfl⟩⟩ rfl (by simp) (AllM.get ⟨fun _ _ _ _ h => h, fun _ _ _ _ h => h, fun _ _ _ _ h => h, fun _ _ _ _ h => h, fun _ _ _ _ h => h, fun _ _ _ _ h => h, fun _ _ _ _ h => h, fun _ _ _ _ h => h, fun _ _ _ _ h => h, fun _ _ _ _ h => h, fun _ _ _ _ h => h, fun _ _ _ _ h => h, fun _ _ _ _ h => h, fun _ _ _ _ h => h, trivial⟩) ⟨?_, ?_, ?_, ?_, ?_, ?_, ?_, ?_, ?_, ?_, ?_, ?_, ?_, ?_, trivial⟩ ?_
   ·intro a w G1 f hcl hfi hon hW E hp hO; obtain ⟨rfl, X10_, X11_, S, hX10, hX11⟩ := hW
    rcases hX10 with ⟨hfa10, rfl⟩ | ⟨hfa10, B8, hB10, rfl⟩
    ·simp only [List.nil_append] at S
     rcases hX11 with ⟨hfa11, rfl⟩ | ⟨hfa11, B9, hB11, rfl⟩
     ·simp only [List.nil_append] at S
      refine o_fld E rfl rfl T.f71_0 ?_; clear E; intro a E
      exact ⟨_, _, Heap.le.refl _, ⟨rfl, [], [], S, .inl ⟨(by show (Nat.beq 10 0 || f 10) = false; rw [hfa10]; rfl), rfl⟩, .inl ⟨(by show (Nat.beq 11 0 || f 11) = false; rw [hfa11]; rfl), rfl⟩⟩, fun d hd => (by cases hd; exact E.get _ _ rfl), E.defers, rfl⟩
     ·replace E := E.add hB11; simp only [List.cons_append, List.nil_append] at S
      refine o_fld E rfl rfl T.f71_0 ?_; clear E; intro a E
      exact ⟨_, _, Heap.le.refl _, ⟨rfl, [], [_], S, .inl ⟨(by show (Nat.beq 10 0 || f 10) = false; rw [hfa10]; rfl), rfl⟩, .inr ⟨(by show (Nat.beq 11 0 || f 11) = true; rw [hfa11]; rfl), _, E.get _ _ rfl, rfl⟩⟩, fun d hd => (by cases hd; exact E.get _ _ rfl), E.defers, rfl⟩
    ·replace E := E.add hB10; simp only [List.cons_append, List.nil_append] at S
     rcases hX11 with ⟨hfa11, rfl⟩ | ⟨hfa11, B9, hB11, rfl⟩
     ·simp only [List.nil_append] at S
      refine o_fld E rfl rfl T.f71_0 ?_; clear E; intro a E
      exact ⟨_, _, Heap.le.refl _, ⟨rfl, [_], [], S, .inr ⟨(by show (Nat.beq 10 0 || f 10) = true; rw [hfa10]; rfl), _, E.get _ _ rfl, rfl⟩, .inl ⟨(by show (Nat.beq 11 0 || f 11) = false; rw [hfa11]; rfl), rfl⟩⟩, fun d hd => (by cases hd; exact E.get _ _ rfl), E.defers, rfl⟩
     ·replace E := E.add hB11; simp only [List.cons_append, List.nil_append] at S
      refine o_fld E rfl rfl T.f71_0 ?_; clear E; intro a E
      exact ⟨_, _, Heap.le.refl _, ⟨rfl, [_], [_], S, .inr ⟨(by show (Nat.beq 10 0 || f 10) = true; rw [hfa10]; rfl), _, E.get _ _ rfl, rfl⟩, .inr ⟨(by show (Nat.beq 11 0 || f 11) = true; rw [hfa11]; rfl), _, E.get _ _ rfl, rfl⟩⟩, fun d hd => (by cases hd; exact E.get _ _ rfl), E.defers, rfl⟩
   ·intro a w G1 f hcl hfi hon hW E hp hO; obtain ⟨rfl, X10_, X11_, S, hX10, hX11⟩ := hW
    obtain ⟨_, e0, rfl⟩ := hp 0 53 _ (hon 0 rfl) rfl rfl; replace E := E.add e0
    rcases hX10 with ⟨hfa10, rfl⟩ | ⟨hfa10, B8, hB10, rfl⟩
    ·simp only [List.nil_append] at S
     rcases hX11 with ⟨hfa11, rfl⟩ | ⟨hfa11, B9, hB11, rfl⟩
     ·simp only [List.nil_append] at S
      refine o_ld E rfl S rfl T.s3 (.here .here) rfl ?_; clear E; intro a E
      exact ⟨_, _, Heap.le.refl _, ⟨rfl, [], [], S, .inl ⟨(by show (Nat.beq 10 1 || f 10) = false; rw [hfa10]; rfl), rfl⟩, .inl ⟨(by show (Nat.beq 11 1 || f 11) = false; rw [hfa11]; rfl), rfl⟩⟩, fun d hd => (by cases hd; exact E.get _ _ rfl), E.defers, rfl⟩
     ·replace E := E.add hB11; simp only [List.cons_append, List.nil_append] at S
      refine o_ld E rfl S rfl T.s3 (.there (.here .here)) rfl ?_; clear E; intro a E
      exact ⟨_, _, Heap.le.refl _, ⟨rfl, [], [_], S, .inl ⟨(by show (Nat.beq 10 1 || f 10) = false; rw [hfa10]; rfl), rfl⟩, .inr ⟨(by show (Nat.beq 11 1 || f 11) = true; rw [hfa11]; rfl), _, E.get _ _ rfl, rfl⟩⟩, fun d hd => (by cases hd; exact E.get _ _ rfl), E.defers, rfl⟩
    ·replace E := E.add hB10; simp only [List.cons_append, List.nil_append] at S
     rcases hX11 with ⟨hfa11, rfl⟩ | ⟨hfa11, B9, hB11, rfl⟩
     ·simp only [List.nil_append] at S
      refine o_ld E rfl S rfl T.s3 (.there (.here .here)) rfl ?_; clear E; intro a E
      exact ⟨_, _, Heap.le.refl _, ⟨rfl, [_], [], S, .inr ⟨(by show (Nat.beq 10 1 || f 10) = true; rw [hfa10]; rfl), _, E.get _ _ rfl, rfl⟩, .inl ⟨(by show (Nat.beq 11 1 || f 11) = false; rw [hfa11]; rfl), rfl⟩⟩, fun d hd => (by cases hd; exact E.get _ _ rfl), E.defers, rfl⟩
     ·replace E := E.add hB11; simp only [List.cons_append, List.nil_append] at S
      refine o_ld E rfl S rfl T.s3 (.there (.there (.here .here))) rfl ?_; clear E; intro a E
      exact ⟨_, _, Heap.le.refl _, ⟨rfl, [_], [_], S, .inr ⟨(by show (Nat.beq 10 1 || f 10) = true; rw [hfa10]; rfl), _, E.get _ _ rfl, rfl⟩, .inr ⟨(by show (Nat.beq 11 1 || f 11) = true; rw [hfa11]; rfl), _, E.get _ _ rfl, rfl⟩⟩, fun d hd => (by cases hd; exact E.get _ _ rfl), E.defers, rfl⟩
   ·intro a w G1 f hcl hfi hon hW E hp hO; obtain ⟨rfl, X10_, X11_, S, hX10, hX11⟩ := hW
    rcases hX10 with ⟨hfa10, rfl⟩ | ⟨hfa10, B8, hB10, rfl⟩
    ·simp only [List.nil_append] at S
     rcases hX11 with ⟨hfa11, rfl⟩ | ⟨hfa11, B9, hB11, rfl⟩
     ·simp only [List.nil_append] at S
      refine o_fld E rfl rfl T.f71_1 ?_; clear E; intro a E
      exact ⟨_, _, Heap.le.refl _, ⟨rfl, [], [], S, .inl ⟨(by show (Nat.beq 10 2 || f 10) = false; rw [hfa10]; rfl), rfl⟩, .inl ⟨(by show (Nat.beq 11 2 || f 11) = false; rw [hfa11]; rfl), rfl⟩⟩, fun d hd => (by cases hd; exact E.get _ _ rfl), E.defers, rfl⟩
     ·replace E := E.add hB11; simp only [List.cons_append, List.nil_append] at S
      refine o_fld E rfl rfl T.f71_1 ?_; clear E; intro a E
      exact ⟨_, _, Heap.le.refl _, ⟨rfl, [], [_], S, .inl ⟨(by show (Nat.beq 10 2 || f 10) = false; rw [hfa10]; rfl), rfl⟩, .inr ⟨(by show (Nat.beq 11 2 || f 11) = true; rw [hfa11]; rfl), _, E.get _ _ rfl, rfl⟩⟩, fun d hd => (by cases hd; exact E.get _ _ rfl), E.defers, rfl⟩
    ·replace E := E.add hB10; simp only [List.cons_append, List.nil_append] at S
     rcases hX11 with ⟨hfa11, rfl⟩ | ⟨hfa11, B9, hB11, rfl⟩
     ·simp only [List.nil_append] at S
      refine o_fld E rfl rfl T.f71_1 ?_; clear E; intro a E
      exact ⟨_, _, Heap.le.refl _, ⟨rfl, [_], [], S, .inr ⟨(by show (Nat.beq 10 2 || f 10) = true; rw [hfa10]; rfl), _, E.get _ _ rfl, rfl⟩, .inl ⟨(by show (Nat.beq 11 2 || f 11) = false; rw [hfa11]; rfl), rfl⟩⟩, fun d hd => (by cases hd; exact E.get _ _ rfl), E.defers, rfl⟩
     ·replace E := E.add hB11; simp only [List.cons_append, List.nil_append] at S
      refine o_fld E rfl rfl T.f71_1 ?_; clear E; intro a E
      exact ⟨_, _, Heap.le.refl _, ⟨rfl, [_], [_], S, .inr ⟨(by show (Nat.beq 10 2 || f 10) = true; rw [hfa10]; rfl), _, E.get _ _ rfl, rfl⟩, .inr ⟨(by show (Nat.beq 11 2 || f 11) = true; rw [hfa11]; rfl), _, E.get _ _ rfl, rfl⟩⟩, fun d hd => (by cases hd; exact E.get _ _ rfl), E.defers, rfl⟩
   ·intro a w G1 f hcl hfi hon hW E hp hO; obtain ⟨rfl, X10_, X11_, S, hX10, hX11⟩ := hW
    obtain ⟨_, e2, rfl⟩ := hp 2 55 _ (hon 2 rfl) rfl rfl; replace E := E.add e2
    rcases hX10 with ⟨hfa10, rfl⟩ | ⟨hfa10, B8, hB10, rfl⟩
    ·simp only [List.nil_append] at S
     rcases hX11 with ⟨hfa11, rfl⟩ | ⟨hfa11, B9, hB11, rfl⟩
     ·simp only [List.nil_append] at S
      refine o_ldA E rfl S rfl T.a49 (.here .here) rfl ?_; clear E; intro a E
      exact ⟨_, _, Heap.le.refl _, ⟨rfl, [], [], S, .inl ⟨(by show (Nat.beq 10 3 || f 10) = false; rw [hfa10]; rfl), rfl⟩, .inl ⟨(by show (Nat.beq 11 3 || f 11) = false; rw [hfa11]; rfl), rfl⟩⟩, fun d hd => (by cases hd; exact E.get _ _ rfl), E.defers, rfl⟩
     ·replace E := E.add hB11; simp only [List.cons_append, List.nil_append] at S
      refine o_ldA E rfl S rfl T.a49 (.there (.here .here)) rfl ?_; clear E; intro a E
      exact ⟨_, _, Heap.le.refl _, ⟨rfl, [], [_], S, .inl ⟨(by show (Nat.beq 10 3 || f 10) = false; rw [hfa10]; rfl), rfl⟩, .inr ⟨(by show (Nat.beq 11 3 || f 11) = true; rw [hfa11]; rfl), _, E.get _ _ rfl, rfl⟩⟩, fun d hd => (by cases hd; exact E.get _ _ rfl), E.defers, rfl⟩
    ·replace E := E.add hB10; simp only [List.cons_append, List.nil_append] at S
     rcases hX11 with ⟨hfa11, rfl⟩ | ⟨hfa11, B9, hB11, rfl⟩
     ·simp only [List.nil_append] at S
      refine o_ldA E rfl S rfl T.a49 (.there (.here .here)) rfl ?_; clear E; intro a E
      exact ⟨_, _, Heap.le.refl _, ⟨rfl, [_], [], S, .inr ⟨(by show (Nat.beq 10 3 || f 10) = true; rw [hfa10]; rfl), _, E.get _ _ rfl, rfl⟩, .inl ⟨(by show (Nat.beq 11 3 || f 11) = false; rw [hfa11]; rfl), rfl⟩⟩, fun d hd => (by cases hd; exact E.get _ _ rfl), E.defers, rfl⟩
     ·replace E := E.add hB11; simp only [List.cons_append, List.nil_append] at S
      refine o_ldA E rfl S rfl T.a49 (.there (.there (.here .here))) rfl ?_; clear E; intro a E
      exact ⟨_, _, Heap.le.refl _, ⟨rfl, [_], [_], S, .inr ⟨(by show (Nat.beq 10 3 || f 10) = true; rw [hfa10]; rfl), _, E.get _ _ rfl, rfl⟩, .inr ⟨(by show (Nat.beq 11 3 || f 11) = true; rw [hfa11]; rfl), _, E.get _ _ rfl, rfl⟩⟩, fun d hd => (by cases hd; exact E.get _ _ rfl), E.defers, rfl⟩
   ·intro a w G1 f hcl hfi hon hW E hp hO; obtain ⟨rfl, X10_, X11_, S, hX10, hX11⟩ := hW
    obtain ⟨_, e1, rfl⟩ := hp 1 54 _ (hon 1 rfl) rfl rfl; replace E := E.add e1
    obtain ⟨_, e3, rfl⟩ := hp 3 56 _ (hon 3 rfl) rfl rfl; replace E := E.add e3
    rcases hX10 with ⟨hfa10, rfl⟩ | ⟨hfa10, B8, hB10, rfl⟩
    ·simp only [List.nil_append] at S
     rcases hX11 with ⟨hfa11, rfl⟩ | ⟨hfa11, B9, hB11, rfl⟩
     ·simp only [List.nil_append] at S
      refine o_build (cs := #[.int .i64 ((b.es.getD i ENT0).dom), .int .i64 ((b.es.getD i ENT0).name.k), .int .i64 ((b.es.getD i ENT0).name.n), str ((b.es.getD i ENT0).name.s)]) E rfl rfl (by kernel_rfl) ?_; clear E; intro a E
      exact ⟨_, _, Heap.le.refl _, ⟨rfl, [], [], S, .inl ⟨(by show (Nat.beq 10 4 || f 10) = false; rw [hfa10]; rfl), rfl⟩, .inl ⟨(by show (Nat.beq 11 4 || f 11) = false; rw [hfa11]; rfl), rfl⟩⟩, fun d hd => (by cases hd; exact E.get _ _ rfl), E.defers, rfl⟩
     ·replace E := E.add hB11; simp only [List.cons_append, List.nil_append] at S
      refine o_build (cs := #[.int .i64 ((b.es.getD i ENT0).dom), .int .i64 ((b.es.getD i ENT0).name.k), .int .i64 ((b.es.getD i ENT0).name.n), str ((b.es.getD i ENT0).name.s)]) E rfl rfl (by kernel_rfl) ?_; clear E; intro a E
      exact ⟨_, _, Heap.le.refl _, ⟨rfl, [], [_], S, .inl ⟨(by show (Nat.beq 10 4 || f 10) = false; rw [hfa10]; rfl), rfl⟩, .inr ⟨(by show (Nat.beq 11 4 || f 11) = true; rw [hfa11]; rfl), _, E.get _ _ rfl, rfl⟩⟩, fun d hd => (by cases hd; exact E.get _ _ rfl), E.defers, rfl⟩
    ·replace E := E.add hB10; simp only [List.cons_append, List.nil_append] at S
     rcases hX11 with ⟨hfa11, rfl⟩ | ⟨hfa11, B9, hB11, rfl⟩
     ·simp only [List.nil_append] at S
      refine o_build (cs := #[.int .i64 ((b.es.getD i ENT0).dom), .int .i64 ((b.es.getD i ENT0).name.k), .int .i64 ((b.es.getD i ENT0).name.n), str ((b.es.getD i ENT0).name.s)]) E rfl rfl (by kernel_rfl) ?_; clear E; intro a E
      exact ⟨_, _, Heap.le.refl _, ⟨rfl, [_], [], S, .inr ⟨(by show (Nat.beq 10 4 || f 10) = true; rw [hfa10]; rfl), _, E.get _ _ rfl, rfl⟩, .inl ⟨(by show (Nat.beq 11 4 || f 11) = false; rw [hfa11]; rfl), rfl⟩⟩, fun d hd => (by cases hd; exact E.get _ _ rfl), E.defers, rfl⟩
     ·replace E := E.add hB11; simp only [List.cons_append, List.nil_append] at S
      refine o_build (cs := #[.int .i64 ((b.es.getD i ENT0).dom), .int .i64 ((b.es.getD i ENT0).name.k), .int .i64 ((b.es.getD i ENT0).name.n), str ((b.es.getD i ENT0).name.s)]) E rfl rfl (by kernel_rfl) ?_; clear E; intro a E
      exact ⟨_, _, Heap.le.refl _, ⟨rfl, [_], [_], S, .inr ⟨(by show (Nat.beq 10 4 || f 10) = true; rw [hfa10]; rfl), _, E.get _ _ rfl, rfl⟩, .inr ⟨(by show (Nat.beq 11 4 || f 11) = true; rw [hfa11]; rfl), _, E.get _ _ rfl, rfl⟩⟩, fun d hd => (by cases hd; exact E.get _ _ rfl), E.defers, rfl⟩
   ·intro a w G1 f hcl hfi hon hW E hp hO; obtain ⟨rfl, X10_, X11_, S, hX10, hX11⟩ := hW
    rcases hX10 with ⟨hfa10, rfl⟩ | ⟨hfa10, B8, hB10, rfl⟩
    ·simp only [List.nil_append] at S
     rcases hX11 with ⟨hfa11, rfl⟩ | ⟨hfa11, B9, hB11, rfl⟩
     ·simp only [List.nil_append] at S
      refine o_fld E rfl rfl T.f71_0 ?_; clear E; intro a E
      exact ⟨_, _, Heap.le.refl _, ⟨rfl, [], [], S, .inl ⟨(by show (Nat.beq 10 5 || f 10) = false; rw [hfa10]; rfl), rfl⟩, .inl ⟨(by show (Nat.beq 11 5 || f 11) = false; rw [hfa11]; rfl), rfl⟩⟩, fun d hd => (by cases hd; exact E.get _ _ rfl), E.defers, rfl⟩
     ·replace E := E.add hB11; simp only [List.cons_append, List.nil_append] at S
      refine o_fld E rfl rfl T.f71_0 ?_; clear E; intro a E
      exact ⟨_, _, Heap.le.refl _, ⟨rfl, [], [_], S, .inl ⟨(by show (Nat.beq 10 5 || f 10) = false; rw [hfa10]; rfl), rfl⟩, .inr ⟨(by show (Nat.beq 11 5 || f 11) = true; rw [hfa11]; rfl), _, E.get _ _ rfl, rfl⟩⟩, fun d hd => (by cases hd; exact E.get _ _ rfl), E.defers, rfl⟩
    ·replace E := E.add hB10; simp only [List.cons_append, List.nil_append] at S
     rcases hX11 with ⟨hfa11, rfl⟩ | ⟨hfa11, B9, hB11, rfl⟩
     ·simp only [List.nil_append] at S
      refine o_fld E rfl rfl T.f71_0 ?_; clear E; intro a E
      exact ⟨_, _, Heap.le.refl _, ⟨rfl, [_], [], S, .inr ⟨(by show (Nat.beq 10 5 || f 10) = true; rw [hfa10]; rfl), _, E.get _ _ rfl, rfl⟩, .inl ⟨(by show (Nat.beq 11 5 || f 11) = false; rw [hfa11]; rfl), rfl⟩⟩, fun d hd => (by cases hd; exact E.get _ _ rfl), E.defers, rfl⟩
     ·replace E := E.add hB11; simp only [List.cons_append, List.nil_append] at S
      refine o_fld E rfl rfl T.f71_0 ?_; clear E; intro a E
      exact ⟨_, _, Heap.le.refl _, ⟨rfl, [_], [_], S, .inr ⟨(by show (Nat.beq 10 5 || f 10) = true; rw [hfa10]; rfl), _, E.get _ _ rfl, rfl⟩, .inr ⟨(by show (Nat.beq 11 5 || f 11) = true; rw [hfa11]; rfl), _, E.get _ _ rfl, rfl⟩⟩, fun d hd => (by cases hd; exact E.get _ _ rfl), E.defers, rfl⟩
   ·intro a w G1 f hcl hfi hon hW E hp hO; obtain ⟨rfl, X10_, X11_, S, hX10, hX11⟩ := hW
    obtain ⟨_, e5, rfl⟩ := hp 5 58 _ (hon 5 rfl) rfl rfl; replace E := E.add e5
    rcases hX10 with ⟨hfa10, rfl⟩ | ⟨hfa10, B8, hB10, rfl⟩
    ·simp only [List.nil_append] at S
     rcases hX11 with ⟨hfa11, rfl⟩ | ⟨hfa11, B9, hB11, rfl⟩
     ·simp only [List.nil_append] at S
      refine o_ld E rfl S rfl T.s3 (.here .here) rfl ?_; clear E; intro a E
      exact ⟨_, _, Heap.le.refl _, ⟨rfl, [], [], S, .inl ⟨(by show (Nat.beq 10 6 || f 10) = false; rw [hfa10]; rfl), rfl⟩, .inl ⟨(by show (Nat.beq 11 6 || f 11) = false; rw [hfa11]; rfl), rfl⟩⟩, fun d hd => (by cases hd; exact E.get _ _ rfl), E.defers, rfl⟩
     ·replace E := E.add hB11; simp only [List.cons_append, List.nil_append] at S
      refine o_ld E rfl S rfl T.s3 (.there (.here .here)) rfl ?_; clear E; intro a E
      exact ⟨_, _, Heap.le.refl _, ⟨rfl, [], [_], S, .inl ⟨(by show (Nat.beq 10 6 || f 10) = false; rw [hfa10]; rfl), rfl⟩, .inr ⟨(by show (Nat.beq 11 6 || f 11) = true; rw [hfa11]; rfl), _, E.get _ _ rfl, rfl⟩⟩, fun d hd => (by cases hd; exact E.get _ _ rfl), E.defers, rfl⟩
    ·replace E := E.add hB10; simp only [List.cons_append, List.nil_append] at S
     rcases hX11 with ⟨hfa11, rfl⟩ | ⟨hfa11, B9, hB11, rfl⟩
     ·simp only [List.nil_append] at S
      refine o_ld E rfl S rfl T.s3 (.there (.here .here)) rfl ?_; clear E; intro a E
      exact ⟨_, _, Heap.le.refl _, ⟨rfl, [_], [], S, .inr ⟨(by show (Nat.beq 10 6 || f 10) = true; rw [hfa10]; rfl), _, E.get _ _ rfl, rfl⟩, .inl ⟨(by show (Nat.beq 11 6 || f 11) = false; rw [hfa11]; rfl), rfl⟩⟩, fun d hd => (by cases hd; exact E.get _ _ rfl), E.defers, rfl⟩
     ·replace E := E.add hB11; simp only [List.cons_append, List.nil_append] at S
      refine o_ld E rfl S rfl T.s3 (.there (.there (.here .here))) rfl ?_; clear E; intro a E
      exact ⟨_, _, Heap.le.refl _, ⟨rfl, [_], [_], S, .inr ⟨(by show (Nat.beq 10 6 || f 10) = true; rw [hfa10]; rfl), _, E.get _ _ rfl, rfl⟩, .inr ⟨(by show (Nat.beq 11 6 || f 11) = true; rw [hfa11]; rfl), _, E.get _ _ rfl, rfl⟩⟩, fun d hd => (by cases hd; exact E.get _ _ rfl), E.defers, rfl⟩
   ·intro a w G1 f hcl hfi hon hW E hp hO; obtain ⟨rfl, X10_, X11_, S, hX10, hX11⟩ := hW
    rcases hX10 with ⟨hfa10, rfl⟩ | ⟨hfa10, B8, hB10, rfl⟩
    ·simp only [List.nil_append] at S
     rcases hX11 with ⟨hfa11, rfl⟩ | ⟨hfa11, B9, hB11, rfl⟩
     ·simp only [List.nil_append] at S
      refine o_fld E rfl rfl T.f71_2 ?_; clear E; intro a E
      exact ⟨_, _, Heap.le.refl _, ⟨rfl, [], [], S, .inl ⟨(by show (Nat.beq 10 7 || f 10) = false; rw [hfa10]; rfl), rfl⟩, .inl ⟨(by show (Nat.beq 11 7 || f 11) = false; rw [hfa11]; rfl), rfl⟩⟩, fun d hd => (by cases hd; exact E.get _ _ rfl), E.defers, rfl⟩
     ·replace E := E.add hB11; simp only [List.cons_append, List.nil_append] at S
      refine o_fld E rfl rfl T.f71_2 ?_; clear E; intro a E
      exact ⟨_, _, Heap.le.refl _, ⟨rfl, [], [_], S, .inl ⟨(by show (Nat.beq 10 7 || f 10) = false; rw [hfa10]; rfl), rfl⟩, .inr ⟨(by show (Nat.beq 11 7 || f 11) = true; rw [hfa11]; rfl), _, E.get _ _ rfl, rfl⟩⟩, fun d hd => (by cases hd; exact E.get _ _ rfl), E.defers, rfl⟩
    ·replace E := E.add hB10; simp only [List.cons_append, List.nil_append] at S
     rcases hX11 with ⟨hfa11, rfl⟩ | ⟨hfa11, B9, hB11, rfl⟩
     ·simp only [List.nil_append] at S
      refine o_fld E rfl rfl T.f71_2 ?_; clear E; intro a E
      exact ⟨_, _, Heap.le.refl _, ⟨rfl, [_], [], S, .inr ⟨(by show (Nat.beq 10 7 || f 10) = true; rw [hfa10]; rfl), _, E.get _ _ rfl, rfl⟩, .inl ⟨(by show (Nat.beq 11 7 || f 11) = false; rw [hfa11]; rfl), rfl⟩⟩, fun d hd => (by cases hd; exact E.get _ _ rfl), E.defers, rfl⟩
     ·replace E := E.add hB11; simp only [List.cons_append, List.nil_append] at S
      refine o_fld E rfl rfl T.f71_2 ?_; clear E; intro a E
      exact ⟨_, _, Heap.le.refl _, ⟨rfl, [_], [_], S, .inr ⟨(by show (Nat.beq 10 7 || f 10) = true; rw [hfa10]; rfl), _, E.get _ _ rfl, rfl⟩, .inr ⟨(by show (Nat.beq 11 7 || f 11) = true; rw [hfa11]; rfl), _, E.get _ _ rfl, rfl⟩⟩, fun d hd => (by cases hd; exact E.get _ _ rfl), E.defers, rfl⟩
   ·intro a w G1 f hcl hfi hon hW E hp hO; obtain ⟨rfl, X10_, X11_, S, hX10, hX11⟩ := hW
    obtain ⟨_, e7, rfl⟩ := hp 7 60 _ (hon 7 rfl) rfl rfl; replace E := E.add e7
    rcases hX10 with ⟨hfa10, rfl⟩ | ⟨hfa10, B8, hB10, rfl⟩
    ·simp only [List.nil_append] at S
     rcases hX11 with ⟨hfa11, rfl⟩ | ⟨hfa11, B9, hB11, rfl⟩
     ·simp only [List.nil_append] at S
      refine o_ldA E rfl S rfl T.a49 (.here .here) rfl ?_; clear E; intro a E
      exact ⟨_, _, Heap.le.refl _, ⟨rfl, [], [], S, .inl ⟨(by show (Nat.beq 10 8 || f 10) = false; rw [hfa10]; rfl), rfl⟩, .inl ⟨(by show (Nat.beq 11 8 || f 11) = false; rw [hfa11]; rfl), rfl⟩⟩, fun d hd => (by cases hd; exact E.get _ _ rfl), E.defers, rfl⟩
     ·replace E := E.add hB11; simp only [List.cons_append, List.nil_append] at S
      refine o_ldA E rfl S rfl T.a49 (.there (.here .here)) rfl ?_; clear E; intro a E
      exact ⟨_, _, Heap.le.refl _, ⟨rfl, [], [_], S, .inl ⟨(by show (Nat.beq 10 8 || f 10) = false; rw [hfa10]; rfl), rfl⟩, .inr ⟨(by show (Nat.beq 11 8 || f 11) = true; rw [hfa11]; rfl), _, E.get _ _ rfl, rfl⟩⟩, fun d hd => (by cases hd; exact E.get _ _ rfl), E.defers, rfl⟩
    ·replace E := E.add hB10; simp only [List.cons_append, List.nil_append] at S
     rcases hX11 with ⟨hfa11, rfl⟩ | ⟨hfa11, B9, hB11, rfl⟩
     ·simp only [List.nil_append] at S
      refine o_ldA E rfl S rfl T.a49 (.there (.here .here)) rfl ?_; clear E; intro a E
      exact ⟨_, _, Heap.le.refl _, ⟨rfl, [_], [], S, .inr ⟨(by show (Nat.beq 10 8 || f 10) = true; rw [hfa10]; rfl), _, E.get _ _ rfl, rfl⟩, .inl ⟨(by show (Nat.beq 11 8 || f 11) = false; rw [hfa11]; rfl), rfl⟩⟩, fun d hd => (by cases hd; exact E.get _ _ rfl), E.defers, rfl⟩
     ·replace E := E.add hB11; simp only [List.cons_append, List.nil_append] at S
      refine o_ldA E rfl S rfl T.a49 (.there (.there (.here .here))) rfl ?_; clear E; intro a E
      exact ⟨_, _, Heap.le.refl _, ⟨rfl, [_], [_], S, .inr ⟨(by show (Nat.beq 10 8 || f 10) = true; rw [hfa10]; rfl), _, E.get _ _ rfl, rfl⟩, .inr ⟨(by show (Nat.beq 11 8 || f 11) = true; rw [hfa11]; rfl), _, E.get _ _ rfl, rfl⟩⟩, fun d hd => (by cases hd; exact E.get _ _ rfl), E.defers, rfl⟩
   ·intro a w G1 f hcl hfi hon hW E hp hO; obtain ⟨rfl, X10_, X11_, S, hX10, hX11⟩ := hW
    obtain ⟨_, e6, rfl⟩ := hp 6 59 _ (hon 6 rfl) rfl rfl; replace E := E.add e6
    obtain ⟨_, e8, rfl⟩ := hp 8 61 _ (hon 8 rfl) rfl rfl; replace E := E.add e8
    rcases hX10 with ⟨hfa10, rfl⟩ | ⟨hfa10, B8, hB10, rfl⟩
    ·simp only [List.nil_append] at S
     rcases hX11 with ⟨hfa11, rfl⟩ | ⟨hfa11, B9, hB11, rfl⟩
     ·simp only [List.nil_append] at S
      refine o_build (cs := #[.int .i64 ((b.es.getD i ENT0).dom), .int .i64 ((b.es.getD i ENT0).real.k), .int .i64 ((b.es.getD i ENT0).real.n), str ((b.es.getD i ENT0).real.s)]) E rfl rfl (by kernel_rfl) ?_; clear E; intro a E
      exact ⟨_, _, Heap.le.refl _, ⟨rfl, [], [], S, .inl ⟨(by show (Nat.beq 10 9 || f 10) = false; rw [hfa10]; rfl), rfl⟩, .inl ⟨(by show (Nat.beq 11 9 || f 11) = false; rw [hfa11]; rfl), rfl⟩⟩, fun d hd => (by cases hd; exact E.get _ _ rfl), E.defers, rfl⟩
     ·replace E := E.add hB11; simp only [List.cons_append, List.nil_append] at S
      refine o_build (cs := #[.int .i64 ((b.es.getD i ENT0).dom), .int .i64 ((b.es.getD i ENT0).real.k), .int .i64 ((b.es.getD i ENT0).real.n), str ((b.es.getD i ENT0).real.s)]) E rfl rfl (by kernel_rfl) ?_; clear E; intro a E
      exact ⟨_, _, Heap.le.refl _, ⟨rfl, [], [_], S, .inl ⟨(by show (Nat.beq 10 9 || f 10) = false; rw [hfa10]; rfl), rfl⟩, .inr ⟨(by show (Nat.beq 11 9 || f 11) = true; rw [hfa11]; rfl), _, E.get _ _ rfl, rfl⟩⟩, fun d hd => (by cases hd; exact E.get _ _ rfl), E.defers, rfl⟩
    ·replace E := E.add hB10; simp only [List.cons_append, List.nil_append] at S
     rcases hX11 with ⟨hfa11, rfl⟩ | ⟨hfa11, B9, hB11, rfl⟩
     ·simp only [List.nil_append] at S
      refine o_build (cs := #[.int .i64 ((b.es.getD i ENT0).dom), .int .i64 ((b.es.getD i ENT0).real.k), .int .i64 ((b.es.getD i ENT0).real.n), str ((b.es.getD i ENT0).real.s)]) E rfl rfl (by kernel_rfl) ?_; clear E; intro a E
      exact ⟨_, _, Heap.le.refl _, ⟨rfl, [_], [], S, .inr ⟨(by show (Nat.beq 10 9 || f 10) = true; rw [hfa10]; rfl), _, E.get _ _ rfl, rfl⟩, .inl ⟨(by show (Nat.beq 11 9 || f 11) = false; rw [hfa11]; rfl), rfl⟩⟩, fun d hd => (by cases hd; exact E.get _ _ rfl), E.defers, rfl⟩
     ·replace E := E.add hB11; simp only [List.cons_append, List.nil_append] at S
      refine o_build (cs := #[.int .i64 ((b.es.getD i ENT0).dom), .int .i64 ((b.es.getD i ENT0).real.k), .int .i64 ((b.es.getD i ENT0).real.n), str ((b.es.getD i ENT0).real.s)]) E rfl rfl (by kernel_rfl) ?_; clear E; intro a E
      exact ⟨_, _, Heap.le.refl _, ⟨rfl, [_], [_], S, .inr ⟨(by show (Nat.beq 10 9 || f 10) = true; rw [hfa10]; rfl), _, E.get _ _ rfl, rfl⟩, .inr ⟨(by show (Nat.beq 11 9 || f 11) = true; rw [hfa11]; rfl), _, E.get _ _ rfl, rfl⟩⟩, fun d hd => (by cases hd; exact E.get _ _ rfl), E.defers, rfl⟩
   ·intro a w G1 f hcl hfi hon hW E hp hO; obtain ⟨rfl, X10_, X11_, S, hX10, hX11⟩ := hW
    obtain ⟨_, rfl⟩ := hX10.resolve_right (fun h => by rw [hfi] at h; exact absurd h.1 (by decide)); simp only [List.nil_append] at S
    rcases hX11 with ⟨hfa11, rfl⟩ | ⟨hfa11, B9, hB11, rfl⟩
    ·simp only [List.nil_append] at S
     refine o_allocZ E rfl S ?_; clear E S; intro B8 w a S E
     have hfs12 : f 12 = false := by
      cases hq : f 12 with
      | false => rfl
      | true => (have := hcl 12 _ rfl hq 10 rfl; rw [hfi] at this; cases this)
     skip
     exact ⟨_, _, Heap.le.refl _, ⟨rfl, [_], [], S, .inr ⟨(by show (Nat.beq 10 10 || f 10) = true; rfl), _, E.get _ _ rfl, (by first | rfl | (simp only [updF, hfs12]; rfl))⟩, .inl ⟨(by show (Nat.beq 11 10 || f 11) = false; rw [hfa11]; rfl), rfl⟩⟩, fun d hd => (by cases hd; exact E.get _ _ rfl), E.defers, trivial⟩
    ·replace E := E.add hB11; simp only [List.cons_append, List.nil_append] at S
     refine o_allocZ E rfl S ?_; clear E S; intro B8 w a S E
     have hfs12 : f 12 = false := by
      cases hq : f 12 with
      | false => rfl
      | true => (have := hcl 12 _ rfl hq 10 rfl; rw [hfi] at this; cases this)
     skip
     exact ⟨_, _, Heap.le.refl _, ⟨rfl, [_], [_], S, .inr ⟨(by show (Nat.beq 10 10 || f 10) = true; rfl), _, E.get _ _ rfl, (by first | rfl | (simp only [updF, hfs12]; rfl))⟩, .inr ⟨(by show (Nat.beq 11 10 || f 11) = true; rw [hfa11]; rfl), _, E.get _ _ rfl, rfl⟩⟩, fun d hd => (by cases hd; exact E.get _ _ rfl), E.defers, trivial⟩
   ·intro a w G1 f hcl hfi hon hW E hp hO; obtain ⟨rfl, X10_, X11_, S, hX10, hX11⟩ := hW
    rcases hX10 with ⟨hfa10, rfl⟩ | ⟨hfa10, B8, hB10, rfl⟩
    ·simp only [List.nil_append] at S
     obtain ⟨_, rfl⟩ := hX11.resolve_right (fun h => by rw [hfi] at h; exact absurd h.1 (by decide)); simp only [List.nil_append] at S
     refine o_allocZ E rfl S ?_; clear E S; intro B9 w a S E
     have hfs13 : f 13 = false := by
      cases hq : f 13 with
      | false => rfl
      | true => (have := hcl 13 _ rfl hq 11 rfl; rw [hfi] at this; cases this)
     skip
     exact ⟨_, _, Heap.le.refl _, ⟨rfl, [], [_], S, .inl ⟨(by show (Nat.beq 10 11 || f 10) = false; rw [hfa10]; rfl), rfl⟩, .inr ⟨(by show (Nat.beq 11 11 || f 11) = true; rfl), _, E.get _ _ rfl, (by first | rfl | (simp only [updF, hfs13]; rfl))⟩⟩, fun d hd => (by cases hd; exact E.get _ _ rfl), E.defers, trivial⟩
    ·replace E := E.add hB10; simp only [List.cons_append, List.nil_append] at S
     obtain ⟨_, rfl⟩ := hX11.resolve_right (fun h => by rw [hfi] at h; exact absurd h.1 (by decide)); simp only [List.nil_append] at S
     refine o_allocZ E rfl S ?_; clear E S; intro B9 w a S E
     replace S := S.front (C := [(B8, Cells 108 [(0, bif f 12 then .int .i64 ((b.es.getD i ENT0).dom) else .int .i64 0), (1, bif f 12 then .int .i64 ((b.es.getD i ENT0).name.k) else .int .i64 0), (2, bif f 12 then .int .i64 ((b.es.getD i ENT0).name.n) else .int .i64 0), (3, bif f 12 then str ((b.es.getD i ENT0).name.s) else str [])])]) (.there .here)
     have hfs13 : f 13 = false := by
      cases hq : f 13 with
      | false => rfl
      | true => (have := hcl 13 _ rfl hq 11 rfl; rw [hfi] at this; cases this)
     skip
     exact ⟨_, _, Heap.le.refl _, ⟨rfl, [_], [_], S, .inr ⟨(by show (Nat.beq 10 11 || f 10) = true; rw [hfa10]; rfl), _, E.get _ _ rfl, rfl⟩, .inr ⟨(by show (Nat.beq 11 11 || f 11) = true; rfl), _, E.get _ _ rfl, (by first | rfl | (simp only [updF, hfs13]; rfl))⟩⟩, fun d hd => (by cases hd; exact E.get _ _ rfl), E.defers, trivial⟩
   ·intro a w G1 f hcl hfi hon hW E hp hO; obtain ⟨rfl, X10_, X11_, S, hX10, hX11⟩ := hW
    obtain ⟨_, e4, rfl⟩ := hp 4 57 _ (hon 4 rfl) rfl rfl; replace E := E.add e4
    have hfa10 : f 10 = true := hon 10 rfl
    obtain ⟨_, B8, hB10, rfl⟩ := hX10.resolve_left (fun h => by rw [hfa10] at h; exact absurd h.1 (by decide)); replace E := E.add hB10; simp only [List.cons_append, List.nil_append] at S
    have hfa11 : f 11 = true := hon 11 rfl
    obtain ⟨_, B9, hB11, rfl⟩ := hX11.resolve_left (fun h => by rw [hfa11] at h; exact absurd h.1 (by decide)); replace E := E.add hB11; simp only [List.cons_append, List.nil_append] at S
    refine o_stA E S rfl rfl rfl T.a108 (.here .here) rfl ?_; clear S; intro w S
    replace S := S.conv (L2 := [(0, _), (1, _), (2, _), (3, _)]) (.here .here) ⟨rfl, rfl, rfl, rfl, trivial⟩
    exact ⟨.bool true, _, Heap.le.refl _, ⟨rfl, [_], [_], S, .inr ⟨(by show (Nat.beq 10 12 || f 10) = true; rw [hfa10]; rfl), _, E.get _ _ rfl, rfl⟩, .inr ⟨(by show (Nat.beq 11 12 || f 11) = true; rw [hfa11]; rfl), _, E.get _ _ rfl, rfl⟩⟩, fun d hd => (by cases hd), E.defers, trivial⟩
   ·intro a w G1 f hcl hfi hon hW E hp hO; obtain ⟨rfl, X10_, X11_, S, hX10, hX11⟩ := hW
    obtain ⟨_, e9, rfl⟩ := hp 9 62 _ (hon 9 rfl) rfl rfl; replace E := E.add e9
    have hfa10 : f 10 = true := (hcl 12 _ rfl (hon 12 rfl) 10 rfl)
    obtain ⟨_, B8, hB10, rfl⟩ := hX10.resolve_left (fun h => by rw [hfa10] at h; exact absurd h.1 (by decide)); replace E := E.add hB10; simp only [List.cons_append, List.nil_append] at S
    have hfa11 : f 11 = true := hon 11 rfl
    obtain ⟨_, B9, hB11, rfl⟩ := hX11.resolve_left (fun h => by rw [hfa11] at h; exact absurd h.1 (by decide)); replace E := E.add hB11; simp only [List.cons_append, List.nil_append] at S
    refine o_stA E S rfl rfl rfl T.a108 (.there (.here .here)) rfl ?_; clear S; intro w S
    replace S := S.conv (L2 := [(0, _), (1, _), (2, _), (3, _)]) (.there (.here .here)) ⟨rfl, rfl, rfl, rfl, trivial⟩
    exact ⟨.bool true, _, Heap.le.refl _, ⟨rfl, [_], [_], S, .inr ⟨(by show (Nat.beq 10 13 || f 10) = true; rw [hfa10]; rfl), _, E.get _ _ rfl, rfl⟩, .inr ⟨(by show (Nat.beq 11 13 || f 11) = true; rw [hfa11]; rfl), _, E.get _ _ rfl, rfl⟩⟩, fun d hd => (by cases hd), E.defers, trivial⟩
   clear E S; intro a w _ f hle33 hall HW E hp; obtain ⟨rfl, X10_, X11_, S, hX10, hX11⟩ := HW; clear hle33
   have hfa10 := hall 10 (by decide); obtain ⟨_, B8, hB10, rfl⟩ := hX10.resolve_left (fun h => by rw [hfa10] at h; exact absurd h.1 (by decide)); replace E := E.add hB10; clear hX10
   have hfa11 := hall 11 (by decide); obtain ⟨_, B9, hB11, rfl⟩ := hX11.resolve_left (fun h => by rw [hfa11] at h; exact absurd h.1 (by decide)); replace E := E.add hB11; clear hX11
   have hfw12 := hall 12 (by decide)
   have hfw13 := hall 13 (by decide)
   simp only [List.cons_append, List.nil_append, hfw12, hfw13, cond_true] at S
   clear hp hall
   refine hK31 _ _ ?_; clear hK31
   refine wp_seq_k (fun K35 hK34 => ?_)
   refine wp_seq_k (fun K37 hK36 => ?_)
   refine drawnP [fun v => v = .map (some B10), fun v => v = .agg #[.int .i64 ((b.es.getD i ENT0).dom), .int .i64 ((b.es.getD i ENT0).name.k), .int .i64 ((b.es.getD i ENT0).name.n), str ((b.es.getD i ENT0).name.s)], fun v => v = .int .i64 (((posM (kN b) i) (⟨(b.es.getD i ENT0).dom, ((b.es.getD i ENT0).name)⟩ : DVal)).getD 0), fun v => v = .map (some B11), fun v => v = .agg #[.int .i64 ((b.es.getD i ENT0).dom), .int .i64 ((b.es.getD i ENT0).real.k), .int .i64 ((b.es.getD i ENT0).real.n), str ((b.es.getD i ENT0).real.s)], fun v => v = .int .i64 (((posM (kR b) i) (⟨(b.es.getD i ENT0).dom, ((b.es.getD i ENT0).real)⟩ : DVal)).getD 0), fun v => v = .int .i64 ((((posM (kN b) i) (⟨(b.es.getD i ENT0).dom, ((b.es.getD i ENT0).name)⟩ : DVal)).getD 0) + (((posM (kR b) i) (⟨(b.es.getD i ENT0).dom, ((b.es.getD i ENT0).real)⟩ : DVal)).getD 0)), fun v => v = .bool (decide (0 < ((((posM (kN b) i) (⟨(b.es.getD i ENT0).dom, ((b.es.getD i ENT0).name)⟩ : DVal)).getD 0) + (((posM (kR b) i) (⟨(b.es.getD i ENT0).dom, ((b.es.getD i ENT0).real)⟩ : DVal)).getD 0))))] T.mix rfl E S rfl ⟨?_, ?_, ?_, ?_, ?_, ?_, ?_, ?_, trivial⟩ ?_
   ·intro a w G1 hl S E hp
    refine o_move E rfl rfl ?_; clear E; intro a E
    exact ⟨_, _, S, rfl, E.get _ _ rfl, E.defers, rfl⟩
   ·intro a w G1 hl S E hp
    refine o_ldA E rfl S rfl T.a108 (.here .here) rfl ?_; clear E; intro a E
    exact ⟨_, _, S, rfl, E.get _ _ rfl, E.defers, rfl⟩
   ·intro a w G1 hl S E hp
    obtain ⟨_, e0, rfl⟩ := hp 0 63 _ rfl rfl rfl; replace E := E.add e0
    obtain ⟨_, e1, rfl⟩ := hp 1 64 _ rfl rfl rfl; replace E := E.add e1
    refine o_lookI T.k108 Tryd.underlying106 T.zI kvD_inj E rfl S (.there (.there (.there (.there (.here .here))))) rfl rfl rfl (key_dval (x := (⟨(b.es.getD i ENT0).dom, ((b.es.getD i ENT0).name)⟩ : DVal)) T.K108 hkd (by first | exact hkn | exact hkr)) ?_; clear E; intro a E
    exact ⟨_, _, S, rfl, E.get _ _ rfl, E.defers, rfl⟩
   ·intro a w G1 hl S E hp
    refine o_move E rfl rfl ?_; clear E; intro a E
    exact ⟨_, _, S, rfl, E.get _ _ rfl, E.defers, rfl⟩
   ·intro a w G1 hl S E hp
    refine o_ldA E rfl S rfl T.a108 (.there (.here .here)) rfl ?_; clear E; intro a E
    exact ⟨_, _, S, rfl, E.get _ _ rfl, E.defers, rfl⟩
   ·intro a w G1 hl S E hp
    obtain ⟨_, e3, rfl⟩ := hp 3 66 _ rfl rfl rfl; replace E := E.add e3
    obtain ⟨_, e4, rfl⟩ := hp 4 67 _ rfl rfl rfl; replace E := E.add e4
    refine o_lookI T.k108 Tryd.underlying106 T.zI kvD_inj E rfl S (.there (.there (.there (.here .here)))) rfl rfl rfl (key_dval (x := (⟨(b.es.getD i ENT0).dom, ((b.es.getD i ENT0).real)⟩ : DVal)) T.K108 hkd (by first | exact hkn | exact hkr)) ?_; clear E; intro a E
    exact ⟨_, _, S, rfl, E.get _ _ rfl, E.defers, rfl⟩
   ·intro a w G1 hl S E hp
    obtain ⟨_, e2, rfl⟩ := hp 2 65 _ rfl rfl rfl; replace E := E.add e2
    obtain ⟨_, e5, rfl⟩ := hp 5 68 _ rfl rfl rfl; replace E := E.add e5
    refine o_add E rfl rfl rfl (by omega) ?_; clear E; intro a E
    exact ⟨_, _, S, rfl, E.get _ _ rfl, E.defers, rfl⟩
   ·intro a w G1 hl S E hp
    obtain ⟨_, e6, rfl⟩ := hp 6 69 _ rfl rfl rfl; replace E := E.add e6
    refine o_gtr E rfl rfl rfl ?_; clear E; intro a E
    exact ⟨_, _, S, rfl, E.get _ _ rfl, E.defers, rfl⟩
   clear E S; intro a w S E hp
   obtain ⟨_, e7, rfl⟩ := hp 7 70 _ rfl rfl; replace E := E.add e7
   clear hp
   refine hK36 _ _ ?_; clear hK36
   refine cond E rfl (fun h38r => ?_) (fun h38r => ?_)
   ·have h38 := nm h38r
    refine sr fun K hK => ?_
    refine rn 1 E S ?_; clear E S; intro a w E S
    apply hK; clear hK K
    refine rt hQ E S ?_
    have he : enteredB b = false := ent_bad (i := i) (by omega) (met_bad (of_decide_eq_true h38r))
    show _ = _
    rw [he]
    rfl
   ·have h38 := nm h38r
    refine wp_skip ?_
    refine hK34 _ _ ?_; clear hK34
    replace E := E.cut (L' := [(1, .pointer (some ⟨B1, 0, none⟩)), (2, .bool false), (3, .map (some B10)), (4, .map (some B11)), (5, .int .i64 ((b.es.getD i ENT0).dom)), (6, .int .i64 (i : Int)), (7, .pointer (some ⟨B7, 0, none⟩)), (8, .pointer (some ⟨B8, 0, none⟩)), (9, .pointer (some ⟨B9, 0, none⟩)), (13, .slice (some ⟨eb15, eo15, none⟩) b.es.length ce), (14, .int .i64 (b.es.length : Int)), (15, .int .i64 (i : Int)), (16, .bool (decide ((i : Int) < (b.es.length : Int)))), (17, .int .i64 (i : Int)), (18, .pointer (some ⟨eb15, eo15 + (i : Int).toNat * 7, none⟩)), (19, .agg #[.int .i64 ((b.es.getD i ENT0).dom), .int .i64 ((b.es.getD i ENT0).name.k), .int .i64 ((b.es.getD i ENT0).name.n), str ((b.es.getD i ENT0).name.s), .int .i64 ((b.es.getD i ENT0).real.k), .int .i64 ((b.es.getD i ENT0).real.n), str ((b.es.getD i ENT0).real.s)]), (20, .pointer (some ⟨B7, 0, none⟩)), (21, .int .i64 ((b.es.getD i ENT0).dom)), (22, .int .i64 (lastD b i)), (23, .bool (decide (((b.es.getD i ENT0).dom) < (lastD b i)))), (24, .bool (decide (((b.es.getD i ENT0).dom) < (lastD b i)))), (28, .bool ((decide (((b.es.getD i ENT0).dom) < (lastD b i))) || (decide (4 < ((b.es.getD i ENT0).dom))))), (29, .bool ((decide (((b.es.getD i ENT0).dom) < (lastD b i))) || (decide (4 < ((b.es.getD i ENT0).dom))))), (38, .bool (((decide (((b.es.getD i ENT0).dom) < (lastD b i))) || (decide (4 < ((b.es.getD i ENT0).dom)))) || (decide ((wayP b.pol ((b.es.getD i ENT0).dom)) = 0)))), (39, .bool (((decide (((b.es.getD i ENT0).dom) < (lastD b i))) || (decide (4 < ((b.es.getD i ENT0).dom)))) || (decide ((wayP b.pol ((b.es.getD i ENT0).dom)) = 0)))), (44, .bool ((((decide (((b.es.getD i ENT0).dom) < (lastD b i))) || (decide (4 < ((b.es.getD i ENT0).dom)))) || (decide ((wayP b.pol ((b.es.getD i ENT0).dom)) = 0))) || (!(nameB ((b.es.getD i ENT0).name))))), (45, .bool ((((decide (((b.es.getD i ENT0).dom) < (lastD b i))) || (decide (4 < ((b.es.getD i ENT0).dom)))) || (decide ((wayP b.pol ((b.es.getD i ENT0).dom)) = 0))) || (!(nameB ((b.es.getD i ENT0).name))))), (50, .bool (((((decide (((b.es.getD i ENT0).dom) < (lastD b i))) || (decide (4 < ((b.es.getD i ENT0).dom)))) || (decide ((wayP b.pol ((b.es.getD i ENT0).dom)) = 0))) || (!(nameB ((b.es.getD i ENT0).name)))) || (!(nameB ((b.es.getD i ENT0).real))))), (51, .pointer (some ⟨B7, 0, none⟩)), (52, .int .i64 ((b.es.getD i ENT0).dom)), (70, .bool (decide (0 < ((((posM (kN b) i) (⟨(b.es.getD i ENT0).dom, ((b.es.getD i ENT0).name)⟩ : DVal)).getD 0) + (((posM (kR b) i) (⟨(b.es.getD i ENT0).dom, ((b.es.getD i ENT0).real)⟩ : DVal)).getD 0)))))]) ⟨rfl, rfl, rfl, rfl, rfl, rfl, rfl, rfl, rfl, rfl, rfl, rfl, rfl, rfl, rfl, rfl, rfl, rfl, rfl, rfl, rfl, rfl, rfl, rfl, rfl, rfl, rfl, rfl, rfl, rfl, rfl, trivial⟩
    refine drawnF (fun f G' w => Heap.le GL7 G' ∧ St w0 G [] G' w [[(B8, Cells 108 [(0, .int .i64 ((b.es.getD i ENT0).dom)), (1, .int .i64 ((b.es.getD i ENT0).name.k)), (2, .int .i64 ((b.es.getD i ENT0).name.n)), (3, str ((b.es.getD i ENT0).name.s))])], [(B9, Cells 108 [(0, .int .i64 ((b.es.getD i ENT0).dom)), (1, .int .i64 ((b.es.getD i ENT0).real.k)), (2, .int .i64 ((b.es.getD i ENT0).real.n)), (3, str ((b.es.getD i ENT0).real.s))])], [(B7, Cells 71 [(0, .int .i64 ((b.es.getD i ENT0).dom)), (1, .int .i64 ((b.es.getD i ENT0).name.k)), (2, .int .i64 ((b.es.getD i ENT0).name.n)), (3, str ((b.es.getD i ENT0).name.s)), (4, .int .i64 ((b.es.getD i ENT0).real.k)), (5, .int .i64 ((b.es.getD i ENT0).real.n)), (6, str ((b.es.getD i ENT0).real.s))])], [(B11, MapF Tryd.prog 108 kvD vvI (bif f 9 then upd (posM (kR b) i) (⟨(b.es.getD i ENT0).dom, ((b.es.getD i ENT0).real)⟩ : DVal) (some ((i : Int) + 1)) else posM (kR b) i))], [(B10, MapF Tryd.prog 108 kvD vvI (bif f 8 then upd (posM (kN b) i) (⟨(b.es.getD i ENT0).dom, ((b.es.getD i ENT0).name)⟩ : DVal) (some ((i : Int) + 1)) else posM (kN b) i))], [(B1, Cells 32 (PC b [(14, .slice (some ⟨eb15, eo15, none⟩) b.es.length ce), (15, .slice Am b.ms.length cm), (16, .slice Ar b.rs.length cr)]))]]) [fun v _ => v = .map (some B10), fun v _ => v = .agg #[.int .i64 ((b.es.getD i ENT0).dom), .int .i64 ((b.es.getD i ENT0).name.k), .int .i64 ((b.es.getD i ENT0).name.n), str ((b.es.getD i ENT0).name.s)], fun v _ => v = .map (some B11), fun v _ => v = .agg #[.int .i64 ((b.es.getD i ENT0).dom), .int .i64 ((b.es.getD i ENT0).real.k), .int .i64 ((b.es.getD i ENT0).real.n), str ((b.es.getD i ENT0).real.s)], fun v _ => v = .int .i64 (i : Int), fun v _ => v = .int .i64 ((i : Int) + 1), fun v _ => v = .int .i64 (i : Int), fun v _ => v = .int .i64 ((i : Int) + 1), fun _ _ => True, fun _ _ => True] [] T.mix rfl E ⟨Heap.le.refl _, S.drew⟩ rfl (by simp) (AllM.get ⟨fun _ _ _ _ h => h, fun _ _ _ _ h => h, fun _ _ _ _ h => h, fun _ _ _ _ h => h, fun _ _ _ _ h => h, fun _ _ _ _ h => h, fun _ _ _ _ h => h, fun _ _ _ _ h => h, fun _ _ _ _ h => h, fun _ _ _ _ h => h, trivial⟩) ⟨?_, ?_, ?_, ?_, ?_, ?_, ?_, ?_, ?_, ?_, trivial⟩ ?_
    ·intro a w G1 f hcl hfi hon hW E hp hO; obtain ⟨hl, S⟩ := hW
     refine o_move E rfl rfl ?_; clear E; intro a E
     exact ⟨_, _, Heap.le.refl _, ⟨hl, S⟩, fun d hd => (by cases hd; exact E.get _ _ rfl), E.defers, rfl⟩
    ·intro a w G1 f hcl hfi hon hW E hp hO; obtain ⟨hl, S⟩ := hW
     refine o_ldA E rfl S rfl T.a108 (.here .here) rfl ?_; clear E; intro a E
     exact ⟨_, _, Heap.le.refl _, ⟨hl, S⟩, fun d hd => (by cases hd; exact E.get _ _ rfl), E.defers, rfl⟩
    ·intro a w G1 f hcl hfi hon hW E hp hO; obtain ⟨hl, S⟩ := hW
     refine o_move E rfl rfl ?_; clear E; intro a E
     exact ⟨_, _, Heap.le.refl _, ⟨hl, S⟩, fun d hd => (by cases hd; exact E.get _ _ rfl), E.defers, rfl⟩
    ·intro a w G1 f hcl hfi hon hW E hp hO; obtain ⟨hl, S⟩ := hW
     refine o_ldA E rfl S rfl T.a108 (.there (.here .here)) rfl ?_; clear E; intro a E
     exact ⟨_, _, Heap.le.refl _, ⟨hl, S⟩, fun d hd => (by cases hd; exact E.get _ _ rfl), E.defers, rfl⟩
    ·intro a w G1 f hcl hfi hon hW E hp hO; obtain ⟨hl, S⟩ := hW
     refine o_move E rfl rfl ?_; clear E; intro a E
     exact ⟨_, _, Heap.le.refl _, ⟨hl, S⟩, fun d hd => (by cases hd; exact E.get _ _ rfl), E.defers, rfl⟩
    ·intro a w G1 f hcl hfi hon hW E hp hO; obtain ⟨hl, S⟩ := hW
     obtain ⟨_, e4, rfl⟩ := hp 4 75 _ (hon 4 rfl) rfl rfl; replace E := E.add e4
     refine o_add E rfl rfl rfl (by omega) ?_; clear E; intro a E
     exact ⟨_, _, Heap.le.refl _, ⟨hl, S⟩, fun d hd => (by cases hd; exact E.get _ _ rfl), E.defers, rfl⟩
    ·intro a w G1 f hcl hfi hon hW E hp hO; obtain ⟨hl, S⟩ := hW
     refine o_move E rfl rfl ?_; clear E; intro a E
     exact ⟨_, _, Heap.le.refl _, ⟨hl, S⟩, fun d hd => (by cases hd; exact E.get _ _ rfl), E.defers, rfl⟩
    ·intro a w G1 f hcl hfi hon hW E hp hO; obtain ⟨hl, S⟩ := hW
     obtain ⟨_, e6, rfl⟩ := hp 6 77 _ (hon 6 rfl) rfl rfl; replace E := E.add e6
     refine o_add E rfl rfl rfl (by omega) ?_; clear E; intro a E
     exact ⟨_, _, Heap.le.refl _, ⟨hl, S⟩, fun d hd => (by cases hd; exact E.get _ _ rfl), E.defers, rfl⟩
    ·intro a w G1 f hcl hfi hon hW E hp hO; obtain ⟨hl, S⟩ := hW
     obtain ⟨_, e0, rfl⟩ := hp 0 71 _ (hon 0 rfl) rfl rfl; replace E := E.add e0
     obtain ⟨_, e1, rfl⟩ := hp 1 72 _ (hon 1 rfl) rfl rfl; replace E := E.add e1
     obtain ⟨_, e5, rfl⟩ := hp 5 76 _ (hon 5 rfl) rfl rfl; replace E := E.add e5
     simp only [hfi, cond_false] at S
     refine o_mapUpd (y := (⟨(b.es.getD i ENT0).dom, ((b.es.getD i ENT0).name)⟩ : DVal)) (u := (i : Int) + 1) T.k108 Tryd.underlying106 kvD_inj E rfl S (.there (.there (.there (.there (.here .here))))) rfl rfl rfl rfl rfl (key_dval (x := (⟨(b.es.getD i ENT0).dom, ((b.es.getD i ENT0).name)⟩ : DVal)) T.K108 hkd (by first | exact hkn | exact hkr)) ?_; clear S; intro w S
     exact ⟨.bool true, _, Heap.le.refl _, ⟨hl, S⟩, fun d hd => (by cases hd), E.defers, trivial⟩
    ·intro a w G1 f hcl hfi hon hW E hp hO; obtain ⟨hl, S⟩ := hW
     obtain ⟨_, e2, rfl⟩ := hp 2 73 _ (hon 2 rfl) rfl rfl; replace E := E.add e2
     obtain ⟨_, e3, rfl⟩ := hp 3 74 _ (hon 3 rfl) rfl rfl; replace E := E.add e3
     obtain ⟨_, e7, rfl⟩ := hp 7 78 _ (hon 7 rfl) rfl rfl; replace E := E.add e7
     simp only [hfi, cond_false] at S
     refine o_mapUpd (y := (⟨(b.es.getD i ENT0).dom, ((b.es.getD i ENT0).real)⟩ : DVal)) (u := (i : Int) + 1) T.k108 Tryd.underlying106 kvD_inj E rfl S (.there (.there (.there (.here .here)))) rfl rfl rfl rfl rfl (key_dval (x := (⟨(b.es.getD i ENT0).dom, ((b.es.getD i ENT0).real)⟩ : DVal)) T.K108 hkd (by first | exact hkn | exact hkr)) ?_; clear S; intro w S
     exact ⟨.bool true, _, Heap.le.refl _, ⟨hl, S⟩, fun d hd => (by cases hd), E.defers, trivial⟩
    clear E S; intro a w G40 f hle41 hall HW E hp; obtain ⟨_, S⟩ := HW
    have hfw8 := hall 8 (by decide)
    have hfw9 := hall 9 (by decide)
    simp only [hfw8, hfw9, cond_true] at S
    replace hg0 := hg0.le hle41
    replace hg1 := hg1.le hle41
    replace hRe := hRe.le hle41
    replace hRm := hRm.le hle41
    replace hRr := hRr.le hle41
    clear hp hall
    refine hK13 _ _ ?_; clear hK13
    refine wp_region_lit ?_
    refine rn 2 E S ?_; clear E S; intro a w E S
    replace S := S.drop (M' := [_, _, _]) (sub_drop (sub_drop (sub_drop (sub_keep (sub_keep (sub_keep sub_nil))))))
    replace S := S.turnP (q := MapF Tryd.prog 108 kvD vvI (posM (kN b) (i + 1))) (.there (.here .here)) (fun o ho => ho.turn (rfl))
    replace S := S.turnP (q := MapF Tryd.prog 108 kvD vvI (posM (kR b) (i + 1))) (.here .here) (fun o ho => ho.turn (rfl))
    have hall2 : ∀ j, j < i + 1 → entOk b j = true := by
     intro j hj
     rcases Nat.lt_or_ge j i with h_9 | h_9
     ·exact hall j h_9
     ·obtain rfl : j = i := by omega
      exact even_ok hall (by have := h28r; unfold oddB; exact this) (of_decide_eq_false h38r)
    exact ⟨i + 1, ⟨_, (hle8.trans hle41), S, E.cut ⟨rfl, rfl, rfl, rfl, rfl, rfl, rfl, rfl, trivial⟩, ⟨by omega, hall2⟩⟩, by omega⟩
 ·have h12 := nm h12r
  refine wp_exit ?_
  refine hK4 _ _ ?_; clear hK4
  refine sr fun K hK => ?_
  refine rn 1 E S ?_; clear E S; intro a w E S
  apply hK; clear hK K
  refine rt hQ E S ?_
  have he : enteredB b = true := rall_yes fun j hj => hall j (by omega)
  show _ = _
  rw [he]
  rfl
end Go.Proofs.YtnfadpkhjfillaaDoor.T28
