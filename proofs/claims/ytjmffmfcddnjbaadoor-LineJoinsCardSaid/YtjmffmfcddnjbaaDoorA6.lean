/- Chapter 08 walked: lines, words. -/
import Derived.Test.YtjmffmfcddnjbaaDoorL9
import Derived.Test.YtjmffmfcddnjbaaDoorProg
set_option linter.unusedVariables false
set_option linter.unusedSimpArgs false
namespace Go.Proofs.YtjmffmfcddnjbaaDoor.T9
open Go Go.Proofs.YtjmffmfcddnjbaaDoor.X
theorem T.a63 : aggSz Tryd.prog 63 = some 2 := by kernel_rfl
theorem T.g25 : goFn Tryd.prog 25 = true := by kernel_rfl
theorem T.g26 : goFn Tryd.prog 26 = true := by kernel_rfl
theorem T.g27 : goFn Tryd.prog 27 = true := by kernel_rfl
theorem T.g28 : goFn Tryd.prog 28 = true := by kernel_rfl
theorem T.g29 : goFn Tryd.prog 29 = true := by kernel_rfl
theorem T.g30 : goFn Tryd.prog 30 = true := by kernel_rfl
theorem T.g42 : goFn Tryd.prog 42 = true := by kernel_rfl
theorem T.g43 : goFn Tryd.prog 43 = true := by kernel_rfl
theorem T.g44 : goFn Tryd.prog 44 = true := by kernel_rfl
theorem T.g45 : goFn Tryd.prog 45 = true := by kernel_rfl
theorem T.g46 : goFn Tryd.prog 46 = true := by kernel_rfl
theorem T.g59 : goFn Tryd.prog 59 = true := by kernel_rfl
theorem T.g60 : goFn Tryd.prog 60 = true := by kernel_rfl
theorem T.g61 : goFn Tryd.prog 61 = true := by kernel_rfl
theorem T.l42 : slOf Tryd.prog 42 = some (9, 1) := by kernel_rfl
theorem T.mix : Tryd.prog.follows .mixedOrders = true := by kernel_rfl
theorem T.p42 : apOf Tryd.prog 42 = some (9, 1, 16) := by kernel_rfl
theorem T.q63 : flatT Tryd.prog 63 = some [.int .i64, .int .i64] := by kernel_rfl
theorem T.s9 : scal Tryd.prog 9 = true := by kernel_rfl
theorem T.z63 : zeroOf Tryd.prog 63 = some (.agg #[.int .i64 0, .int .i64 0]) := by kernel_rfl

theorem take_snoc_eq {α : Type} {a b : List α} {i : Nat} (h : a.take i = b.take i) (ha : i < a.length) (hb : i < b.length) (e : a[i] = b[i]) : a.take (i + 1) = b.take (i + 1) := by
  rw [List.take_add_one, List.take_add_one, h, List.getElem?_eq_getElem ha, List.getElem?_eq_getElem hb, e]
/-- What a line has, and its note; the fault. -/
def noteS (s : Bs) : Bs × Bs × Bool × Int :=
  if cutF s 59 = false then (s, [], false, 0)
  else if (!Lib.hasSuffix (cutA s 59) [32]) = true ∨ 100 < ((cutB s 59).length : Int) ∨ 0 ≤ Lib.indexByte (cutB s 59) 10 then ([], [], false, 2)
  else (Lib.trimSuffix (cutA s 59) [32], cutB s 59, true, 0)
theorem cutA_len (s : Bs) (c : UInt8) : (cutA s c).length ≤ s.length := by
  unfold cutA
  rcases index_two s c with h | ⟨i, h⟩
  · rw [cut_none h]; exact Nat.le_refl _
  · rw [cut_some h, List.length_take]; omega
theorem cutB_len (s : Bs) (c : UInt8) : (cutB s c).length ≤ s.length := by
  unfold cutB
  rcases index_two s c with h | ⟨i, h⟩
  · rw [cut_none h]; exact Nat.zero_le _
  · rw [cut_some h, List.length_drop]; omega
theorem idx_none {s : Bs} {c : UInt8} (h : ∀ j (hj : j < s.length), ¬ s[j] = c) : Lib.indexByte s c = -1 := by
  induction s with
  | nil => rfl
  | cons b r ih =>
    have h0 := h 0 (by simp)
    have hr := ih fun j hj => h (j + 1) (by simpa using hj)
    simp only [List.getElem_cons_zero] at h0
    unfold Lib.indexByte
    rw [hr]
    simp [h0]
theorem idx_at {s : Bs} {c : UInt8} {i : Nat} (hi : i < s.length) (he : s[i] = c) (h : ∀ j (hj : j < i), ¬ s[j]'(by omega) = c) : Lib.indexByte s c = (i : Int) := by
  induction s generalizing i with
  | nil => simp at hi
  | cons b r ih =>
    unfold Lib.indexByte
    cases i with
    | zero =>
      have : b = c := he
      simp [this]
    | succ i =>
      have h0 := h 0 (by omega)
      simp only [List.getElem_cons_zero] at h0
      have hr := ih (i := i) (by simpa using hi) (by simpa using he) fun j hj => by have := h (j + 1) (by omega); simpa using this
      rw [hr]
      have hb : (b == c) = false := by simpa using h0
      have hx : (((i : Nat) : Int) == -1) = false := by
        simp only [beq_eq_false_iff_ne, ne_eq]; omega
      rw [hb, hx]
      simp
theorem idx_pos {s : Bs} {c : UInt8} {i : Nat} (hi : i < s.length) (he : s[i] = c) : 0 ≤ Lib.indexByte s c := by
  rcases index_two s c with h | ⟨k, h⟩
  · exfalso
    induction s generalizing i with
    | nil => simp at hi
    | cons b r ih =>
      unfold Lib.indexByte at h
      split at h
      · cases h
      · rename_i hb
        have hr : Lib.indexByte r c = -1 := by
          split at h
          · rename_i h2; simpa using h2
          · have := Lib.indexByte_ge r c; omega
        cases i with
        | zero => exact hb (by simpa using he)
        | succ i => exact ih (i := i) (by simpa using hi) (by simpa using he) hr
  · omega

theorem suff_snoc (q : Bs) (b c : UInt8) : Lib.hasSuffix (q ++ [b]) [c] = decide (b = c) := by
  unfold Lib.hasSuffix
  rw [Bool.eq_iff_iff, List.isSuffixOf_iff_suffix, decide_eq_true_eq]
  constructor
  · rintro ⟨t, h⟩
    exact (List.append_inj' h rfl).2 |> fun e => by simpa using e.symm
  · rintro rfl
    exact ⟨q, rfl⟩
theorem suff_nil (c : UInt8) : Lib.hasSuffix [] [c] = false := rfl
theorem trim_snoc (q : Bs) (c : UInt8) : Lib.trimSuffix (q ++ [c]) [c] = q := by
  unfold Lib.trimSuffix
  rw [suff_snoc, decide_eq_true rfl, if_pos rfl]
  simp
theorem note_none {s : Bs} {i : Nat} (h1 : s.length ≤ i) (ha : ∀ j (hj : j < s.length), ¬ s[j] = 59) : noteS s = (s, [], false, 0) := by
  unfold noteS cutF
  rw [cut_none (idx_none ha), if_pos rfl]
theorem note_at {s : Bs} {i : Nat} (hi : i < s.length) (he : s[i] = 59) (ha : ∀ j (hj : j < i), ¬ s[j]'(by omega) = 59) :
    noteS s = if ((i : Int) = 0 ∨ ¬ bt s ((i : Int) - 1) = 32) ∨ 100 < ((List.drop ((i : Int) + 1).toNat s).length : Int) ∨ 0 ≤ Lib.indexByte (List.drop ((i : Int) + 1).toNat s) 10 then ([], [], false, 2) else (List.take ((i : Int) - 1).toNat s, List.drop ((i : Int) + 1).toNat s, true, 0) := by
  have hc := cut_some (idx_at hi he ha)
  have e1 : ((i : Int) + 1).toNat = i + 1 := by omega
  unfold noteS cutF cutA cutB
  rw [hc, e1]
  dsimp only
  rw [if_neg (by decide)]
  rcases Nat.eq_zero_or_pos i with h0 | h0
  · subst h0
    rw [if_pos (by left; rfl), if_pos (by left; left; rfl)]
  · obtain ⟨k, rfl⟩ : ∃ k, i = k + 1 := ⟨i - 1, by omega⟩
    have e2 : (((k + 1 : Nat) : Int) - 1).toNat = k := by omega
    have e3 : s.take (k + 1) = s.take k ++ [s[k]] := take_snoc (by omega)
    have e4 : bt s (((k + 1 : Nat) : Int) - 1) = ((s[k].toNat : Nat) : Int) := by rw [show ((k + 1 : Nat) : Int) - 1 = (k : Int) by omega]; exact bt_nat (by omega)
    have e5 : (((k + 1 : Nat) : Int) = 0 ∨ ¬ bt s (((k + 1 : Nat) : Int) - 1) = 32) ↔ ¬ s[k] = 32 := by
      rw [e4]
      constructor
      · rintro (h | h)
        · omega
        · intro e; rw [e] at h; exact h rfl
      · intro h
        right
        intro e
        exact h (UInt8.toNat_inj.1 (by simpa using (by omega : s[k].toNat = 32)))
    rw [e2, e3, suff_snoc]
    by_cases hk : s[k] = 32
    · rw [hk, decide_eq_true rfl, trim_snoc]
      have : ¬ (((k + 1 : Nat) : Int) = 0 ∨ ¬ bt s (((k + 1 : Nat) : Int) - 1) = 32) := fun h => e5.1 h hk
      simp only [this, false_or, Bool.not_true, Bool.false_eq_true]
    · rw [decide_eq_false hk, if_pos (by left; rfl), if_pos (.inl (e5.2 hk))]

theorem note_cases (s : Bs) : (noteS s).2.2.2 = 0 ∨ noteS s = ([], [], false, 2) := by
  unfold noteS
  split
  · exact .inl rfl
  · split
    · exact .inr rfl
    · exact .inl rfl

def nb (b : UInt8) : Bool := !(b == 32)
def okW (x : Bs) : Bool := x.all nb && !(x == [])
theorem nb_step {x : Bs} {k : Nat} {Q : Bool} (hk : k < x.length) : (((x.take k).all nb && Q) && !decide (bt x ((k : Nat) : Int) = 32)) = ((x.take (k + 1)).all nb && Q) := by
  have e : (x.take (k + 1)).all nb = ((x.take k).all nb && nb x[k]) := by
    rw [List.take_add_one, List.getElem?_eq_getElem hk, List.all_append]; simp
  have e2 : (!decide (bt x ((k : Nat) : Int) = 32)) = nb x[k] := by
    unfold nb
    congr 1
    rw [bt_nat hk, Bool.eq_iff_iff, decide_eq_true_eq, beq_iff_eq]
    exact ⟨fun h => UInt8.toNat_inj.1 (by simpa using (by omega : x[k].toNat = 32)), fun h => by rw [h]; rfl⟩
  rw [e, e2]
  cases (x.take k).all nb <;> cases Q <;> cases nb x[k] <;> rfl
theorem okW_step {l : List Bs} {i k : Nat} {x : Bs} {D : Bool} (hi : i < l.length) (ex : l[i] = x) (hk : x.length ≤ k) : ((x.take k).all nb && (((l.take i).all okW && D) && !(x == []))) = ((l.take (i + 1)).all okW && D) := by
  have e : (l.take (i + 1)).all okW = ((l.take i).all okW && okW l[i]) := by
    rw [List.take_add_one, List.getElem?_eq_getElem hi, List.all_append]; simp
  rw [e, ex, List.take_of_length_le hk, show okW x = (x.all nb && !(x == [])) from rfl]
  cases x.all nb <;> cases D <;> cases (l.take i).all okW <;> cases (x == []) <;> rfl
theorem len_step {l : List Bs} {i : Nat} {x : Bs} (hi : i < l.length) (ex : l[i] = x) (h : ∀ x ∈ l.take i, x.length ≤ 100) (hx : x.length ≤ 100) : ∀ x ∈ l.take (i + 1), x.length ≤ 100 := by
  rw [List.take_add_one, List.getElem?_eq_getElem hi]
  intro y hy
  simp only [Option.toList_some, List.mem_append, List.mem_singleton] at hy
  rcases hy with hy | rfl
  · exact h y hy
  · rw [ex]; exact hx
theorem okW_all {l : List Bs} (h : l.all okW = true) : ∀ x ∈ l, 32 ∉ x ∧ x ≠ [] := by
  intro x hx
  have := List.all_eq_true.1 h x hx
  unfold okW at this
  simp only [Bool.and_eq_true, List.all_eq_true] at this
  refine ⟨fun hm => ?_, fun e => ?_⟩
  · have := this.1 32 hm
    exact absurd this (by decide)
  · rw [e] at this
    exact absurd this.2 (by decide)
theorem sub_lst' {c : UInt8} {s : Bs} {p : Nat × Nat} (h : p.2 = atS c s p.1) (hn : p.1 ≤ s.length) : sub s ((p.2 : Nat) : Int) ((p.1 : Nat) : Int) = lst c (s.take p.1) := by
  rw [h]; exact sub_lst hn
/-! `incognito/incognitoref08.Same` -/
set_option maxRecDepth 100000 in
set_option maxHeartbeats 4000000 in
theorem c_same8 (xa : List Bs) (Aa : Option Addr) (ca : Nat) (xb : List Bs) (Ab : Option Addr) (cb : Nat) (w0 : World) (G : Heap) (hG : Sub G w0) (hRxa : Rd Knd.s G Aa xa) (hlxa : xa.length ≤ 9223372036854775807) (hRxb : Rd Knd.s G Ab xb) (hlxb : xb.length ≤ 9223372036854775807):
    Calls Tryd.prog 28 #[.slice Aa xa.length ca, .slice Ab xb.length cb] w0 (Ret w0 G (fun v _ => v = .bool (decide (xa = xb)))) := by
  refine enter Tryd.func28 rfl Tryd.ntmps28 rfl ?_
  intro Q hQ a HE
  have HS := St.start0 hG
  refine wp_seq_k (fun K hK => ?_); refine wp_region_lit ?_
  refine o_assign HE rfl rfl ?_; clear HE; intro a HE
  refine hK _ _ ?_; clear hK K
  refine wp_seq_k (fun K3 hK2 => ?_)
  refine wp_seq_k (fun K hK => ?_); refine wp_region_lit ?_
  refine o_move HE rfl rfl ?_; clear HE; intro a HE
  refine o_lenL HE rfl rfl Tryd.underlying42 ?_; clear HE; intro a HE
  refine o_move HE rfl rfl ?_; clear HE; intro a HE
  refine o_lenL HE rfl rfl Tryd.underlying42 ?_; clear HE; intro a HE
  refine o_neI HE rfl rfl rfl ?_; clear HE; intro a HE
  refine hK _ _ ?_; clear hK K
  refine cond HE rfl (fun h5 => ?_) (fun h5 => ?_)
  · have h5r := h5; try simp only [Bool.not_eq_true', Bool.not_eq_false', Bool.and_eq_true, Bool.or_eq_true, Bool.or_eq_false_iff, Bool.and_eq_false_iff, decide_eq_true_eq, decide_eq_false_iff_not, beq_iff_eq, beq_eq_false_iff_ne, ne_eq] at h5
    refine wp_seq_k (fun K hK => ?_); refine wp_region_lit ?_
    refine o_assign HE rfl rfl ?_; clear HE; intro a HE
    refine hK _ _ ?_; clear hK K
    refine wp_ret ?_
    show Q .ret _ _
    refine ret hQ HE rfl (HE.res rfl .nil) ⟨_, _, HS.stop (List.nil_sublist _), rfl, ?_⟩
    show _ = _
    simp only [packed, Value.bool.injEq]
    exact (decide_eq_false fun e => by subst e; omega).symm
  · have h5r := h5; try simp only [Bool.not_eq_true', Bool.not_eq_false', Bool.and_eq_true, Bool.or_eq_true, Bool.or_eq_false_iff, Bool.and_eq_false_iff, decide_eq_true_eq, decide_eq_false_iff_not, beq_iff_eq, beq_eq_false_iff_ne, ne_eq] at h5
    refine wp_skip ?_
    refine hK2 _ _ ?_; clear hK2
    refine wp_seq_k (fun K8 hK7 => ?_)
    refine wp_seq_k (fun K hK => ?_); refine wp_region_lit ?_
    refine o_assign HE rfl rfl ?_; clear HE; intro a HE
    refine hK _ _ ?_; clear hK K
    refine wp_block ?_
    refine loop (fun (i : Nat) a' w' => St w0 G [] G w' [] ∧ Env a' 26 [] [(0, .slice Aa xa.length ca), (1, .slice Ab xb.length cb), (4, .bool false), (5, .int .i64 (i : Int))] ∧ (i ≤ xa.length ∧ xa.take i = xb.take i)) (fun (i : Nat) => xa.length - i) 0 ⟨HS, HE.cut ⟨rfl, rfl, rfl, rfl, trivial⟩, ⟨Nat.zero_le _, rfl⟩⟩ ?_
    clear HE HS; intro i a w ⟨HS, HE, ⟨hi, ht⟩⟩
    refine wp_seq_k (fun K12 hK11 => ?_)
    refine wp_seq_k (fun K hK => ?_); refine wp_region_lit ?_
    refine o_move HE rfl rfl ?_; clear HE; intro a HE
    refine o_move HE rfl rfl ?_; clear HE; intro a HE
    refine o_lenL HE rfl rfl Tryd.underlying42 ?_; clear HE; intro a HE
    refine o_lss HE rfl rfl rfl ?_; clear HE; intro a HE
    refine hK _ _ ?_; clear hK K
    refine cond HE rfl (fun h14 => ?_) (fun h14 => ?_)
    · have h14r := h14; try simp only [Bool.not_eq_true', Bool.not_eq_false', Bool.and_eq_true, Bool.or_eq_true, Bool.or_eq_false_iff, Bool.and_eq_false_iff, decide_eq_true_eq, decide_eq_false_iff_not, beq_iff_eq, beq_eq_false_iff_ne, ne_eq] at h14
      refine wp_skip ?_
      refine hK11 _ _ ?_; clear hK11
      refine wp_seq_k (fun K16 hK15 => ?_)
      refine wp_block ?_
      refine wp_seq_k (fun K18 hK17 => ?_)
      have hi19 : (i : Int).toNat < xa.length := by omega
      obtain ⟨eb19, eo19, hA19, el19⟩ := Rd.at hRxa (List.getElem?_eq_getElem hi19); cases hA19
      obtain ⟨x19, ex19⟩ : ∃ x, xa[(i : Int).toNat] = x := ⟨_, rfl⟩; rw [ex19] at el19
      have el19 := kof_open (enc := fun l => str l) el19
      have hi20 : (i : Int).toNat < xb.length := by omega
      obtain ⟨eb20, eo20, hA20, el20⟩ := Rd.at hRxb (List.getElem?_eq_getElem hi20); cases hA20
      obtain ⟨x20, ex20⟩ : ∃ x, xb[(i : Int).toNat] = x := ⟨_, rfl⟩; rw [ex20] at el20
      have el20 := kof_open (enc := fun l => str l) el20
      replace HE := HE.cut (L' := [(0, .slice (some ⟨eb19, eo19, none⟩) xa.length ca), (1, .slice (some ⟨eb20, eo20, none⟩) xb.length cb), (4, .bool false), (5, .int .i64 (i : Int)), (11, .int .i64 (i : Int)), (12, .slice (some ⟨eb19, eo19, none⟩) xa.length ca), (13, .int .i64 (xa.length : Int)), (14, .bool (decide ((i : Int) < (xa.length : Int))))]) ⟨rfl, rfl, rfl, rfl, rfl, rfl, rfl, rfl, trivial⟩
      refine drawnP [fun v => v = .slice (some ⟨eb19, eo19, none⟩) xa.length ca, fun v => v = .int .i64 (i : Int), fun v => v = .pointer (some ⟨eb19, eo19 + (i : Int).toNat * 1, none⟩), fun v => v = str x19, fun v => v = .slice (some ⟨eb20, eo20, none⟩) xb.length cb, fun v => v = .int .i64 (i : Int), fun v => v = .pointer (some ⟨eb20, eo20 + (i : Int).toNat * 1, none⟩), fun v => v = str x20, fun v => v = .bool (!(x19 == x20))] T.mix rfl HE HS rfl ⟨?_, ?_, ?_, ?_, ?_, ?_, ?_, ?_, ?_, trivial⟩ ?_
      · intro a w G1 hl HS HE hp
        refine o_move HE rfl rfl ?_; clear HE; intro a HE
        exact ⟨_, _, HS, rfl, HE.get _ _ rfl, HE.defers, rfl⟩
      · intro a w G1 hl HS HE hp
        refine o_move HE rfl rfl ?_; clear HE; intro a HE
        exact ⟨_, _, HS, rfl, HE.get _ _ rfl, HE.defers, rfl⟩
      · intro a w G1 hl HS HE hp
        obtain ⟨_, e0, rfl⟩ := hp 0 17 _ rfl rfl rfl; replace HE := HE.add e0
        obtain ⟨_, e1, rfl⟩ := hp 1 18 _ rfl rfl rfl; replace HE := HE.add e1
        refine o_ixL HE rfl rfl rfl T.l42 ⟨by omega, by omega⟩ ?_; clear HE; intro a HE
        exact ⟨_, _, HS, rfl, HE.get _ _ rfl, HE.defers, rfl⟩
      · intro a w G1 hl HS HE hp
        obtain ⟨_, e2, rfl⟩ := hp 2 19 _ rfl rfl rfl; replace HE := HE.add e2
        refine o_ldI HE rfl HS rfl T.s9 (el19.le hl) (j := 0) rfl rfl ?_; clear HE; intro a HE
        exact ⟨_, _, HS, rfl, HE.get _ _ rfl, HE.defers, rfl⟩
      · intro a w G1 hl HS HE hp
        refine o_move HE rfl rfl ?_; clear HE; intro a HE
        exact ⟨_, _, HS, rfl, HE.get _ _ rfl, HE.defers, rfl⟩
      · intro a w G1 hl HS HE hp
        refine o_move HE rfl rfl ?_; clear HE; intro a HE
        exact ⟨_, _, HS, rfl, HE.get _ _ rfl, HE.defers, rfl⟩
      · intro a w G1 hl HS HE hp
        obtain ⟨_, e4, rfl⟩ := hp 4 21 _ rfl rfl rfl; replace HE := HE.add e4
        obtain ⟨_, e5, rfl⟩ := hp 5 22 _ rfl rfl rfl; replace HE := HE.add e5
        refine o_ixL HE rfl rfl rfl T.l42 ⟨by omega, by omega⟩ ?_; clear HE; intro a HE
        exact ⟨_, _, HS, rfl, HE.get _ _ rfl, HE.defers, rfl⟩
      · intro a w G1 hl HS HE hp
        obtain ⟨_, e6, rfl⟩ := hp 6 23 _ rfl rfl rfl; replace HE := HE.add e6
        refine o_ldI HE rfl HS rfl T.s9 (el20.le hl) (j := 0) rfl rfl ?_; clear HE; intro a HE
        exact ⟨_, _, HS, rfl, HE.get _ _ rfl, HE.defers, rfl⟩
      · intro a w G1 hl HS HE hp
        obtain ⟨_, e3, rfl⟩ := hp 3 20 _ rfl rfl rfl; replace HE := HE.add e3
        obtain ⟨_, e7, rfl⟩ := hp 7 24 _ rfl rfl rfl; replace HE := HE.add e7
        refine o_neS HE rfl rfl rfl ?_; clear HE; intro a HE
        exact ⟨_, _, HS, rfl, HE.get _ _ rfl, HE.defers, rfl⟩
      clear HE HS; intro a w HS HE hp
      obtain ⟨_, e8, rfl⟩ := hp 8 25 _ rfl rfl; replace HE := HE.add e8
      clear hp
      refine hK17 _ _ ?_; clear hK17
      refine cond HE rfl (fun h21 => ?_) (fun h21 => ?_)
      · have h21r := h21; try simp only [Bool.not_eq_true', Bool.not_eq_false', Bool.and_eq_true, Bool.or_eq_true, Bool.or_eq_false_iff, Bool.and_eq_false_iff, decide_eq_true_eq, decide_eq_false_iff_not, beq_iff_eq, beq_eq_false_iff_ne, ne_eq] at h21
        refine wp_seq_k (fun K hK => ?_); refine wp_region_lit ?_
        refine o_assign HE rfl rfl ?_; clear HE; intro a HE
        refine hK _ _ ?_; clear hK K
        refine wp_ret ?_
        show Q .ret _ _
        refine ret hQ HE rfl (HE.res rfl .nil) ⟨_, _, HS.stop (List.nil_sublist _), rfl, ?_⟩
        show _ = _
        simp only [packed, Value.bool.injEq]
        exact (decide_eq_false fun e => by subst e; exact h21 (ex19.symm.trans ex20)).symm
      · have h21r := h21; try simp only [Bool.not_eq_true', Bool.not_eq_false', Bool.and_eq_true, Bool.or_eq_true, Bool.or_eq_false_iff, Bool.and_eq_false_iff, decide_eq_true_eq, decide_eq_false_iff_not, beq_iff_eq, beq_eq_false_iff_ne, ne_eq] at h21
        refine wp_skip ?_
        refine hK15 _ _ ?_; clear hK15
        refine wp_region_lit ?_
        refine o_move HE rfl rfl ?_; clear HE; intro a HE
        refine o_add HE rfl rfl rfl (by omega) ?_; clear HE; intro a HE
        refine o_assign HE rfl rfl ?_; clear HE; intro a HE
        have hlt : i < xa.length := by omega
        have ht2 : xa.take (i + 1) = xb.take (i + 1) := take_snoc_eq ht hlt (by omega) (ex19.trans (h21.trans ex20.symm))
        exact ⟨i + 1, ⟨HS, HE.cut ⟨rfl, rfl, rfl, rfl, trivial⟩, ⟨by omega, ht2⟩⟩, by omega⟩
    · have h14r := h14; try simp only [Bool.not_eq_true', Bool.not_eq_false', Bool.and_eq_true, Bool.or_eq_true, Bool.or_eq_false_iff, Bool.and_eq_false_iff, decide_eq_true_eq, decide_eq_false_iff_not, beq_iff_eq, beq_eq_false_iff_ne, ne_eq] at h14
      refine wp_exit ?_
      refine hK7 _ _ ?_; clear hK7
      refine wp_seq_k (fun K hK => ?_); refine wp_region_lit ?_
      refine o_assign HE rfl rfl ?_; clear HE; intro a HE
      refine hK _ _ ?_; clear hK K
      refine wp_ret ?_
      show Q .ret _ _
      refine ret hQ HE rfl (HE.res rfl .nil) ⟨_, _, HS.stop (List.nil_sublist _), rfl, ?_⟩
      show _ = _
      simp only [packed, Value.bool.injEq]
      exact (decide_eq_true (by rwa [List.take_of_length_le (by omega), List.take_of_length_le (by omega)] at ht)).symm

/-! `incognito/line.Note` -/
set_option maxRecDepth 100000 in
set_option maxHeartbeats 4000000 in
theorem c_note (s : Bs) (w0 : World) (G : Heap) (hG : Sub G w0) (m8 : Int) (h8 : CellsAt G 2 0 [.int .i64 m8]) (hl : s.length ≤ 4294967280):
    Calls Tryd.prog 43 #[str s] w0 (Ret w0 G (fun v _ => v = .tuple #[str (noteS s).1, str (noteS s).2.1, .bool (noteS s).2.2.1, .int .i64 (noteS s).2.2.2])) := by
  refine enter Tryd.func43 rfl Tryd.ntmps43 rfl ?_
  intro Q hQ a HE
  have HS := St.start0 hG
  refine wp_seq_k (fun K hK => ?_); refine wp_region_lit ?_
  refine o_assign HE rfl rfl ?_; clear HE; intro a HE
  refine o_assign HE rfl rfl ?_; clear HE; intro a HE
  refine o_assign HE rfl rfl ?_; clear HE; intro a HE
  refine o_assign HE rfl rfl ?_; clear HE; intro a HE
  refine hK _ _ ?_; clear hK K
  refine wp_seq_k (fun K hK => ?_); refine wp_region_lit ?_
  refine o_move HE rfl rfl ?_; clear HE; intro a HE
  refine o_callP HE rfl HS rfl rfl T.g59 (g_cut s 59 _ _ HS.sub m8 h8 (by first | omega | (simp; done) | (simp; omega) | (have := cutA_len s 59; have := cutB_len s 59; omega))) ?_
  clear HE HS; rintro _ w a HS rfl HE
  refine o_move HE rfl rfl ?_; clear HE; intro a HE
  refine o_extract HE rfl rfl rfl ?_; clear HE; intro a HE
  refine o_extract HE rfl rfl rfl ?_; clear HE; intro a HE
  refine o_extract HE rfl rfl rfl ?_; clear HE; intro a HE
  refine o_assign HE rfl rfl ?_; clear HE; intro a HE
  refine o_assign HE rfl rfl ?_; clear HE; intro a HE
  refine o_assign HE rfl rfl ?_; clear HE; intro a HE
  refine hK _ _ ?_; clear hK K
  refine wp_seq_k (fun K4 hK3 => ?_)
  refine wp_seq_k (fun K hK => ?_); refine wp_region_lit ?_
  refine o_move HE rfl rfl ?_; clear HE; intro a HE
  refine o_not HE rfl rfl ?_; clear HE; intro a HE
  refine hK _ _ ?_; clear hK K
  refine cond HE rfl (fun h6 => ?_) (fun h6 => ?_)
  · have h6r := h6; try simp only [Bool.not_eq_true', Bool.not_eq_false', Bool.and_eq_true, Bool.or_eq_true, Bool.or_eq_false_iff, Bool.and_eq_false_iff, decide_eq_true_eq, decide_eq_false_iff_not, beq_iff_eq, beq_eq_false_iff_ne, ne_eq] at h6
    refine wp_seq_k (fun K hK => ?_); refine wp_region_lit ?_
    refine o_move HE rfl rfl ?_; clear HE; intro a HE
    refine o_assign HE rfl rfl ?_; clear HE; intro a HE
    refine o_assign HE rfl rfl ?_; clear HE; intro a HE
    refine o_assign HE rfl rfl ?_; clear HE; intro a HE
    refine o_assign HE rfl rfl ?_; clear HE; intro a HE
    refine hK _ _ ?_; clear hK K
    refine wp_ret ?_
    show Q .ret _ _
    refine ret hQ HE rfl (HE.res rfl (HE.res rfl (HE.res rfl (HE.res rfl .nil)))) ⟨_, _, HS.stop (List.nil_sublist _), rfl, ?_⟩
    have e : noteS s = (s, [], false, 0) := by
      unfold noteS
      rw [if_pos (by simpa using h6)]
    show _ = _
    rw [e]
    rfl
  · have h6r := h6; try simp only [Bool.not_eq_true', Bool.not_eq_false', Bool.and_eq_true, Bool.or_eq_true, Bool.or_eq_false_iff, Bool.and_eq_false_iff, decide_eq_true_eq, decide_eq_false_iff_not, beq_iff_eq, beq_eq_false_iff_ne, ne_eq] at h6
    refine wp_skip ?_
    refine hK3 _ _ ?_; clear hK3
    refine wp_seq_k (fun K hK => ?_); refine wp_region_lit ?_
    refine o_move HE rfl rfl ?_; clear HE; intro a HE
    refine o_callP HE rfl HS rfl rfl T.g60 (calls_same HS.sub (Tryd.strings_CutSuffix ⟨List.toArray (cutA s 59)⟩ ⟨List.toArray [32]⟩ _ (by have := cutA_len s 59; simp [ByteArray.size]; omega))) ?_
    clear HE HS; rintro _ w a HS rfl HE
    refine o_move HE rfl rfl ?_; clear HE; intro a HE
    refine o_extract HE rfl rfl rfl ?_; clear HE; intro a HE
    refine o_extract HE rfl rfl rfl ?_; clear HE; intro a HE
    refine o_assign HE rfl rfl ?_; clear HE; intro a HE
    refine o_assign HE rfl rfl ?_; clear HE; intro a HE
    refine hK _ _ ?_; clear hK K
    refine wp_seq_k (fun K10 hK9 => ?_)
    refine wp_seq_k (fun K hK => ?_); refine wp_region_lit ?_
    refine o_move HE rfl rfl ?_; clear HE; intro a HE
    refine o_not HE rfl rfl ?_; clear HE; intro a HE
    refine o_move HE rfl rfl ?_; clear HE; intro a HE
    refine cutL 4 (fun a' w' => w = w' ∧ Env a' 34 [] [(27, .bool ((!(Lib.hasSuffix (cutA s 59) [32])) || (decide (100 < ((cutB s 59).length : Int))))), (0, str s), (2, str (Lib.trimSuffix (cutA s 59) [32])), (3, str (cutB s 59)), (4, .bool (cutF s 59)), (5, .int .i64 0), (7, .tuple #[str (cutA s 59), str (cutB s 59), .bool (cutF s 59)]), (8, str s), (9, .tuple #[str (cutA s 59), str (cutB s 59), .bool (cutF s 59)]), (10, str (cutA s 59)), (11, str (cutB s 59)), (12, .bool (cutF s 59)), (13, .bool (cutF s 59)), (14, .bool (!(cutF s 59))), (16, .tuple #[str (Lib.trimSuffix (cutA s 59) [32]), .bool (Lib.hasSuffix (cutA s 59) [32])]), (17, str (cutA s 59)), (18, .tuple #[str (Lib.trimSuffix (cutA s 59) [32]), .bool (Lib.hasSuffix (cutA s 59) [32])]), (19, str (Lib.trimSuffix (cutA s 59) [32])), (20, .bool (Lib.hasSuffix (cutA s 59) [32]))]) ?_ ?_
    · refine (Bool.eq_false_or_eq_true (!(Lib.hasSuffix (cutA s 59) [32]))).elim (fun hb11 => ?_) (fun hb11 => ?_)
      · skip
        have hk12 := hb11; try simp only [Bool.not_eq_true', Bool.not_eq_false', Bool.and_eq_true, Bool.or_eq_true, Bool.or_eq_false_iff, decide_eq_true_eq, decide_eq_false_iff_not, beq_iff_eq, beq_eq_false_iff_ne, ne_eq] at hk12
        refine g_off HE rfl rfl rfl hb11 ?_; clear HE; intro a HE
        refine g_off HE rfl rfl rfl hb11 ?_; clear HE; intro a HE
        refine g_off HE rfl rfl rfl hb11 ?_; clear HE; intro a HE
        refine o_pick_t HE rfl rfl hb11 rfl ?_; clear HE; intro a HE
        exact ⟨rfl, HE.cut ⟨by rw [hb11]; rfl, rfl, rfl, rfl, rfl, rfl, rfl, rfl, rfl, rfl, rfl, rfl, rfl, rfl, rfl, rfl, rfl, rfl, rfl, trivial⟩⟩
      · skip
        have hk13 := hb11; try simp only [Bool.not_eq_true', Bool.not_eq_false', Bool.and_eq_true, Bool.or_eq_true, Bool.or_eq_false_iff, decide_eq_true_eq, decide_eq_false_iff_not, beq_iff_eq, beq_eq_false_iff_ne, ne_eq] at hk13
        refine op_on HE rfl rfl hb11 ?_
        refine o_move HE rfl rfl ?_; clear HE; intro a HE
        refine op_on HE rfl rfl hb11 ?_
        refine o_lenS HE rfl rfl Tryd.underlying9 ?_; clear HE; intro a HE
        refine op_on HE rfl rfl hb11 ?_
        refine o_gtr HE rfl rfl rfl ?_; clear HE; intro a HE
        refine o_pick_f HE rfl rfl hb11 rfl ?_; clear HE; intro a HE
        exact ⟨rfl, HE.cut ⟨by rw [hb11]; rfl, rfl, rfl, rfl, rfl, rfl, rfl, rfl, rfl, rfl, rfl, rfl, rfl, rfl, rfl, rfl, rfl, rfl, rfl, trivial⟩⟩
    clear HE; rintro a _ ⟨rfl, HE⟩
    refine o_move HE rfl rfl ?_; clear HE; intro a HE
    obtain ⟨M0, hM0, HS⟩ : ∃ M0, M0 = _ ∧ St w0 G [] G _ M0 := ⟨_, rfl, HS⟩
    refine cutL 3 (fun a' w' => St w0 G [] G w' M0 ∧ Env a' 34 [] [(31, .bool (((!(Lib.hasSuffix (cutA s 59) [32])) || (decide (100 < ((cutB s 59).length : Int)))) || (decide (0 ≤ Lib.indexByte (cutB s 59) 10)))), (0, str s), (2, str (Lib.trimSuffix (cutA s 59) [32])), (3, str (cutB s 59)), (4, .bool (cutF s 59)), (5, .int .i64 0), (7, .tuple #[str (cutA s 59), str (cutB s 59), .bool (cutF s 59)]), (8, str s), (9, .tuple #[str (cutA s 59), str (cutB s 59), .bool (cutF s 59)]), (10, str (cutA s 59)), (11, str (cutB s 59)), (12, .bool (cutF s 59)), (13, .bool (cutF s 59)), (14, .bool (!(cutF s 59))), (16, .tuple #[str (Lib.trimSuffix (cutA s 59) [32]), .bool (Lib.hasSuffix (cutA s 59) [32])]), (17, str (cutA s 59)), (18, .tuple #[str (Lib.trimSuffix (cutA s 59) [32]), .bool (Lib.hasSuffix (cutA s 59) [32])]), (19, str (Lib.trimSuffix (cutA s 59) [32])), (20, .bool (Lib.hasSuffix (cutA s 59) [32]))]) ?_ ?_
    · refine (Bool.eq_false_or_eq_true ((!(Lib.hasSuffix (cutA s 59) [32])) || (decide (100 < ((cutB s 59).length : Int))))).elim (fun hb14 => ?_) (fun hb14 => ?_)
      · subst hM0
        have hk15 := hb14; try simp only [Bool.not_eq_true', Bool.not_eq_false', Bool.and_eq_true, Bool.or_eq_true, Bool.or_eq_false_iff, decide_eq_true_eq, decide_eq_false_iff_not, beq_iff_eq, beq_eq_false_iff_ne, ne_eq] at hk15
        refine g_off HE rfl rfl rfl hb14 ?_; clear HE; intro a HE
        refine g_off HE rfl rfl rfl hb14 ?_; clear HE; intro a HE
        refine o_pick_t HE rfl rfl hb14 rfl ?_; clear HE; intro a HE
        exact ⟨HS, HE.cut ⟨by rw [hb14]; rfl, rfl, rfl, rfl, rfl, rfl, rfl, rfl, rfl, rfl, rfl, rfl, rfl, rfl, rfl, rfl, rfl, rfl, rfl, trivial⟩⟩
      · subst hM0
        have hk16 := hb14; try simp only [Bool.not_eq_true', Bool.not_eq_false', Bool.and_eq_true, Bool.or_eq_true, Bool.or_eq_false_iff, decide_eq_true_eq, decide_eq_false_iff_not, beq_iff_eq, beq_eq_false_iff_ne, ne_eq] at hk16
        refine op_on HE rfl rfl hb14 ?_
        refine o_move HE rfl rfl ?_; clear HE; intro a HE
        refine op_on HE rfl rfl hb14 ?_
        refine o_callP HE rfl HS rfl rfl T.g61 (calls_same HS.sub (Tryd.strings_Contains_one ⟨List.toArray (cutB s 59)⟩ 10 _)) ?_
        clear HE HS; rintro _ w a HS rfl HE
        refine o_pick_f HE rfl rfl hb14 rfl ?_; clear HE; intro a HE
        exact ⟨HS, HE.cut ⟨by rw [hb14]; rfl, rfl, rfl, rfl, rfl, rfl, rfl, rfl, rfl, rfl, rfl, rfl, rfl, rfl, rfl, rfl, rfl, rfl, rfl, trivial⟩⟩
    clear HE HS; rintro a w ⟨HS, HE⟩; subst hM0
    refine hK _ _ ?_; clear hK K
    refine cond HE rfl (fun h18 => ?_) (fun h18 => ?_)
    · have h18r := h18; try simp only [Bool.not_eq_true', Bool.not_eq_false', Bool.and_eq_true, Bool.or_eq_true, Bool.or_eq_false_iff, Bool.and_eq_false_iff, decide_eq_true_eq, decide_eq_false_iff_not, beq_iff_eq, beq_eq_false_iff_ne, ne_eq] at h18
      refine wp_seq_k (fun K hK => ?_); refine wp_region_lit ?_
      refine o_assign HE rfl rfl ?_; clear HE; intro a HE
      refine o_assign HE rfl rfl ?_; clear HE; intro a HE
      refine o_assign HE rfl rfl ?_; clear HE; intro a HE
      refine o_assign HE rfl rfl ?_; clear HE; intro a HE
      refine hK _ _ ?_; clear hK K
      refine wp_ret ?_
      show Q .ret _ _
      refine ret hQ HE rfl (HE.res rfl (HE.res rfl (HE.res rfl (HE.res rfl .nil)))) ⟨_, _, HS.stop (List.nil_sublist _), rfl, ?_⟩
      have e : noteS s = ([], [], false, 2) := by
        unfold noteS
        rw [if_neg (by simpa using h6), if_pos (by simpa [or_assoc, and_assoc] using h18)]
      show _ = _
      rw [e]
      rfl
    · have h18r := h18; try simp only [Bool.not_eq_true', Bool.not_eq_false', Bool.and_eq_true, Bool.or_eq_true, Bool.or_eq_false_iff, Bool.and_eq_false_iff, decide_eq_true_eq, decide_eq_false_iff_not, beq_iff_eq, beq_eq_false_iff_ne, ne_eq] at h18
      refine wp_skip ?_
      refine hK9 _ _ ?_; clear hK9
      refine wp_seq_k (fun K hK => ?_); refine wp_region_lit ?_
      refine o_move HE rfl rfl ?_; clear HE; intro a HE
      refine o_move HE rfl rfl ?_; clear HE; intro a HE
      refine o_assign HE rfl rfl ?_; clear HE; intro a HE
      refine o_assign HE rfl rfl ?_; clear HE; intro a HE
      refine o_assign HE rfl rfl ?_; clear HE; intro a HE
      refine o_assign HE rfl rfl ?_; clear HE; intro a HE
      refine hK _ _ ?_; clear hK K
      refine wp_ret ?_
      show Q .ret _ _
      refine ret hQ HE rfl (HE.res rfl (HE.res rfl (HE.res rfl (HE.res rfl .nil)))) ⟨_, _, HS.stop (List.nil_sublist _), rfl, ?_⟩
      have e : noteS s = (Lib.trimSuffix (cutA s 59) [32], cutB s 59, true, 0) := by
        unfold noteS
        rw [if_neg (by simpa using h6), if_neg (by simpa [or_assoc, and_assoc] using h18)]
      show _ = _
      rw [e]
      rfl

/-! `incognito/incognitolaw08.wakes` -/
set_option maxRecDepth 100000 in
set_option maxHeartbeats 4000000 in
theorem c_wakes8  (w0 : World) (G : Heap) (hG : Sub G w0) (m8 : Int) (h8 : CellsAt G 2 0 [.int .i64 m8]):
    Calls Tryd.prog 25 #[] w0 (Ret w0 G (fun v _ => v = .bool true)) := by
  refine enter Tryd.func25 rfl Tryd.ntmps25 rfl ?_
  intro Q hQ a HE
  have HS := St.start0 hG
  refine wp_seq_k (fun K hK => ?_); refine wp_region_lit ?_
  refine o_assign HE rfl rfl ?_; clear HE; intro a HE
  refine hK _ _ ?_; clear hK K
  refine wp_seq_k (fun K hK => ?_); refine wp_region_lit ?_
  refine o_call HE rfl HS rfl rfl T.g42 (c_split [97, 98] _ _ HS.sub m8 h8 (by first | omega | (simp; done) | (simp; omega) | (have := cutA_len s 59; have := cutB_len s 59; omega))) ?_
  clear HE HS; rintro _ G2 w a HS hle2 ⟨vA2, vc2, rfl, hcp2, hR2⟩ HE
  replace h8 := h8.le hle2
  refine o_move HE rfl rfl ?_; clear HE; intro a HE
  refine o_extract HE rfl rfl rfl ?_; clear HE; intro a HE
  refine o_extract HE rfl rfl rfl ?_; clear HE; intro a HE
  refine o_allocL [(0, _), (1, _)] HE rfl HS T.z63 ⟨rfl, rfl, trivial⟩ ?_; clear HE HS; intro B2 w a HS HE
  refine o_assign HE rfl rfl ?_; clear HE; intro a HE
  refine o_stA HE HS rfl rfl rfl T.a63 (.here .here) rfl ?_; clear HS; intro w HS
  refine hK _ _ ?_; clear hK K
  refine wp_seq_k (fun K hK => ?_); refine wp_region_lit ?_
  refine o_callP HE rfl HS rfl rfl T.g43 (c_note [97, 32, 59, 98, 32, 59, 99] _ _ HS.sub m8 h8 (by first | omega | (simp; done) | (simp; omega) | (have := cutA_len s 59; have := cutB_len s 59; omega))) ?_
  clear HE HS; rintro _ w a HS rfl HE
  refine o_move HE rfl rfl ?_; clear HE; intro a HE
  refine o_extract HE rfl rfl rfl ?_; clear HE; intro a HE
  refine o_extract HE rfl rfl rfl ?_; clear HE; intro a HE
  refine o_extract HE rfl rfl rfl ?_; clear HE; intro a HE
  refine o_extract HE rfl rfl rfl ?_; clear HE; intro a HE
  refine o_assign HE rfl rfl ?_; clear HE; intro a HE
  refine o_assign HE rfl rfl ?_; clear HE; intro a HE
  refine o_assign HE rfl rfl ?_; clear HE; intro a HE
  refine o_assign HE rfl rfl ?_; clear HE; intro a HE
  refine hK _ _ ?_; clear hK K
  refine wp_seq_k (fun K hK => ?_); refine wp_region_lit ?_
  refine o_ldA HE rfl HS rfl T.a63 (.here .here) rfl ?_; clear HE; intro a HE
  refine o_build (cs := #[.int .i64 2, .int .i64 1]) HE rfl rfl (by kernel_rfl) ?_; clear HE; intro a HE
  refine o_eqA (b := decide ((code8 (linesS [97, 98]).2) = 2) && (decide (((linesS [97, 98]).2) = 1) && true)) HE rfl rfl rfl T.q63 rfl rfl ?_; clear HE; intro a HE
  refine o_move HE rfl rfl ?_; clear HE; intro a HE
  refine cutL 3 (fun a' w' => w = w' ∧ Env a' 35 [] [(23, .bool ((decide ((code8 (linesS [97, 98]).2) = 2) && (decide (((linesS [97, 98]).2) = 1) && true)) && (((noteS [97, 32, 59, 98, 32, 59, 99]).1) == [97]))), (0, .bool false), (2, .pointer (some ⟨B2, 0, none⟩)), (4, str ((noteS [97, 32, 59, 98, 32, 59, 99]).2.1)), (5, .bool ((noteS [97, 32, 59, 98, 32, 59, 99]).2.2.1)), (6, .int .i64 ((noteS [97, 32, 59, 98, 32, 59, 99]).2.2.2)), (7, .tuple #[.slice vA2 ((linesS [97, 98]).1.length) vc2, .agg #[.int .i64 (code8 (linesS [97, 98]).2), .int .i64 ((linesS [97, 98]).2)]]), (8, .tuple #[.slice vA2 ((linesS [97, 98]).1.length) vc2, .agg #[.int .i64 (code8 (linesS [97, 98]).2), .int .i64 ((linesS [97, 98]).2)]]), (9, .slice vA2 ((linesS [97, 98]).1.length) vc2), (10, .agg #[.int .i64 (code8 (linesS [97, 98]).2), .int .i64 ((linesS [97, 98]).2)]), (11, .tuple #[str ((noteS [97, 32, 59, 98, 32, 59, 99]).1), str ((noteS [97, 32, 59, 98, 32, 59, 99]).2.1), .bool ((noteS [97, 32, 59, 98, 32, 59, 99]).2.2.1), .int .i64 ((noteS [97, 32, 59, 98, 32, 59, 99]).2.2.2)]), (12, .tuple #[str ((noteS [97, 32, 59, 98, 32, 59, 99]).1), str ((noteS [97, 32, 59, 98, 32, 59, 99]).2.1), .bool ((noteS [97, 32, 59, 98, 32, 59, 99]).2.2.1), .int .i64 ((noteS [97, 32, 59, 98, 32, 59, 99]).2.2.2)]), (13, str ((noteS [97, 32, 59, 98, 32, 59, 99]).1)), (14, str ((noteS [97, 32, 59, 98, 32, 59, 99]).2.1)), (15, .bool ((noteS [97, 32, 59, 98, 32, 59, 99]).2.2.1)), (16, .int .i64 ((noteS [97, 32, 59, 98, 32, 59, 99]).2.2.2))]) ?_ ?_
  · refine (Bool.eq_false_or_eq_true (decide ((code8 (linesS [97, 98]).2) = 2) && (decide (((linesS [97, 98]).2) = 1) && true))).elim (fun hb5 => ?_) (fun hb5 => ?_)
    · skip
      have hk6 := hb5; try simp only [Bool.not_eq_true', Bool.not_eq_false', Bool.and_eq_true, Bool.or_eq_true, Bool.or_eq_false_iff, decide_eq_true_eq, decide_eq_false_iff_not, beq_iff_eq, beq_eq_false_iff_ne, ne_eq] at hk6
      refine op_on HE rfl rfl hb5 ?_
      refine o_move HE rfl rfl ?_; clear HE; intro a HE
      refine op_on HE rfl rfl hb5 ?_
      refine o_eqS HE rfl rfl rfl ?_; clear HE; intro a HE
      refine o_pick_t HE rfl rfl hb5 rfl ?_; clear HE; intro a HE
      exact ⟨rfl, HE.cut ⟨by rw [hb5]; rfl, rfl, rfl, rfl, rfl, rfl, rfl, rfl, rfl, rfl, rfl, rfl, rfl, rfl, rfl, rfl, trivial⟩⟩
    · skip
      have hk7 := hb5; try simp only [Bool.not_eq_true', Bool.not_eq_false', Bool.and_eq_true, Bool.or_eq_true, Bool.or_eq_false_iff, decide_eq_true_eq, decide_eq_false_iff_not, beq_iff_eq, beq_eq_false_iff_ne, ne_eq] at hk7
      refine g_off HE rfl rfl rfl hb5 ?_; clear HE; intro a HE
      refine g_off HE rfl rfl rfl hb5 ?_; clear HE; intro a HE
      refine o_pick_f HE rfl rfl hb5 rfl ?_; clear HE; intro a HE
      exact ⟨rfl, HE.cut ⟨by rw [hb5]; rfl, rfl, rfl, rfl, rfl, rfl, rfl, rfl, rfl, rfl, rfl, rfl, rfl, rfl, rfl, rfl, trivial⟩⟩
  clear HE; rintro a _ ⟨rfl, HE⟩
  refine o_move HE rfl rfl ?_; clear HE; intro a HE
  refine cutL 3 (fun a' w' => w = w' ∧ Env a' 35 [] [(27, .bool (((decide ((code8 (linesS [97, 98]).2) = 2) && (decide (((linesS [97, 98]).2) = 1) && true)) && (((noteS [97, 32, 59, 98, 32, 59, 99]).1) == [97])) && (((noteS [97, 32, 59, 98, 32, 59, 99]).2.1) == [98, 32, 59, 99]))), (0, .bool false), (2, .pointer (some ⟨B2, 0, none⟩)), (5, .bool ((noteS [97, 32, 59, 98, 32, 59, 99]).2.2.1)), (6, .int .i64 ((noteS [97, 32, 59, 98, 32, 59, 99]).2.2.2)), (7, .tuple #[.slice vA2 ((linesS [97, 98]).1.length) vc2, .agg #[.int .i64 (code8 (linesS [97, 98]).2), .int .i64 ((linesS [97, 98]).2)]]), (8, .tuple #[.slice vA2 ((linesS [97, 98]).1.length) vc2, .agg #[.int .i64 (code8 (linesS [97, 98]).2), .int .i64 ((linesS [97, 98]).2)]]), (9, .slice vA2 ((linesS [97, 98]).1.length) vc2), (10, .agg #[.int .i64 (code8 (linesS [97, 98]).2), .int .i64 ((linesS [97, 98]).2)]), (11, .tuple #[str ((noteS [97, 32, 59, 98, 32, 59, 99]).1), str ((noteS [97, 32, 59, 98, 32, 59, 99]).2.1), .bool ((noteS [97, 32, 59, 98, 32, 59, 99]).2.2.1), .int .i64 ((noteS [97, 32, 59, 98, 32, 59, 99]).2.2.2)]), (12, .tuple #[str ((noteS [97, 32, 59, 98, 32, 59, 99]).1), str ((noteS [97, 32, 59, 98, 32, 59, 99]).2.1), .bool ((noteS [97, 32, 59, 98, 32, 59, 99]).2.2.1), .int .i64 ((noteS [97, 32, 59, 98, 32, 59, 99]).2.2.2)]), (13, str ((noteS [97, 32, 59, 98, 32, 59, 99]).1)), (14, str ((noteS [97, 32, 59, 98, 32, 59, 99]).2.1)), (15, .bool ((noteS [97, 32, 59, 98, 32, 59, 99]).2.2.1)), (16, .int .i64 ((noteS [97, 32, 59, 98, 32, 59, 99]).2.2.2))]) ?_ ?_
  · refine (Bool.eq_false_or_eq_true ((decide ((code8 (linesS [97, 98]).2) = 2) && (decide (((linesS [97, 98]).2) = 1) && true)) && (((noteS [97, 32, 59, 98, 32, 59, 99]).1) == [97]))).elim (fun hb8 => ?_) (fun hb8 => ?_)
    · skip
      have hk9 := hb8; try simp only [Bool.not_eq_true', Bool.not_eq_false', Bool.and_eq_true, Bool.or_eq_true, Bool.or_eq_false_iff, decide_eq_true_eq, decide_eq_false_iff_not, beq_iff_eq, beq_eq_false_iff_ne, ne_eq] at hk9
      refine op_on HE rfl rfl hb8 ?_
      refine o_move HE rfl rfl ?_; clear HE; intro a HE
      refine op_on HE rfl rfl hb8 ?_
      refine o_eqS HE rfl rfl rfl ?_; clear HE; intro a HE
      refine o_pick_t HE rfl rfl hb8 rfl ?_; clear HE; intro a HE
      exact ⟨rfl, HE.cut ⟨by rw [hb8]; rfl, rfl, rfl, rfl, rfl, rfl, rfl, rfl, rfl, rfl, rfl, rfl, rfl, rfl, rfl, trivial⟩⟩
    · skip
      have hk10 := hb8; try simp only [Bool.not_eq_true', Bool.not_eq_false', Bool.and_eq_true, Bool.or_eq_true, Bool.or_eq_false_iff, decide_eq_true_eq, decide_eq_false_iff_not, beq_iff_eq, beq_eq_false_iff_ne, ne_eq] at hk10
      refine g_off HE rfl rfl rfl hb8 ?_; clear HE; intro a HE
      refine g_off HE rfl rfl rfl hb8 ?_; clear HE; intro a HE
      refine o_pick_f HE rfl rfl hb8 rfl ?_; clear HE; intro a HE
      exact ⟨rfl, HE.cut ⟨by rw [hb8]; rfl, rfl, rfl, rfl, rfl, rfl, rfl, rfl, rfl, rfl, rfl, rfl, rfl, rfl, rfl, trivial⟩⟩
  clear HE; rintro a _ ⟨rfl, HE⟩
  refine o_move HE rfl rfl ?_; clear HE; intro a HE
  refine cutL 2 (fun a' w' => w = w' ∧ Env a' 35 [] [(30, .bool ((((decide ((code8 (linesS [97, 98]).2) = 2) && (decide (((linesS [97, 98]).2) = 1) && true)) && (((noteS [97, 32, 59, 98, 32, 59, 99]).1) == [97])) && (((noteS [97, 32, 59, 98, 32, 59, 99]).2.1) == [98, 32, 59, 99])) && ((noteS [97, 32, 59, 98, 32, 59, 99]).2.2.1))), (0, .bool false), (2, .pointer (some ⟨B2, 0, none⟩)), (6, .int .i64 ((noteS [97, 32, 59, 98, 32, 59, 99]).2.2.2)), (7, .tuple #[.slice vA2 ((linesS [97, 98]).1.length) vc2, .agg #[.int .i64 (code8 (linesS [97, 98]).2), .int .i64 ((linesS [97, 98]).2)]]), (8, .tuple #[.slice vA2 ((linesS [97, 98]).1.length) vc2, .agg #[.int .i64 (code8 (linesS [97, 98]).2), .int .i64 ((linesS [97, 98]).2)]]), (9, .slice vA2 ((linesS [97, 98]).1.length) vc2), (10, .agg #[.int .i64 (code8 (linesS [97, 98]).2), .int .i64 ((linesS [97, 98]).2)]), (11, .tuple #[str ((noteS [97, 32, 59, 98, 32, 59, 99]).1), str ((noteS [97, 32, 59, 98, 32, 59, 99]).2.1), .bool ((noteS [97, 32, 59, 98, 32, 59, 99]).2.2.1), .int .i64 ((noteS [97, 32, 59, 98, 32, 59, 99]).2.2.2)]), (12, .tuple #[str ((noteS [97, 32, 59, 98, 32, 59, 99]).1), str ((noteS [97, 32, 59, 98, 32, 59, 99]).2.1), .bool ((noteS [97, 32, 59, 98, 32, 59, 99]).2.2.1), .int .i64 ((noteS [97, 32, 59, 98, 32, 59, 99]).2.2.2)]), (13, str ((noteS [97, 32, 59, 98, 32, 59, 99]).1)), (14, str ((noteS [97, 32, 59, 98, 32, 59, 99]).2.1)), (15, .bool ((noteS [97, 32, 59, 98, 32, 59, 99]).2.2.1)), (16, .int .i64 ((noteS [97, 32, 59, 98, 32, 59, 99]).2.2.2))]) ?_ ?_
  · refine (Bool.eq_false_or_eq_true (((decide ((code8 (linesS [97, 98]).2) = 2) && (decide (((linesS [97, 98]).2) = 1) && true)) && (((noteS [97, 32, 59, 98, 32, 59, 99]).1) == [97])) && (((noteS [97, 32, 59, 98, 32, 59, 99]).2.1) == [98, 32, 59, 99]))).elim (fun hb11 => ?_) (fun hb11 => ?_)
    · skip
      have hk12 := hb11; try simp only [Bool.not_eq_true', Bool.not_eq_false', Bool.and_eq_true, Bool.or_eq_true, Bool.or_eq_false_iff, decide_eq_true_eq, decide_eq_false_iff_not, beq_iff_eq, beq_eq_false_iff_ne, ne_eq] at hk12
      refine op_on HE rfl rfl hb11 ?_
      refine o_move HE rfl rfl ?_; clear HE; intro a HE
      refine o_pick_t HE rfl rfl hb11 rfl ?_; clear HE; intro a HE
      exact ⟨rfl, HE.cut ⟨by rw [hb11]; rfl, rfl, rfl, rfl, rfl, rfl, rfl, rfl, rfl, rfl, rfl, rfl, rfl, rfl, trivial⟩⟩
    · skip
      have hk13 := hb11; try simp only [Bool.not_eq_true', Bool.not_eq_false', Bool.and_eq_true, Bool.or_eq_true, Bool.or_eq_false_iff, decide_eq_true_eq, decide_eq_false_iff_not, beq_iff_eq, beq_eq_false_iff_ne, ne_eq] at hk13
      refine g_off HE rfl rfl rfl hb11 ?_; clear HE; intro a HE
      refine o_pick_f HE rfl rfl hb11 rfl ?_; clear HE; intro a HE
      exact ⟨rfl, HE.cut ⟨by rw [hb11]; rfl, rfl, rfl, rfl, rfl, rfl, rfl, rfl, rfl, rfl, rfl, rfl, rfl, rfl, trivial⟩⟩
  clear HE; rintro a _ ⟨rfl, HE⟩
  refine o_move HE rfl rfl ?_; clear HE; intro a HE
  refine cutL 3 (fun a' w' => w = w' ∧ Env a' 35 [] [(34, .bool (((((decide ((code8 (linesS [97, 98]).2) = 2) && (decide (((linesS [97, 98]).2) = 1) && true)) && (((noteS [97, 32, 59, 98, 32, 59, 99]).1) == [97])) && (((noteS [97, 32, 59, 98, 32, 59, 99]).2.1) == [98, 32, 59, 99])) && ((noteS [97, 32, 59, 98, 32, 59, 99]).2.2.1)) && (decide (((noteS [97, 32, 59, 98, 32, 59, 99]).2.2.2) = 0)))), (0, .bool false), (2, .pointer (some ⟨B2, 0, none⟩)), (7, .tuple #[.slice vA2 ((linesS [97, 98]).1.length) vc2, .agg #[.int .i64 (code8 (linesS [97, 98]).2), .int .i64 ((linesS [97, 98]).2)]]), (8, .tuple #[.slice vA2 ((linesS [97, 98]).1.length) vc2, .agg #[.int .i64 (code8 (linesS [97, 98]).2), .int .i64 ((linesS [97, 98]).2)]]), (9, .slice vA2 ((linesS [97, 98]).1.length) vc2), (10, .agg #[.int .i64 (code8 (linesS [97, 98]).2), .int .i64 ((linesS [97, 98]).2)]), (11, .tuple #[str ((noteS [97, 32, 59, 98, 32, 59, 99]).1), str ((noteS [97, 32, 59, 98, 32, 59, 99]).2.1), .bool ((noteS [97, 32, 59, 98, 32, 59, 99]).2.2.1), .int .i64 ((noteS [97, 32, 59, 98, 32, 59, 99]).2.2.2)]), (12, .tuple #[str ((noteS [97, 32, 59, 98, 32, 59, 99]).1), str ((noteS [97, 32, 59, 98, 32, 59, 99]).2.1), .bool ((noteS [97, 32, 59, 98, 32, 59, 99]).2.2.1), .int .i64 ((noteS [97, 32, 59, 98, 32, 59, 99]).2.2.2)]), (13, str ((noteS [97, 32, 59, 98, 32, 59, 99]).1)), (14, str ((noteS [97, 32, 59, 98, 32, 59, 99]).2.1)), (15, .bool ((noteS [97, 32, 59, 98, 32, 59, 99]).2.2.1)), (16, .int .i64 ((noteS [97, 32, 59, 98, 32, 59, 99]).2.2.2))]) ?_ ?_
  · refine (Bool.eq_false_or_eq_true ((((decide ((code8 (linesS [97, 98]).2) = 2) && (decide (((linesS [97, 98]).2) = 1) && true)) && (((noteS [97, 32, 59, 98, 32, 59, 99]).1) == [97])) && (((noteS [97, 32, 59, 98, 32, 59, 99]).2.1) == [98, 32, 59, 99])) && ((noteS [97, 32, 59, 98, 32, 59, 99]).2.2.1))).elim (fun hb14 => ?_) (fun hb14 => ?_)
    · skip
      have hk15 := hb14; try simp only [Bool.not_eq_true', Bool.not_eq_false', Bool.and_eq_true, Bool.or_eq_true, Bool.or_eq_false_iff, decide_eq_true_eq, decide_eq_false_iff_not, beq_iff_eq, beq_eq_false_iff_ne, ne_eq] at hk15
      refine op_on HE rfl rfl hb14 ?_
      refine o_move HE rfl rfl ?_; clear HE; intro a HE
      refine op_on HE rfl rfl hb14 ?_
      refine o_eqI HE rfl rfl rfl ?_; clear HE; intro a HE
      refine o_pick_t HE rfl rfl hb14 rfl ?_; clear HE; intro a HE
      exact ⟨rfl, HE.cut ⟨by rw [hb14]; rfl, rfl, rfl, rfl, rfl, rfl, rfl, rfl, rfl, rfl, rfl, rfl, rfl, trivial⟩⟩
    · skip
      have hk16 := hb14; try simp only [Bool.not_eq_true', Bool.not_eq_false', Bool.and_eq_true, Bool.or_eq_true, Bool.or_eq_false_iff, decide_eq_true_eq, decide_eq_false_iff_not, beq_iff_eq, beq_eq_false_iff_ne, ne_eq] at hk16
      refine g_off HE rfl rfl rfl hb14 ?_; clear HE; intro a HE
      refine g_off HE rfl rfl rfl hb14 ?_; clear HE; intro a HE
      refine o_pick_f HE rfl rfl hb14 rfl ?_; clear HE; intro a HE
      exact ⟨rfl, HE.cut ⟨by rw [hb14]; rfl, rfl, rfl, rfl, rfl, rfl, rfl, rfl, rfl, rfl, rfl, rfl, rfl, trivial⟩⟩
  clear HE; rintro a _ ⟨rfl, HE⟩
  refine o_assign HE rfl rfl ?_; clear HE; intro a HE
  refine hK _ _ ?_; clear hK K
  refine wp_ret ?_
  show Q .ret _ _
  refine ret hQ HE rfl (HE.res rfl .nil) ⟨_, _, HS.stop (List.nil_sublist _), rfl, ?_⟩
  show _ = _
  simp only [packed, Value.bool.injEq]
  decide

/-! `incognito/line.Words` -/
set_option maxRecDepth 100000 in
set_option maxHeartbeats 4000000 in
theorem c_words (s : Bs) (w0 : World) (G : Heap) (hG : Sub G w0) (m8 : Int) (h8 : CellsAt G 2 0 [.int .i64 m8]) (hl : s.length ≤ 4294967280):
    Calls Tryd.prog 26 #[str s] w0 (Ret w0 G (fun v G' => ∃ A c, v = .tuple #[.slice A (wordsS s).1.length c, .int .i64 (wordsS s).2] ∧ (wordsS s).1.length ≤ c ∧ Rd Knd.s G' A (wordsS s).1)) := by
  refine enter Tryd.func26 rfl Tryd.ntmps26 rfl ?_
  intro Q hQ a HE
  have HS := St.start0 hG
  refine wp_seq_k (fun K hK => ?_); refine wp_region_lit ?_
  refine o_assign HE rfl rfl ?_; clear HE; intro a HE
  refine o_assign HE rfl rfl ?_; clear HE; intro a HE
  refine hK _ _ ?_; clear hK K
  refine wp_seq_k (fun K hK => ?_); refine wp_region_lit ?_
  refine o_move HE rfl rfl ?_; clear HE; intro a HE
  refine o_call HE rfl HS rfl rfl T.g44 (g_split s 32 _ _ HS.sub m8 h8 (by first | omega | (simp; done) | (simp; omega) | (have := cutA_len s 59; have := cutB_len s 59; omega))) ?_
  clear HE HS; rintro _ G2 w a HS hle2 ⟨vA2, vc2, rfl, hcp2, hR2⟩ HE
  replace h8 := h8.le hle2
  refine o_assign HE rfl rfl ?_; clear HE; intro a HE
  refine hK _ _ ?_; clear hK K
  refine wp_seq_k (fun K5 hK4 => ?_)
  refine wp_seq_k (fun K hK => ?_); refine wp_region_lit ?_
  refine o_move HE rfl rfl ?_; clear HE; intro a HE
  refine o_callP HE rfl HS rfl rfl T.g45 (g_contains (splitS 32 s) _ _ [] _ _ HS.sub hR2 (by have := splitS_len 32 s; omega)) ?_
  clear HE HS; rintro _ w a HS rfl HE
  refine hK _ _ ?_; clear hK K
  refine cond HE rfl (fun h7 => ?_) (fun h7 => ?_)
  · have h7r := h7; try simp only [Bool.not_eq_true', Bool.not_eq_false', Bool.and_eq_true, Bool.or_eq_true, Bool.or_eq_false_iff, Bool.and_eq_false_iff, decide_eq_true_eq, decide_eq_false_iff_not, beq_iff_eq, beq_eq_false_iff_ne, ne_eq] at h7
    refine wp_seq_k (fun K hK => ?_); refine wp_region_lit ?_
    refine o_assign HE rfl rfl ?_; clear HE; intro a HE
    refine o_assign HE rfl rfl ?_; clear HE; intro a HE
    refine hK _ _ ?_; clear hK K
    refine wp_ret ?_
    show Q .ret _ _
    refine ret hQ HE rfl (HE.res rfl (HE.res rfl .nil)) ⟨_, _, HS.stop (List.nil_sublist _), rfl, ?_⟩
    have e : wordsS s = ([], 2) := by
      unfold wordsS
      rw [if_pos h7]
    rw [e]
    exact ⟨_, _, rfl, Nat.le_refl _, .nil⟩
  · have h7r := h7; try simp only [Bool.not_eq_true', Bool.not_eq_false', Bool.and_eq_true, Bool.or_eq_true, Bool.or_eq_false_iff, Bool.and_eq_false_iff, decide_eq_true_eq, decide_eq_false_iff_not, beq_iff_eq, beq_eq_false_iff_ne, ne_eq] at h7
    refine wp_skip ?_
    refine hK4 _ _ ?_; clear hK4
    refine wp_seq_k (fun K hK => ?_); refine wp_region_lit ?_
    refine o_move HE rfl rfl ?_; clear HE; intro a HE
    refine o_assign HE rfl rfl ?_; clear HE; intro a HE
    refine o_assign HE rfl rfl ?_; clear HE; intro a HE
    refine hK _ _ ?_; clear hK K
    refine wp_ret ?_
    show Q .ret _ _
    refine ret hQ HE rfl (HE.res rfl (HE.res rfl .nil)) ⟨_, _, HS.stop (List.nil_sublist _), rfl, ?_⟩
    have e : wordsS s = (splitS 32 s, 0) := by
      unfold wordsS
      rw [if_neg h7]
    rw [e]
    exact ⟨_, _, rfl, by assumption, by assumption⟩

/-! `incognito/incognitoref08.Words` -/
set_option maxRecDepth 100000 in
set_option maxHeartbeats 4000000 in
theorem c_Words8 (s : Bs) (w0 : World) (G : Heap) (hG : Sub G w0) (hl : s.length ≤ 4294967280):
    Calls Tryd.prog 27 #[str s] w0 (Ret w0 G (fun v G' => ∃ A c, v = .tuple #[.slice A (wordsS s).1.length c, .bool (decide ((wordsS s).2 = 0))] ∧ (wordsS s).1.length ≤ c ∧ Rd Knd.s G' A (wordsS s).1)) := by
  refine enter Tryd.func27 rfl Tryd.ntmps27 rfl ?_
  intro Q hQ a HE
  have HS := St.start0 hG
  refine wp_seq_k (fun K hK => ?_); refine wp_region_lit ?_
  refine o_assign HE rfl rfl ?_; clear HE; intro a HE
  refine o_assign HE rfl rfl ?_; clear HE; intro a HE
  refine hK _ _ ?_; clear hK K
  refine wp_seq_k (fun K hK => ?_); refine wp_region_lit ?_
  refine o_assign HE rfl rfl ?_; clear HE; intro a HE
  refine hK _ _ ?_; clear hK K
  refine wp_seq_k (fun K hK => ?_); refine wp_region_lit ?_
  refine o_assign HE rfl rfl ?_; clear HE; intro a HE
  refine hK _ _ ?_; clear hK K
  refine wp_seq_k (fun K5 hK4 => ?_)
  refine wp_seq_k (fun K hK => ?_); refine wp_region_lit ?_
  refine o_assign HE rfl rfl ?_; clear HE; intro a HE
  refine hK _ _ ?_; clear hK K
  refine wp_block ?_
  replace HS := HS.nilChunk
  have oH8 : X.Own Knd.s 9 G none 0 ([] : List Bs) [] := X.Own.nil
  refine loop (fun (p : Nat × Nat) a' w' => ∃ (oA4_1 : Option Addr) (oc4_1 : Nat) (oC4_1 : Chunk), St w0 G [] G w' [oC4_1] ∧ Env a' 36 [] [(0, str s), (4, .slice oA4_1 ((pcs 32 ((s ++ [32]).take p.1)).length) oc4_1), (5, .int .i64 ((p.2 : Nat) : Int)), (6, .int .i64 ((p.1 : Nat) : Int))] ∧ X.Own Knd.s 9 G oA4_1 oc4_1 (pcs 32 ((s ++ [32]).take p.1)) oC4_1 ∧ (p.1 ≤ s.length + 1 ∧ p.2 = atS 32 (s ++ [32]) p.1 ∧ [] ∉ pcs 32 ((s ++ [32]).take p.1))) (fun (p : Nat × Nat) => s.length + 1 - p.1) (0, 0) ⟨_, _, _, HS, HE.cut ⟨rfl, rfl, rfl, rfl, trivial⟩, X.Own.nil (K := Knd.s), ⟨Nat.zero_le _, (at_zero 32 _).symm, by simp [pcs_nil]⟩⟩ ?_
  clear HE HS; intro p a w ⟨oA4_1, oc4_1, oC4_1, HS, HE, oH4_1, ⟨hq1, hq2, hq3⟩⟩
  refine wp_seq_k (fun K11 hK10 => ?_)
  refine wp_seq_k (fun K hK => ?_); refine wp_region_lit ?_
  refine o_move HE rfl rfl ?_; clear HE; intro a HE
  refine o_move HE rfl rfl ?_; clear HE; intro a HE
  refine o_lenS HE rfl rfl Tryd.underlying9 ?_; clear HE; intro a HE
  refine o_leq HE rfl rfl rfl ?_; clear HE; intro a HE
  refine hK _ _ ?_; clear hK K
  refine cond HE rfl (fun h13 => ?_) (fun h13 => ?_)
  · have h13r := h13; try simp only [Bool.not_eq_true', Bool.not_eq_false', Bool.and_eq_true, Bool.or_eq_true, Bool.or_eq_false_iff, Bool.and_eq_false_iff, decide_eq_true_eq, decide_eq_false_iff_not, beq_iff_eq, beq_eq_false_iff_ne, ne_eq] at h13
    refine wp_skip ?_
    refine hK10 _ _ ?_; clear hK10
    refine wp_seq_k (fun K15 hK14 => ?_)
    refine wp_block ?_
    refine wp_seq_k (fun K17 hK16 => ?_)
    refine wp_seq_k (fun K hK => ?_); refine wp_region_lit ?_
    refine o_move HE rfl rfl ?_; clear HE; intro a HE
    refine o_move HE rfl rfl ?_; clear HE; intro a HE
    refine o_lenS HE rfl rfl Tryd.underlying9 ?_; clear HE; intro a HE
    refine o_lss HE rfl rfl rfl ?_; clear HE; intro a HE
    refine o_move HE rfl rfl ?_; clear HE; intro a HE
    refine cutL 5 (fun a' w' => w = w' ∧ Env a' 36 [] [(22, .bool ((decide (((p.1 : Nat) : Int) < (s.length : Int))) && (!decide ((bt s ((p.1 : Nat) : Int)) = 32)))), (0, str s), (4, .slice oA4_1 ((pcs 32 ((s ++ [32]).take p.1)).length) oc4_1), (5, .int .i64 ((p.2 : Nat) : Int)), (6, .int .i64 ((p.1 : Nat) : Int)), (7, .int .i64 ((p.1 : Nat) : Int)), (8, str s), (9, .int .i64 (s.length : Int)), (10, .bool (decide (((p.1 : Nat) : Int) ≤ (s.length : Int))))]) ?_ ?_
    · refine (Bool.eq_false_or_eq_true (decide (((p.1 : Nat) : Int) < (s.length : Int)))).elim (fun hb18 => ?_) (fun hb18 => ?_)
      · skip
        have hk19 := hb18; try simp only [Bool.not_eq_true', Bool.not_eq_false', Bool.and_eq_true, Bool.or_eq_true, Bool.or_eq_false_iff, decide_eq_true_eq, decide_eq_false_iff_not, beq_iff_eq, beq_eq_false_iff_ne, ne_eq] at hk19
        refine op_on HE rfl rfl hb18 ?_
        refine o_move HE rfl rfl ?_; clear HE; intro a HE
        refine op_on HE rfl rfl hb18 ?_
        refine o_move HE rfl rfl ?_; clear HE; intro a HE
        refine op_on HE rfl rfl hb18 ?_
        refine o_index HE rfl rfl rfl Tryd.underlying9 (by omega) ?_; clear HE; intro a HE
        refine op_on HE rfl rfl hb18 ?_
        refine o_neI HE rfl rfl rfl ?_; clear HE; intro a HE
        refine o_pick_t HE rfl rfl hb18 rfl ?_; clear HE; intro a HE
        exact ⟨rfl, HE.cut ⟨by rw [hb18]; rfl, rfl, rfl, rfl, rfl, rfl, rfl, rfl, rfl, trivial⟩⟩
      · skip
        have hk20 := hb18; try simp only [Bool.not_eq_true', Bool.not_eq_false', Bool.and_eq_true, Bool.or_eq_true, Bool.or_eq_false_iff, decide_eq_true_eq, decide_eq_false_iff_not, beq_iff_eq, beq_eq_false_iff_ne, ne_eq] at hk20
        refine g_off HE rfl rfl rfl hb18 ?_; clear HE; intro a HE
        refine g_off HE rfl rfl rfl hb18 ?_; clear HE; intro a HE
        refine g_off HE rfl rfl rfl hb18 ?_; clear HE; intro a HE
        refine g_off HE rfl rfl rfl hb18 ?_; clear HE; intro a HE
        refine o_pick_f HE rfl rfl hb18 rfl ?_; clear HE; intro a HE
        exact ⟨rfl, HE.cut ⟨by rw [hb18]; rfl, rfl, rfl, rfl, rfl, rfl, rfl, rfl, rfl, trivial⟩⟩
    clear HE; rintro a _ ⟨rfl, HE⟩
    refine hK _ _ ?_; clear hK K
    refine cond HE rfl (fun h22 => ?_) (fun h22 => ?_)
    · have h22r := h22; try simp only [Bool.not_eq_true', Bool.not_eq_false', Bool.and_eq_true, Bool.or_eq_true, Bool.or_eq_false_iff, Bool.and_eq_false_iff, decide_eq_true_eq, decide_eq_false_iff_not, beq_iff_eq, beq_eq_false_iff_ne, ne_eq] at h22
      refine wp_exit ?_
      refine hK14 _ _ ?_; clear hK14
      refine wp_region_lit ?_
      refine o_move HE rfl rfl ?_; clear HE; intro a HE
      refine o_add HE rfl rfl rfl (by omega) ?_; clear HE; intro a HE
      refine o_assign HE rfl rfl ?_; clear HE; intro a HE
      have hlt : p.1 < s.length := by omega
      have hno : ¬ (s ++ [32])[p.1]'(by simp; omega) = 32 := by rw [end_at hlt]; exact bNo8 hlt (by simpa using h22.2)
      have hpn : p.1 + 1 ≤ s.length + 1 ∧ p.2 = atS 32 (s ++ [32]) (p.1 + 1) ∧ [] ∉ pcs 32 ((s ++ [32]).take (p.1 + 1)) := ⟨by omega, hq2.trans (at_miss (by simp; omega) hno).symm, by rw [pcs_miss (by simp; omega) hno]; exact hq3⟩
      have hxs : (pcs 32 ((s ++ [32]).take p.1)) = pcs 32 ((s ++ [32]).take (p.1 + 1)) := (pcs_miss (by simp; omega) hno).symm
      rw [hxs] at HE oH4_1; clear hxs
      exact ⟨(p.1 + 1, p.2), ⟨_, _, _, HS, HE.cut ⟨rfl, rfl, rfl, rfl, trivial⟩, oH4_1, hpn⟩, by show s.length + 1 - (p.1 + 1) < _; omega⟩
    · have h22r := h22; try simp only [Bool.not_eq_true', Bool.not_eq_false', Bool.and_eq_true, Bool.or_eq_true, Bool.or_eq_false_iff, Bool.and_eq_false_iff, decide_eq_true_eq, decide_eq_false_iff_not, beq_iff_eq, beq_eq_false_iff_ne, ne_eq] at h22
      refine wp_skip ?_
      refine hK16 _ _ ?_; clear hK16
      refine wp_seq_k (fun K24 hK23 => ?_)
      refine wp_seq_k (fun K hK => ?_); refine wp_region_lit ?_
      have hle1 : p.1 ≤ s.length := by omega
      have hyes : (s ++ [32])[p.1]'(by simp; omega) = 32 := words_hit hle1 (fun hlt => by rw [List.getElem?_eq_getElem hlt]; exact congrArg some (bAt8 hlt (by rcases h22 with h | h <;> first | omega | simpa using h)))
      have hale := atS_le 32 (s ++ [32]) p.1
      have hpl := pcs_len 32 (s ++ [32]) p.1 (by simp; omega)
      refine o_move HE rfl rfl ?_; clear HE; intro a HE
      refine o_move HE rfl rfl ?_; clear HE; intro a HE
      refine o_eqI HE rfl rfl rfl ?_; clear HE; intro a HE
      refine hK _ _ ?_; clear hK K
      refine cond HE rfl (fun h26 => ?_) (fun h26 => ?_)
      · have h26r := h26; try simp only [Bool.not_eq_true', Bool.not_eq_false', Bool.and_eq_true, Bool.or_eq_true, Bool.or_eq_false_iff, Bool.and_eq_false_iff, decide_eq_true_eq, decide_eq_false_iff_not, beq_iff_eq, beq_eq_false_iff_ne, ne_eq] at h26
        refine wp_seq_k (fun K hK => ?_); refine wp_region_lit ?_
        refine o_assign HE rfl rfl ?_; clear HE; intro a HE
        refine o_assign HE rfl rfl ?_; clear HE; intro a HE
        refine hK _ _ ?_; clear hK K
        refine wp_ret ?_
        show Q .ret _ _
        refine ret hQ HE rfl (HE.res rfl (HE.res rfl .nil)) ⟨_, _, HS.stop (List.nil_sublist _), rfl, ?_⟩
        have e : wordsS s = ([], 2) := words_empty (i := p.1) (by omega) hyes (by omega)
        rw [e]
        exact ⟨_, _, rfl, Nat.le_refl _, .nil⟩
      · have h26r := h26; try simp only [Bool.not_eq_true', Bool.not_eq_false', Bool.and_eq_true, Bool.or_eq_true, Bool.or_eq_false_iff, Bool.and_eq_false_iff, decide_eq_true_eq, decide_eq_false_iff_not, beq_iff_eq, beq_eq_false_iff_ne, ne_eq] at h26
        refine wp_skip ?_
        refine hK23 _ _ ?_; clear hK23
        refine wp_seq_k (fun K hK => ?_); refine wp_region_lit ?_
        refine o_move HE rfl rfl ?_; clear HE; intro a HE
        refine o_move HE rfl rfl ?_; clear HE; intro a HE
        refine o_move HE rfl rfl ?_; clear HE; intro a HE
        refine o_move HE rfl rfl ?_; clear HE; intro a HE
        refine o_sliceS HE rfl rfl rfl rfl Tryd.underlying9 (by omega) ?_; clear HE; intro a HE
        refine o_buildSl (cs := #[str (sub s ((p.2 : Nat) : Int) ((p.1 : Nat) : Int))]) [(0, _)] HE rfl HS rfl T.l42 (by kernel_rfl) ⟨rfl, trivial⟩ ?_; clear HE HS; intro B31 w a HS HE
        refine o_appendL (K := Knd.s) (ys := [sub s ((p.2 : Nat) : Int) ((p.1 : Nat) : Int)]) (n := 1) HE rfl HS (.there .here) oH4_1 rfl rfl T.p42 (.here .here) rfl ⟨rfl, rfl⟩ rfl rfl (by (simp; omega)) (by (simp; omega)) ?_
        clear HE HS; intro oA28 oc28 oC28 w a HS oH28 HE
        refine o_assign HE rfl rfl ?_; clear HE; intro a HE
        refine hK _ _ ?_; clear hK K
        refine wp_region_lit ?_
        refine o_move HE rfl rfl ?_; clear HE; intro a HE
        refine o_add HE rfl rfl rfl (by omega) ?_; clear HE; intro a HE
        refine o_assign HE rfl rfl ?_; clear HE; intro a HE
        refine hK14 _ _ ?_; clear hK14
        refine wp_region_lit ?_
        refine o_move HE rfl rfl ?_; clear HE; intro a HE
        refine o_add HE rfl rfl rfl (by omega) ?_; clear HE; intro a HE
        refine o_assign HE rfl rfl ?_; clear HE; intro a HE
        replace HS := HS.drop (M' := [_]) (sub_keep (sub_drop sub_nil))
        have hpn : p.1 + 1 ≤ s.length + 1 ∧ p.1 + 1 = atS 32 (s ++ [32]) (p.1 + 1) ∧ [] ∉ pcs 32 ((s ++ [32]).take (p.1 + 1)) := ⟨by omega, (at_hit (by simp; omega) hyes).symm, words_next (by omega) hyes (by omega) hq3⟩
        have hxs : ((pcs 32 ((s ++ [32]).take p.1)) ++ [sub s ((p.2 : Nat) : Int) ((p.1 : Nat) : Int)]) = pcs 32 ((s ++ [32]).take (p.1 + 1)) := by rw [sub_end (by omega) hq2, pcs_hit (by simp; omega) hyes]
        rw [hxs] at HE oH28; clear hxs
        exact ⟨(p.1 + 1, p.1 + 1), ⟨_, _, _, HS, HE.cut ⟨rfl, rfl, rfl, rfl, trivial⟩, oH28, hpn⟩, by show s.length + 1 - (p.1 + 1) < _; omega⟩
  · have h13r := h13; try simp only [Bool.not_eq_true', Bool.not_eq_false', Bool.and_eq_true, Bool.or_eq_true, Bool.or_eq_false_iff, Bool.and_eq_false_iff, decide_eq_true_eq, decide_eq_false_iff_not, beq_iff_eq, beq_eq_false_iff_ne, ne_eq] at h13
    refine wp_exit ?_
    refine hK4 _ _ ?_; clear hK4
    refine wp_seq_k (fun K hK => ?_); refine wp_region_lit ?_
    refine o_move HE rfl rfl ?_; clear HE; intro a HE
    refine o_assign HE rfl rfl ?_; clear HE; intro a HE
    refine o_assign HE rfl rfl ?_; clear HE; intro a HE
    refine hK _ _ ?_; clear hK K
    refine wp_ret ?_
    have hcphR32 := oH4_1.cap
    obtain ⟨G31, hle33, HS', hR32⟩ := X.Own.still HS .here oH4_1; clear HS; have HS := HS'; clear HS'
    show Q .ret _ _
    refine ret hQ HE rfl (HE.res rfl (HE.res rfl .nil)) ⟨_, _, HS.stop (List.nil_sublist _), rfl, ?_⟩
    have hp1 : p.1 = s.length + 1 := by omega
    rw [hp1] at hq3
    have e : wordsS s = (pcs 32 ((s ++ [32]).take p.1), 0) := by rw [hp1]; exact words_full hq3
    rw [e]
    exact ⟨_, _, rfl, by assumption, by assumption⟩

/-! `incognito/line.Join` -/
set_option maxRecDepth 100000 in
set_option maxHeartbeats 4000000 in
theorem c_join8 (xs : List Bs) (A : Option Addr) (c : Nat) (w0 : World) (G : Heap) (hG : Sub G w0) (hR : Rd Knd.s G A xs) (hc : xs.length ≤ c) (hl : xs.length ≤ 140737488355328) (hj : (Lib.join xs [32]).length ≤ 140737488355328):
    Calls Tryd.prog 29 #[.slice A xs.length c] w0 (Ret w0 G (fun v _ => v = str (Lib.join xs [32]))) := by
  refine enter Tryd.func29 rfl Tryd.ntmps29 rfl ?_
  intro Q hQ a HE
  have HS := St.start0 hG
  refine wp_seq_k (fun K hK => ?_); refine wp_region_lit ?_
  refine o_assign HE rfl rfl ?_; clear HE; intro a HE
  refine hK _ _ ?_; clear hK K
  refine wp_seq_k (fun K hK => ?_); refine wp_region_lit ?_
  refine o_move HE rfl rfl ?_; clear HE; intro a HE
  refine o_callP HE rfl HS rfl rfl T.g46 (g_join xs _ _ _ _ HS.sub hR (by assumption) (by omega) (by omega)) ?_
  clear HE HS; rintro _ w a HS rfl HE
  refine o_assign HE rfl rfl ?_; clear HE; intro a HE
  refine hK _ _ ?_; clear hK K
  refine wp_ret ?_
  show Q .ret _ _
  refine ret hQ HE rfl (HE.res rfl .nil) ⟨_, _, HS.stop (List.nil_sublist _), rfl, ?_⟩
  exact rfl

/-! `incognito/incognitoref08.Join` -/
set_option maxRecDepth 100000 in
set_option maxHeartbeats 4000000 in
theorem c_Join8 (xs : List Bs) (A : Option Addr) (c : Nat) (w0 : World) (G : Heap) (hG : Sub G w0) (hR : Rd Knd.s G A xs) (hx : ∀ x ∈ xs, x.length ≤ 100) (hn : xs.length ≤ 50):
    Calls Tryd.prog 30 #[.slice A xs.length c] w0 (Ret w0 G (fun v _ => v = str (Lib.join xs [32]))) := by
  refine enter Tryd.func30 rfl Tryd.ntmps30 rfl ?_
  intro Q hQ a HE
  have HS := St.start0 hG
  refine wp_seq_k (fun K hK => ?_); refine wp_region_lit ?_
  refine o_assign HE rfl rfl ?_; clear HE; intro a HE
  refine hK _ _ ?_; clear hK K
  refine wp_seq_k (fun K hK => ?_); refine wp_region_lit ?_
  refine o_assign HE rfl rfl ?_; clear HE; intro a HE
  refine hK _ _ ?_; clear hK K
  refine wp_seq_k (fun K4 hK3 => ?_)
  refine wp_seq_k (fun K hK => ?_); refine wp_region_lit ?_
  refine o_assign HE rfl rfl ?_; clear HE; intro a HE
  refine hK _ _ ?_; clear hK K
  refine wp_block ?_
  refine loop (fun (i : Nat) a' w' => St w0 G [] G w' [] ∧ Env a' 22 [] [(0, .slice A xs.length c), (3, str (Lib.join (xs.take i) [32])), (4, .int .i64 ((i : Nat) : Int))] ∧ (i ≤ xs.length)) (fun (i : Nat) => xs.length - i) 0 ⟨HS, HE.cut ⟨rfl, rfl, rfl, trivial⟩, Nat.zero_le _⟩ ?_
  clear HE HS; intro i a w ⟨HS, HE, hi⟩
  refine wp_seq_k (fun K8 hK7 => ?_)
  refine wp_seq_k (fun K hK => ?_); refine wp_region_lit ?_
  refine o_move HE rfl rfl ?_; clear HE; intro a HE
  refine o_move HE rfl rfl ?_; clear HE; intro a HE
  refine o_lenL HE rfl rfl Tryd.underlying42 ?_; clear HE; intro a HE
  refine o_lss HE rfl rfl rfl ?_; clear HE; intro a HE
  refine hK _ _ ?_; clear hK K
  refine cond HE rfl (fun h10 => ?_) (fun h10 => ?_)
  · have h10r := h10; try simp only [Bool.not_eq_true', Bool.not_eq_false', Bool.and_eq_true, Bool.or_eq_true, Bool.or_eq_false_iff, Bool.and_eq_false_iff, decide_eq_true_eq, decide_eq_false_iff_not, beq_iff_eq, beq_eq_false_iff_ne, ne_eq] at h10
    refine wp_skip ?_
    refine hK7 _ _ ?_; clear hK7
    refine wp_seq_k (fun K12 hK11 => ?_)
    refine wp_block ?_
    refine wp_seq_k (fun K14 hK13 => ?_)
    refine wp_seq_k (fun K hK => ?_); refine wp_region_lit ?_
    refine o_move HE rfl rfl ?_; clear HE; intro a HE
    refine o_gtr HE rfl rfl rfl ?_; clear HE; intro a HE
    refine hK _ _ ?_; clear hK K
    refine cond HE rfl (fun h16 => ?_) (fun h16 => ?_)
    · have h16r := h16; try simp only [Bool.not_eq_true', Bool.not_eq_false', Bool.and_eq_true, Bool.or_eq_true, Bool.or_eq_false_iff, Bool.and_eq_false_iff, decide_eq_true_eq, decide_eq_false_iff_not, beq_iff_eq, beq_eq_false_iff_ne, ne_eq] at h16
      refine wp_region_lit ?_
      refine o_move HE rfl rfl ?_; clear HE; intro a HE
      have hjt := join_take_len 32 (xs.take i) 100 (fun x hx' => hx x (List.mem_of_mem_take hx'))
      rw [List.length_take] at hjt
      have hjm : min i xs.length * (100 + 1) ≤ 5050 := Nat.le_trans (Nat.mul_le_mul_right _ (Nat.le_trans (Nat.min_le_right _ _) hn)) (by omega)
      refine o_cat HE rfl rfl rfl (by rw [List.length_singleton]; omega) ?_; clear HE; intro a HE
      refine o_assign HE rfl rfl ?_; clear HE; intro a HE
      refine hK13 _ _ ?_; clear hK13
      refine wp_region_lit ?_
      refine o_move HE rfl rfl ?_; clear HE; intro a HE
      refine o_move HE rfl rfl ?_; clear HE; intro a HE
      refine o_move HE rfl rfl ?_; clear HE; intro a HE
      have hi17 : ((i : Nat) : Int).toNat < xs.length := by omega
      obtain ⟨eb17, eo17, hA17, el17⟩ := Rd.at hR (List.getElem?_eq_getElem hi17); cases hA17
      obtain ⟨x17, ex17⟩ : ∃ x, xs[((i : Nat) : Int).toNat] = x := ⟨_, rfl⟩; rw [ex17] at el17
      have el17 := kof_open (enc := fun l => str l) el17
      refine o_ixL HE rfl rfl rfl T.l42 ⟨by omega, by omega⟩ ?_; clear HE; intro a HE
      refine o_ldI HE rfl HS rfl T.s9 el17 (j := 0) rfl rfl ?_; clear HE; intro a HE
      have hjt := join_take_len 32 (xs.take i) 100 (fun x hx' => hx x (List.mem_of_mem_take hx'))
      rw [List.length_take] at hjt
      have hjm : min i xs.length * (100 + 1) ≤ 5050 := Nat.le_trans (Nat.mul_le_mul_right _ (Nat.le_trans (Nat.min_le_right _ _) hn)) (by omega)
      have hxl : x17.length ≤ 100 := by rw [← ex17]; exact hx _ (List.getElem_mem _)
      refine o_cat HE rfl rfl rfl (by first | omega | (rw [List.length_append, List.length_singleton]; omega)) ?_; clear HE; intro a HE
      refine o_assign HE rfl rfl ?_; clear HE; intro a HE
      refine hK11 _ _ ?_; clear hK11
      refine wp_region_lit ?_
      refine o_move HE rfl rfl ?_; clear HE; intro a HE
      refine o_add HE rfl rfl rfl (by omega) ?_; clear HE; intro a HE
      refine o_assign HE rfl rfl ?_; clear HE; intro a HE
      have hv : Lib.join (xs.take i) [32] ++ [32] ++ x17 = Lib.join (xs.take (i + 1)) [32] := by rw [join_step (by omega), if_neg (by omega), ← ex17]; rfl
      rw [hv] at HE
      exact ⟨i + 1, ⟨HS, HE.cut ⟨rfl, rfl, rfl, trivial⟩, by omega⟩, by omega⟩
    · have h16r := h16; try simp only [Bool.not_eq_true', Bool.not_eq_false', Bool.and_eq_true, Bool.or_eq_true, Bool.or_eq_false_iff, Bool.and_eq_false_iff, decide_eq_true_eq, decide_eq_false_iff_not, beq_iff_eq, beq_eq_false_iff_ne, ne_eq] at h16
      refine wp_skip ?_
      refine hK13 _ _ ?_; clear hK13
      refine wp_region_lit ?_
      refine o_move HE rfl rfl ?_; clear HE; intro a HE
      refine o_move HE rfl rfl ?_; clear HE; intro a HE
      refine o_move HE rfl rfl ?_; clear HE; intro a HE
      have hi18 : ((i : Nat) : Int).toNat < xs.length := by omega
      obtain ⟨eb18, eo18, hA18, el18⟩ := Rd.at hR (List.getElem?_eq_getElem hi18); cases hA18
      obtain ⟨x18, ex18⟩ : ∃ x, xs[((i : Nat) : Int).toNat] = x := ⟨_, rfl⟩; rw [ex18] at el18
      have el18 := kof_open (enc := fun l => str l) el18
      refine o_ixL HE rfl rfl rfl T.l42 ⟨by omega, by omega⟩ ?_; clear HE; intro a HE
      refine o_ldI HE rfl HS rfl T.s9 el18 (j := 0) rfl rfl ?_; clear HE; intro a HE
      have hjt := join_take_len 32 (xs.take i) 100 (fun x hx' => hx x (List.mem_of_mem_take hx'))
      rw [List.length_take] at hjt
      have hjm : min i xs.length * (100 + 1) ≤ 5050 := Nat.le_trans (Nat.mul_le_mul_right _ (Nat.le_trans (Nat.min_le_right _ _) hn)) (by omega)
      have hxl : x18.length ≤ 100 := by rw [← ex18]; exact hx _ (List.getElem_mem _)
      refine o_cat HE rfl rfl rfl (by first | omega | (rw [List.length_append, List.length_singleton]; omega)) ?_; clear HE; intro a HE
      refine o_assign HE rfl rfl ?_; clear HE; intro a HE
      refine hK11 _ _ ?_; clear hK11
      refine wp_region_lit ?_
      refine o_move HE rfl rfl ?_; clear HE; intro a HE
      refine o_add HE rfl rfl rfl (by omega) ?_; clear HE; intro a HE
      refine o_assign HE rfl rfl ?_; clear HE; intro a HE
      have hv : Lib.join (xs.take i) [32] ++ x18 = Lib.join (xs.take (i + 1)) [32] := by obtain rfl : i = 0 := (by omega); rw [join_step (by omega), if_pos rfl, ← ex18]; rfl
      rw [hv] at HE
      exact ⟨i + 1, ⟨HS, HE.cut ⟨rfl, rfl, rfl, trivial⟩, by omega⟩, by omega⟩
  · have h10r := h10; try simp only [Bool.not_eq_true', Bool.not_eq_false', Bool.and_eq_true, Bool.or_eq_true, Bool.or_eq_false_iff, Bool.and_eq_false_iff, decide_eq_true_eq, decide_eq_false_iff_not, beq_iff_eq, beq_eq_false_iff_ne, ne_eq] at h10
    refine wp_exit ?_
    refine hK3 _ _ ?_; clear hK3
    refine wp_seq_k (fun K hK => ?_); refine wp_region_lit ?_
    refine o_move HE rfl rfl ?_; clear HE; intro a HE
    refine o_assign HE rfl rfl ?_; clear HE; intro a HE
    refine hK _ _ ?_; clear hK K
    refine wp_ret ?_
    show Q .ret _ _
    refine ret hQ HE rfl (HE.res rfl .nil) ⟨_, _, HS.stop (List.nil_sublist _), rfl, ?_⟩
    show _ = _
    rw [show i = xs.length by omega, List.take_length]
    rfl

/-! `incognito/incognitolaw08.LineWords` -/
set_option maxRecDepth 100000 in
set_option maxHeartbeats 4000000 in
theorem law_LineWords (s : Bs) (w0 : World) (G : Heap) (hG : Sub G w0) (m8 : Int) (h8 : CellsAt G 2 0 [.int .i64 m8]) (hls : s.length ≤ 9223372036854775807):
    Calls Tryd.prog 8 #[str s] w0 (Ret w0 G (fun v _ => v = .bool true)) := by
  refine enter Tryd.func8 rfl Tryd.ntmps8 rfl ?_
  intro Q hQ a HE
  have HS := St.start0 hG
  refine wp_seq_k (fun K hK => ?_); refine wp_region_lit ?_
  refine o_assign HE rfl rfl ?_; clear HE; intro a HE
  refine hK _ _ ?_; clear hK K
  refine wp_seq_k (fun K3 hK2 => ?_)
  refine wp_seq_k (fun K hK => ?_); refine wp_region_lit ?_
  refine o_callP HE rfl HS rfl rfl T.g25 (c_wakes8 _ _ HS.sub m8 h8) ?_
  clear HE HS; rintro _ w a HS rfl HE
  refine o_not HE rfl rfl ?_; clear HE; intro a HE
  refine hK _ _ ?_; clear hK K
  refine cond HE rfl (fun h5 => ?_) (fun h5 => ?_)
  · have h5r := h5; try simp only [Bool.not_eq_true', Bool.not_eq_false', Bool.and_eq_true, Bool.or_eq_true, Bool.or_eq_false_iff, Bool.and_eq_false_iff, decide_eq_true_eq, decide_eq_false_iff_not, beq_iff_eq, beq_eq_false_iff_ne, ne_eq] at h5
    refine wp_seq_k (fun K hK => ?_); refine wp_region_lit ?_
    refine o_assign HE rfl rfl ?_; clear HE; intro a HE
    refine hK _ _ ?_; clear hK K
    refine wp_ret ?_
    show Q .ret _ _
    refine ret hQ HE rfl (HE.res rfl .nil) ⟨_, _, HS.stop (List.nil_sublist _), rfl, ?_⟩
    exact absurd h5r (by decide)
  · have h5r := h5; try simp only [Bool.not_eq_true', Bool.not_eq_false', Bool.and_eq_true, Bool.or_eq_true, Bool.or_eq_false_iff, Bool.and_eq_false_iff, decide_eq_true_eq, decide_eq_false_iff_not, beq_iff_eq, beq_eq_false_iff_ne, ne_eq] at h5
    refine wp_skip ?_
    refine hK2 _ _ ?_; clear hK2
    refine wp_seq_k (fun K8 hK7 => ?_)
    refine wp_seq_k (fun K hK => ?_); refine wp_region_lit ?_
    refine o_move HE rfl rfl ?_; clear HE; intro a HE
    refine o_lenS HE rfl rfl Tryd.underlying9 ?_; clear HE; intro a HE
    refine o_gtr HE rfl rfl rfl ?_; clear HE; intro a HE
    refine hK _ _ ?_; clear hK K
    refine cond HE rfl (fun h10 => ?_) (fun h10 => ?_)
    · have h10r := h10; try simp only [Bool.not_eq_true', Bool.not_eq_false', Bool.and_eq_true, Bool.or_eq_true, Bool.or_eq_false_iff, Bool.and_eq_false_iff, decide_eq_true_eq, decide_eq_false_iff_not, beq_iff_eq, beq_eq_false_iff_ne, ne_eq] at h10
      refine wp_seq_k (fun K hK => ?_); refine wp_region_lit ?_
      refine o_assign HE rfl rfl ?_; clear HE; intro a HE
      refine hK _ _ ?_; clear hK K
      refine wp_ret ?_
      show Q .ret _ _
      refine ret hQ HE rfl (HE.res rfl .nil) ⟨_, _, HS.stop (List.nil_sublist _), rfl, ?_⟩
      show _ = _
      rfl
    · have h10r := h10; try simp only [Bool.not_eq_true', Bool.not_eq_false', Bool.and_eq_true, Bool.or_eq_true, Bool.or_eq_false_iff, Bool.and_eq_false_iff, decide_eq_true_eq, decide_eq_false_iff_not, beq_iff_eq, beq_eq_false_iff_ne, ne_eq] at h10
      refine wp_skip ?_
      refine hK7 _ _ ?_; clear hK7
      refine wp_seq_k (fun K hK => ?_); refine wp_region_lit ?_
      refine o_move HE rfl rfl ?_; clear HE; intro a HE
      refine o_call HE rfl HS rfl rfl T.g26 (c_words s _ _ HS.sub m8 h8 (by first | omega | (simp; done) | (simp; omega) | (have := cutA_len s 59; have := cutB_len s 59; omega))) ?_
      clear HE HS; rintro _ G12 w a HS hle12 ⟨vA12, vc12, rfl, hcp12, hR12⟩ HE
      replace h8 := h8.le hle12
      refine o_move HE rfl rfl ?_; clear HE; intro a HE
      refine o_extract HE rfl rfl rfl ?_; clear HE; intro a HE
      refine o_extract HE rfl rfl rfl ?_; clear HE; intro a HE
      refine o_assign HE rfl rfl ?_; clear HE; intro a HE
      refine o_assign HE rfl rfl ?_; clear HE; intro a HE
      refine hK _ _ ?_; clear hK K
      refine wp_seq_k (fun K hK => ?_); refine wp_region_lit ?_
      refine o_move HE rfl rfl ?_; clear HE; intro a HE
      refine o_call HE rfl HS rfl rfl T.g27 (c_Words8 s _ _ HS.sub (by first | omega | (simp; done) | (simp; omega) | (have := cutA_len s 59; have := cutB_len s 59; omega))) ?_
      clear HE HS; rintro _ G14 w a HS hle14 ⟨vA14, vc14, rfl, hcp14, hR14⟩ HE
      replace h8 := h8.le hle14
      replace hR12 := hR12.le hle14
      refine o_move HE rfl rfl ?_; clear HE; intro a HE
      refine o_extract HE rfl rfl rfl ?_; clear HE; intro a HE
      refine o_extract HE rfl rfl rfl ?_; clear HE; intro a HE
      refine o_assign HE rfl rfl ?_; clear HE; intro a HE
      refine o_assign HE rfl rfl ?_; clear HE; intro a HE
      refine hK _ _ ?_; clear hK K
      refine wp_seq_k (fun K17 hK16 => ?_)
      refine wp_seq_k (fun K hK => ?_); refine wp_region_lit ?_
      refine o_move HE rfl rfl ?_; clear HE; intro a HE
      refine o_not HE rfl rfl ?_; clear HE; intro a HE
      refine hK _ _ ?_; clear hK K
      refine cond HE rfl (fun h19 => ?_) (fun h19 => ?_)
      · have h19r := h19; try simp only [Bool.not_eq_true', Bool.not_eq_false', Bool.and_eq_true, Bool.or_eq_true, Bool.or_eq_false_iff, Bool.and_eq_false_iff, decide_eq_true_eq, decide_eq_false_iff_not, beq_iff_eq, beq_eq_false_iff_ne, ne_eq] at h19
        refine wp_seq_k (fun K hK => ?_); refine wp_region_lit ?_
        refine o_move HE rfl rfl ?_; clear HE; intro a HE
        refine o_eqI HE rfl rfl rfl ?_; clear HE; intro a HE
        refine o_move HE rfl rfl ?_; clear HE; intro a HE
        refine cutL 4 (fun a' w' => w = w' ∧ Env a' 44 [] [(30, .bool ((decide (((wordsS s).2) = 2)) && (decide (((wordsS s).1.length : Int) = 0)))), (0, str s), (2, .bool false), (3, .slice vA12 ((wordsS s).1.length) vc12), (4, .int .i64 ((wordsS s).2)), (5, .slice vA14 ((wordsS s).1.length) vc14), (6, .bool (decide ((wordsS s).2 = 0))), (7, .bool true), (8, .bool (!true)), (9, str s), (10, .int .i64 (s.length : Int)), (11, .bool (decide (2000 < (s.length : Int)))), (12, .tuple #[.slice vA12 ((wordsS s).1.length) vc12, .int .i64 ((wordsS s).2)]), (13, str s), (14, .tuple #[.slice vA12 ((wordsS s).1.length) vc12, .int .i64 ((wordsS s).2)]), (15, .slice vA12 ((wordsS s).1.length) vc12), (16, .int .i64 ((wordsS s).2)), (17, .tuple #[.slice vA14 ((wordsS s).1.length) vc14, .bool (decide ((wordsS s).2 = 0))]), (18, str s), (19, .tuple #[.slice vA14 ((wordsS s).1.length) vc14, .bool (decide ((wordsS s).2 = 0))]), (20, .slice vA14 ((wordsS s).1.length) vc14), (21, .bool (decide ((wordsS s).2 = 0))), (22, .bool (decide ((wordsS s).2 = 0))), (23, .bool (!(decide ((wordsS s).2 = 0))))]) ?_ ?_
        · refine (Bool.eq_false_or_eq_true (decide (((wordsS s).2) = 2))).elim (fun hb20 => ?_) (fun hb20 => ?_)
          · skip
            have hk21 := hb20; try simp only [Bool.not_eq_true', Bool.not_eq_false', Bool.and_eq_true, Bool.or_eq_true, Bool.or_eq_false_iff, decide_eq_true_eq, decide_eq_false_iff_not, beq_iff_eq, beq_eq_false_iff_ne, ne_eq] at hk21
            refine op_on HE rfl rfl hb20 ?_
            refine o_move HE rfl rfl ?_; clear HE; intro a HE
            refine op_on HE rfl rfl hb20 ?_
            refine o_lenL HE rfl rfl Tryd.underlying42 ?_; clear HE; intro a HE
            refine op_on HE rfl rfl hb20 ?_
            refine o_eqI HE rfl rfl rfl ?_; clear HE; intro a HE
            refine o_pick_t HE rfl rfl hb20 rfl ?_; clear HE; intro a HE
            exact ⟨rfl, HE.cut ⟨by rw [hb20]; rfl, rfl, rfl, rfl, rfl, rfl, rfl, rfl, rfl, rfl, rfl, rfl, rfl, rfl, rfl, rfl, rfl, rfl, rfl, rfl, rfl, rfl, rfl, rfl, trivial⟩⟩
          · skip
            have hk22 := hb20; try simp only [Bool.not_eq_true', Bool.not_eq_false', Bool.and_eq_true, Bool.or_eq_true, Bool.or_eq_false_iff, decide_eq_true_eq, decide_eq_false_iff_not, beq_iff_eq, beq_eq_false_iff_ne, ne_eq] at hk22
            refine g_off HE rfl rfl rfl hb20 ?_; clear HE; intro a HE
            refine g_off HE rfl rfl rfl hb20 ?_; clear HE; intro a HE
            refine g_off HE rfl rfl rfl hb20 ?_; clear HE; intro a HE
            refine o_pick_f HE rfl rfl hb20 rfl ?_; clear HE; intro a HE
            exact ⟨rfl, HE.cut ⟨by rw [hb20]; rfl, rfl, rfl, rfl, rfl, rfl, rfl, rfl, rfl, rfl, rfl, rfl, rfl, rfl, rfl, rfl, rfl, rfl, rfl, rfl, rfl, rfl, rfl, rfl, trivial⟩⟩
        clear HE; rintro a _ ⟨rfl, HE⟩
        refine o_assign HE rfl rfl ?_; clear HE; intro a HE
        refine hK _ _ ?_; clear hK K
        refine wp_ret ?_
        show Q .ret _ _
        refine ret hQ HE rfl (HE.res rfl .nil) ⟨_, _, HS.stop (List.nil_sublist _), rfl, ?_⟩
        show _ = _
        simp only [packed, Value.bool.injEq]
        rcases words_two s with e | e
        · exact absurd e h19
        · rw [e]; simp
      · have h19r := h19; try simp only [Bool.not_eq_true', Bool.not_eq_false', Bool.and_eq_true, Bool.or_eq_true, Bool.or_eq_false_iff, Bool.and_eq_false_iff, decide_eq_true_eq, decide_eq_false_iff_not, beq_iff_eq, beq_eq_false_iff_ne, ne_eq] at h19
        refine wp_skip ?_
        refine hK16 _ _ ?_; clear hK16
        refine wp_seq_k (fun K hK => ?_); refine wp_region_lit ?_
        refine o_move HE rfl rfl ?_; clear HE; intro a HE
        refine o_eqI HE rfl rfl rfl ?_; clear HE; intro a HE
        refine o_move HE rfl rfl ?_; clear HE; intro a HE
        obtain ⟨M0, hM0, HS⟩ : ∃ M0, M0 = _ ∧ St w0 G [] G14 _ M0 := ⟨_, rfl, HS⟩
        refine cutL 4 (fun a' w' => St w0 G [] G14 w' M0 ∧ Env a' 44 [] [(37, .bool ((decide (((wordsS s).2) = 0)) && (decide ((wordsS s).1 = (wordsS s).1)))), (0, str s), (2, .bool false), (3, .slice vA12 ((wordsS s).1.length) vc12), (4, .int .i64 ((wordsS s).2)), (6, .bool (decide ((wordsS s).2 = 0))), (7, .bool true), (8, .bool (!true)), (9, str s), (10, .int .i64 (s.length : Int)), (11, .bool (decide (2000 < (s.length : Int)))), (12, .tuple #[.slice vA12 ((wordsS s).1.length) vc12, .int .i64 ((wordsS s).2)]), (13, str s), (14, .tuple #[.slice vA12 ((wordsS s).1.length) vc12, .int .i64 ((wordsS s).2)]), (15, .slice vA12 ((wordsS s).1.length) vc12), (16, .int .i64 ((wordsS s).2)), (17, .tuple #[.slice vA14 ((wordsS s).1.length) vc14, .bool (decide ((wordsS s).2 = 0))]), (18, str s), (19, .tuple #[.slice vA14 ((wordsS s).1.length) vc14, .bool (decide ((wordsS s).2 = 0))]), (20, .slice vA14 ((wordsS s).1.length) vc14), (21, .bool (decide ((wordsS s).2 = 0))), (22, .bool (decide ((wordsS s).2 = 0))), (23, .bool (!(decide ((wordsS s).2 = 0))))]) ?_ ?_
        · refine (Bool.eq_false_or_eq_true (decide (((wordsS s).2) = 0))).elim (fun hb24 => ?_) (fun hb24 => ?_)
          · subst hM0
            have hk25 := hb24; try simp only [Bool.not_eq_true', Bool.not_eq_false', Bool.and_eq_true, Bool.or_eq_true, Bool.or_eq_false_iff, decide_eq_true_eq, decide_eq_false_iff_not, beq_iff_eq, beq_eq_false_iff_ne, ne_eq] at hk25
            refine op_on HE rfl rfl hb24 ?_
            refine o_move HE rfl rfl ?_; clear HE; intro a HE
            refine op_on HE rfl rfl hb24 ?_
            refine o_move HE rfl rfl ?_; clear HE; intro a HE
            refine op_on HE rfl rfl hb24 ?_
            refine o_callP HE rfl HS rfl rfl T.g28 (c_same8 ((wordsS s).1) _ _ ((wordsS s).1) _ _ _ _ HS.sub hR12 (by have := wordsS_len s; omega) hR14 (by have := wordsS_len s; omega)) ?_
            clear HE HS; rintro _ w a HS rfl HE
            refine o_pick_t HE rfl rfl hb24 rfl ?_; clear HE; intro a HE
            exact ⟨HS, HE.cut ⟨by rw [hb24]; rfl, rfl, rfl, rfl, rfl, rfl, rfl, rfl, rfl, rfl, rfl, rfl, rfl, rfl, rfl, rfl, rfl, rfl, rfl, rfl, rfl, rfl, rfl, trivial⟩⟩
          · subst hM0
            have hk26 := hb24; try simp only [Bool.not_eq_true', Bool.not_eq_false', Bool.and_eq_true, Bool.or_eq_true, Bool.or_eq_false_iff, decide_eq_true_eq, decide_eq_false_iff_not, beq_iff_eq, beq_eq_false_iff_ne, ne_eq] at hk26
            refine g_off HE rfl rfl rfl hb24 ?_; clear HE; intro a HE
            refine g_off HE rfl rfl rfl hb24 ?_; clear HE; intro a HE
            refine g_off HE rfl rfl rfl hb24 ?_; clear HE; intro a HE
            refine o_pick_f HE rfl rfl hb24 rfl ?_; clear HE; intro a HE
            exact ⟨HS, HE.cut ⟨by rw [hb24]; rfl, rfl, rfl, rfl, rfl, rfl, rfl, rfl, rfl, rfl, rfl, rfl, rfl, rfl, rfl, rfl, rfl, rfl, rfl, rfl, rfl, rfl, rfl, trivial⟩⟩
        clear HE HS; rintro a w ⟨HS, HE⟩; subst hM0
        refine o_move HE rfl rfl ?_; clear HE; intro a HE
        obtain ⟨M0, hM0, HS⟩ : ∃ M0, M0 = _ ∧ St w0 G [] G14 _ M0 := ⟨_, rfl, HS⟩
        refine cutL 5 (fun a' w' => St w0 G [] G14 w' M0 ∧ Env a' 44 [] [(43, .bool (((decide (((wordsS s).2) = 0)) && (decide ((wordsS s).1 = (wordsS s).1))) && ((Lib.join ((wordsS s).1) [32]) == s))), (0, str s), (2, .bool false), (3, .slice vA12 ((wordsS s).1.length) vc12), (4, .int .i64 ((wordsS s).2)), (6, .bool (decide ((wordsS s).2 = 0))), (7, .bool true), (8, .bool (!true)), (9, str s), (10, .int .i64 (s.length : Int)), (11, .bool (decide (2000 < (s.length : Int)))), (12, .tuple #[.slice vA12 ((wordsS s).1.length) vc12, .int .i64 ((wordsS s).2)]), (13, str s), (14, .tuple #[.slice vA12 ((wordsS s).1.length) vc12, .int .i64 ((wordsS s).2)]), (15, .slice vA12 ((wordsS s).1.length) vc12), (16, .int .i64 ((wordsS s).2)), (17, .tuple #[.slice vA14 ((wordsS s).1.length) vc14, .bool (decide ((wordsS s).2 = 0))]), (18, str s), (19, .tuple #[.slice vA14 ((wordsS s).1.length) vc14, .bool (decide ((wordsS s).2 = 0))]), (20, .slice vA14 ((wordsS s).1.length) vc14), (21, .bool (decide ((wordsS s).2 = 0))), (22, .bool (decide ((wordsS s).2 = 0))), (23, .bool (!(decide ((wordsS s).2 = 0))))]) ?_ ?_
        · refine (Bool.eq_false_or_eq_true ((decide (((wordsS s).2) = 0)) && (decide ((wordsS s).1 = (wordsS s).1)))).elim (fun hb27 => ?_) (fun hb27 => ?_)
          · subst hM0
            have hk28 := hb27; try simp only [Bool.not_eq_true', Bool.not_eq_false', Bool.and_eq_true, Bool.or_eq_true, Bool.or_eq_false_iff, decide_eq_true_eq, decide_eq_false_iff_not, beq_iff_eq, beq_eq_false_iff_ne, ne_eq] at hk28
            refine op_on HE rfl rfl hb27 ?_
            refine o_move HE rfl rfl ?_; clear HE; intro a HE
            refine op_on HE rfl rfl hb27 ?_
            refine o_callP HE rfl HS rfl rfl T.g29 (c_join8 ((wordsS s).1) _ _ _ _ HS.sub hR12 (by assumption) (by first | omega | (have := wordsS_len s; omega)) (by rw [words_back (s := s) (by assumption)]; omega)) ?_
            clear HE HS; rintro _ w a HS rfl HE
            refine op_on HE rfl rfl hb27 ?_
            refine o_move HE rfl rfl ?_; clear HE; intro a HE
            refine op_on HE rfl rfl hb27 ?_
            refine o_eqS HE rfl rfl rfl ?_; clear HE; intro a HE
            refine o_pick_t HE rfl rfl hb27 rfl ?_; clear HE; intro a HE
            exact ⟨HS, HE.cut ⟨by rw [hb27]; rfl, rfl, rfl, rfl, rfl, rfl, rfl, rfl, rfl, rfl, rfl, rfl, rfl, rfl, rfl, rfl, rfl, rfl, rfl, rfl, rfl, rfl, rfl, trivial⟩⟩
          · subst hM0
            have hk29 := hb27; try simp only [Bool.not_eq_true', Bool.not_eq_false', Bool.and_eq_true, Bool.or_eq_true, Bool.or_eq_false_iff, decide_eq_true_eq, decide_eq_false_iff_not, beq_iff_eq, beq_eq_false_iff_ne, ne_eq] at hk29
            refine g_off HE rfl rfl rfl hb27 ?_; clear HE; intro a HE
            refine g_off HE rfl rfl rfl hb27 ?_; clear HE; intro a HE
            refine g_off HE rfl rfl rfl hb27 ?_; clear HE; intro a HE
            refine g_off HE rfl rfl rfl hb27 ?_; clear HE; intro a HE
            refine o_pick_f HE rfl rfl hb27 rfl ?_; clear HE; intro a HE
            exact ⟨HS, HE.cut ⟨by rw [hb27]; rfl, rfl, rfl, rfl, rfl, rfl, rfl, rfl, rfl, rfl, rfl, rfl, rfl, rfl, rfl, rfl, rfl, rfl, rfl, rfl, rfl, rfl, rfl, trivial⟩⟩
        clear HE HS; rintro a w ⟨HS, HE⟩; subst hM0
        refine o_assign HE rfl rfl ?_; clear HE; intro a HE
        refine hK _ _ ?_; clear hK K
        refine wp_ret ?_
        show Q .ret _ _
        refine ret hQ HE rfl (HE.res rfl .nil) ⟨_, _, HS.stop (List.nil_sublist _), rfl, ?_⟩
        show _ = _
        simp only [packed, Value.bool.injEq]
        rcases words_two s with e | e
        · simp [e, words_back e]
        · exfalso; simp [e] at *

/-! `incognito/incognitolaw08.LineJoins` -/
set_option maxRecDepth 100000 in
set_option maxHeartbeats 4000000 in
theorem law_LineJoins (l : List Bs) (A : Option Addr) (c : Nat) (w0 : World) (G : Heap) (hG : Sub G w0) (m8 : Int) (h8 : CellsAt G 2 0 [.int .i64 m8]) (hR : Rd Knd.s G A l) (hc : l.length ≤ c) (hls : l.length ≤ 9223372036854775807):
    Calls Tryd.prog 9 #[.slice A l.length c] w0 (Ret w0 G (fun v _ => v = .bool true)) := by
  refine enter Tryd.func9 rfl Tryd.ntmps9 rfl ?_
  intro Q hQ a HE
  have HS := St.start0 hG
  refine wp_seq_k (fun K hK => ?_); refine wp_region_lit ?_
  refine o_assign HE rfl rfl ?_; clear HE; intro a HE
  refine hK _ _ ?_; clear hK K
  refine wp_seq_k (fun K3 hK2 => ?_)
  refine wp_seq_k (fun K hK => ?_); refine wp_region_lit ?_
  refine o_callP HE rfl HS rfl rfl T.g25 (c_wakes8 _ _ HS.sub m8 h8) ?_
  clear HE HS; rintro _ w a HS rfl HE
  refine o_not HE rfl rfl ?_; clear HE; intro a HE
  refine hK _ _ ?_; clear hK K
  refine cond HE rfl (fun h5 => ?_) (fun h5 => ?_)
  · have h5r := h5; try simp only [Bool.not_eq_true', Bool.not_eq_false', Bool.and_eq_true, Bool.or_eq_true, Bool.or_eq_false_iff, Bool.and_eq_false_iff, decide_eq_true_eq, decide_eq_false_iff_not, beq_iff_eq, beq_eq_false_iff_ne, ne_eq] at h5
    refine wp_seq_k (fun K hK => ?_); refine wp_region_lit ?_
    refine o_assign HE rfl rfl ?_; clear HE; intro a HE
    refine hK _ _ ?_; clear hK K
    refine wp_ret ?_
    show Q .ret _ _
    refine ret hQ HE rfl (HE.res rfl .nil) ⟨_, _, HS.stop (List.nil_sublist _), rfl, ?_⟩
    exact absurd h5r (by decide)
  · have h5r := h5; try simp only [Bool.not_eq_true', Bool.not_eq_false', Bool.and_eq_true, Bool.or_eq_true, Bool.or_eq_false_iff, Bool.and_eq_false_iff, decide_eq_true_eq, decide_eq_false_iff_not, beq_iff_eq, beq_eq_false_iff_ne, ne_eq] at h5
    refine wp_skip ?_
    refine hK2 _ _ ?_; clear hK2
    refine wp_seq_k (fun K8 hK7 => ?_)
    refine wp_seq_k (fun K hK => ?_); refine wp_region_lit ?_
    refine o_move HE rfl rfl ?_; clear HE; intro a HE
    refine o_lenL HE rfl rfl Tryd.underlying42 ?_; clear HE; intro a HE
    refine o_gtr HE rfl rfl rfl ?_; clear HE; intro a HE
    refine hK _ _ ?_; clear hK K
    refine cond HE rfl (fun h10 => ?_) (fun h10 => ?_)
    · have h10r := h10; try simp only [Bool.not_eq_true', Bool.not_eq_false', Bool.and_eq_true, Bool.or_eq_true, Bool.or_eq_false_iff, Bool.and_eq_false_iff, decide_eq_true_eq, decide_eq_false_iff_not, beq_iff_eq, beq_eq_false_iff_ne, ne_eq] at h10
      refine wp_seq_k (fun K hK => ?_); refine wp_region_lit ?_
      refine o_assign HE rfl rfl ?_; clear HE; intro a HE
      refine hK _ _ ?_; clear hK K
      refine wp_ret ?_
      show Q .ret _ _
      refine ret hQ HE rfl (HE.res rfl .nil) ⟨_, _, HS.stop (List.nil_sublist _), rfl, ?_⟩
      show _ = _
      rfl
    · have h10r := h10; try simp only [Bool.not_eq_true', Bool.not_eq_false', Bool.and_eq_true, Bool.or_eq_true, Bool.or_eq_false_iff, Bool.and_eq_false_iff, decide_eq_true_eq, decide_eq_false_iff_not, beq_iff_eq, beq_eq_false_iff_ne, ne_eq] at h10
      refine wp_skip ?_
      refine hK7 _ _ ?_; clear hK7
      refine wp_seq_k (fun K hK => ?_); refine wp_region_lit ?_
      refine o_move HE rfl rfl ?_; clear HE; intro a HE
      refine o_lenL HE rfl rfl Tryd.underlying42 ?_; clear HE; intro a HE
      refine o_gtr HE rfl rfl rfl ?_; clear HE; intro a HE
      refine o_assign HE rfl rfl ?_; clear HE; intro a HE
      refine hK _ _ ?_; clear hK K
      refine wp_seq_k (fun K14 hK13 => ?_)
      refine wp_seq_k (fun K hK => ?_); refine wp_region_lit ?_
      refine o_move HE rfl rfl ?_; clear HE; intro a HE
      refine o_lenL HE rfl rfl Tryd.underlying42 ?_; clear HE; intro a HE
      refine o_move HE rfl rfl ?_; clear HE; intro a HE
      refine hK _ _ ?_; clear hK K
      refine wp_block ?_
      refine loop (fun (i : Nat) a' w' => St w0 G [] G w' [] ∧ Env a' 70 [] [(0, .slice A l.length c), (3, .bool ((l.take i).all okW && decide (0 < (l.length : Int)))), (18, .slice A l.length c), (19, .int .i64 (l.length : Int)), (20, .int .i64 ((i : Nat) : Int))] ∧ (i ≤ l.length ∧ ∀ x ∈ l.take i, x.length ≤ 100)) (fun (i : Nat) => l.length - i) 0 ⟨HS, HE.cut ⟨rfl, rfl, rfl, rfl, rfl, trivial⟩, ⟨Nat.zero_le _, by simp⟩⟩ ?_
      clear HE HS; intro i a w ⟨HS, HE, ⟨hi, hl1⟩⟩
      refine wp_seq_k (fun K hK => ?_); refine wp_region_lit ?_
      refine o_lss HE rfl rfl rfl ?_; clear HE; intro a HE
      refine hK _ _ ?_; clear hK K
      refine wp_seq_k (fun K19 hK18 => ?_)
      refine cond HE rfl (fun h20 => ?_) (fun h20 => ?_)
      · have h20r := h20; try simp only [Bool.not_eq_true', Bool.not_eq_false', Bool.and_eq_true, Bool.or_eq_true, Bool.or_eq_false_iff, Bool.and_eq_false_iff, decide_eq_true_eq, decide_eq_false_iff_not, beq_iff_eq, beq_eq_false_iff_ne, ne_eq] at h20
        refine wp_skip ?_
        refine hK18 _ _ ?_; clear hK18
        refine wp_seq_k (fun K22 hK21 => ?_)
        refine wp_block ?_
        refine wp_seq_k (fun K hK => ?_); refine wp_region_lit ?_
        have hi23 : ((i : Nat) : Int).toNat < l.length := by omega
        obtain ⟨eb23, eo23, hA23, el23⟩ := Rd.at hR (List.getElem?_eq_getElem hi23); cases hA23
        obtain ⟨x23, ex23⟩ : ∃ x, l[((i : Nat) : Int).toNat] = x := ⟨_, rfl⟩; rw [ex23] at el23
        have el23 := kof_open (enc := fun l => str l) el23
        refine o_ixL HE rfl rfl rfl T.l42 ⟨by omega, by omega⟩ ?_; clear HE; intro a HE
        refine o_ldI HE rfl HS rfl T.s9 el23 (j := 0) rfl rfl ?_; clear HE; intro a HE
        refine o_assign HE rfl rfl ?_; clear HE; intro a HE
        refine hK _ _ ?_; clear hK K
        refine wp_seq_k (fun K26 hK25 => ?_)
        refine wp_seq_k (fun K hK => ?_); refine wp_region_lit ?_
        refine o_move HE rfl rfl ?_; clear HE; intro a HE
        refine o_lenS HE rfl rfl Tryd.underlying9 ?_; clear HE; intro a HE
        refine o_gtr HE rfl rfl rfl ?_; clear HE; intro a HE
        refine hK _ _ ?_; clear hK K
        refine cond HE rfl (fun h28 => ?_) (fun h28 => ?_)
        · have h28r := h28; try simp only [Bool.not_eq_true', Bool.not_eq_false', Bool.and_eq_true, Bool.or_eq_true, Bool.or_eq_false_iff, Bool.and_eq_false_iff, decide_eq_true_eq, decide_eq_false_iff_not, beq_iff_eq, beq_eq_false_iff_ne, ne_eq] at h28
          refine wp_seq_k (fun K hK => ?_); refine wp_region_lit ?_
          refine o_assign HE rfl rfl ?_; clear HE; intro a HE
          refine hK _ _ ?_; clear hK K
          refine wp_ret ?_
          show Q .ret _ _
          refine ret hQ HE rfl (HE.res rfl .nil) ⟨_, _, HS.stop (List.nil_sublist _), rfl, ?_⟩
          show _ = _
          rfl
        · have h28r := h28; try simp only [Bool.not_eq_true', Bool.not_eq_false', Bool.and_eq_true, Bool.or_eq_true, Bool.or_eq_false_iff, Bool.and_eq_false_iff, decide_eq_true_eq, decide_eq_false_iff_not, beq_iff_eq, beq_eq_false_iff_ne, ne_eq] at h28
          refine wp_skip ?_
          refine hK25 _ _ ?_; clear hK25
          refine wp_seq_k (fun K hK => ?_); refine wp_region_lit ?_
          refine o_move HE rfl rfl ?_; clear HE; intro a HE
          refine o_move HE rfl rfl ?_; clear HE; intro a HE
          refine cutL 3 (fun a' w' => w = w' ∧ Env a' 70 [] [(31, .bool (((l.take i).all okW && decide (0 < (l.length : Int))) && (!(x23 == [])))), (0, .slice (some ⟨eb23, eo23, none⟩) l.length c), (3, .bool ((l.take i).all okW && decide (0 < (l.length : Int)))), (5, str x23), (18, .slice (some ⟨eb23, eo23, none⟩) l.length c), (19, .int .i64 (l.length : Int)), (20, .int .i64 ((i : Nat) : Int)), (21, .bool (decide (((i : Nat) : Int) < (l.length : Int)))), (22, .pointer (some ⟨eb23, eo23 + ((i : Nat) : Int).toNat * 1, none⟩)), (23, str x23), (24, str x23), (25, .int .i64 (x23.length : Int)), (26, .bool (decide (100 < (x23.length : Int))))]) ?_ ?_
          · refine (Bool.eq_false_or_eq_true ((l.take i).all okW && decide (0 < (l.length : Int)))).elim (fun hb30 => ?_) (fun hb30 => ?_)
            · skip
              have hk31 := hb30; try simp only [Bool.not_eq_true', Bool.not_eq_false', Bool.and_eq_true, Bool.or_eq_true, Bool.or_eq_false_iff, decide_eq_true_eq, decide_eq_false_iff_not, beq_iff_eq, beq_eq_false_iff_ne, ne_eq] at hk31
              refine op_on HE rfl rfl hb30 ?_
              refine o_move HE rfl rfl ?_; clear HE; intro a HE
              refine op_on HE rfl rfl hb30 ?_
              refine o_neS HE rfl rfl rfl ?_; clear HE; intro a HE
              refine o_pick_t HE rfl rfl hb30 rfl ?_; clear HE; intro a HE
              exact ⟨rfl, HE.cut ⟨by rw [hb30]; rfl, rfl, rfl, rfl, rfl, rfl, rfl, rfl, rfl, rfl, rfl, rfl, rfl, trivial⟩⟩
            · skip
              have hk32 := hb30; try simp only [Bool.not_eq_true', Bool.not_eq_false', Bool.and_eq_true, Bool.or_eq_true, Bool.or_eq_false_iff, decide_eq_true_eq, decide_eq_false_iff_not, beq_iff_eq, beq_eq_false_iff_ne, ne_eq] at hk32
              refine g_off HE rfl rfl rfl hb30 ?_; clear HE; intro a HE
              refine g_off HE rfl rfl rfl hb30 ?_; clear HE; intro a HE
              refine o_pick_f HE rfl rfl hb30 rfl ?_; clear HE; intro a HE
              exact ⟨rfl, HE.cut ⟨by rw [hb30]; rfl, rfl, rfl, rfl, rfl, rfl, rfl, rfl, rfl, rfl, rfl, rfl, rfl, trivial⟩⟩
          clear HE; rintro a _ ⟨rfl, HE⟩
          refine o_assign HE rfl rfl ?_; clear HE; intro a HE
          refine hK _ _ ?_; clear hK K
          refine wp_seq_k (fun K hK => ?_); refine wp_region_lit ?_
          refine o_move HE rfl rfl ?_; clear HE; intro a HE
          refine o_lenS HE rfl rfl Tryd.underlying9 ?_; clear HE; intro a HE
          refine o_move HE rfl rfl ?_; clear HE; intro a HE
          refine hK _ _ ?_; clear hK K
          refine wp_block ?_
          refine loop (fun (k : Nat) a' w' => St w0 G [] G w' [] ∧ Env a' 70 [] [(0, .slice (some ⟨eb23, eo23, none⟩) l.length c), (3, .bool ((x23.take k).all nb && ((l.take i).all okW && decide (0 < (l.length : Int)) && !(x23 == [])))), (5, str x23), (18, .slice (some ⟨eb23, eo23, none⟩) l.length c), (19, .int .i64 (l.length : Int)), (20, .int .i64 ((i : Nat) : Int)), (33, .int .i64 (x23.length : Int)), (34, .int .i64 ((k : Nat) : Int))] ∧ (k ≤ x23.length)) (fun (k : Nat) => x23.length - k) 0 ⟨HS, HE.cut ⟨rfl, rfl, rfl, rfl, rfl, rfl, rfl, rfl, trivial⟩, Nat.zero_le _⟩ ?_
          clear HE HS; intro k a w ⟨HS, HE, hk0⟩
          refine wp_seq_k (fun K hK => ?_); refine wp_region_lit ?_
          refine o_lss HE rfl rfl rfl ?_; clear HE; intro a HE
          refine hK _ _ ?_; clear hK K
          refine wp_seq_k (fun K38 hK37 => ?_)
          refine cond HE rfl (fun h39 => ?_) (fun h39 => ?_)
          · have h39r := h39; try simp only [Bool.not_eq_true', Bool.not_eq_false', Bool.and_eq_true, Bool.or_eq_true, Bool.or_eq_false_iff, Bool.and_eq_false_iff, decide_eq_true_eq, decide_eq_false_iff_not, beq_iff_eq, beq_eq_false_iff_ne, ne_eq] at h39
            refine wp_skip ?_
            refine hK37 _ _ ?_; clear hK37
            refine wp_seq_k (fun K41 hK40 => ?_)
            refine wp_block ?_
            refine wp_seq_k (fun K hK => ?_); refine wp_region_lit ?_
            refine o_move HE rfl rfl ?_; clear HE; intro a HE
            refine o_assign HE rfl rfl ?_; clear HE; intro a HE
            refine hK _ _ ?_; clear hK K
            refine wp_region_lit ?_
            refine o_move HE rfl rfl ?_; clear HE; intro a HE
            refine o_move HE rfl rfl ?_; clear HE; intro a HE
            refine cutL 5 (fun a' w' => w = w' ∧ Env a' 70 [] [(43, .bool (((x23.take k).all nb && ((l.take i).all okW && decide (0 < (l.length : Int)) && !(x23 == []))) && (!decide ((bt x23 ((k : Nat) : Int)) = 32)))), (0, .slice (some ⟨eb23, eo23, none⟩) l.length c), (3, .bool ((x23.take k).all nb && ((l.take i).all okW && decide (0 < (l.length : Int)) && !(x23 == [])))), (5, str x23), (18, .slice (some ⟨eb23, eo23, none⟩) l.length c), (19, .int .i64 (l.length : Int)), (20, .int .i64 ((i : Nat) : Int)), (33, .int .i64 (x23.length : Int)), (34, .int .i64 ((k : Nat) : Int)), (35, .bool (decide (((k : Nat) : Int) < (x23.length : Int)))), (36, .int .i64 ((k : Nat) : Int))]) ?_ ?_
            · refine (Bool.eq_false_or_eq_true ((x23.take k).all nb && ((l.take i).all okW && decide (0 < (l.length : Int)) && !(x23 == [])))).elim (fun hb43 => ?_) (fun hb43 => ?_)
              · skip
                have hk44 := hb43; try simp only [Bool.not_eq_true', Bool.not_eq_false', Bool.and_eq_true, Bool.or_eq_true, Bool.or_eq_false_iff, decide_eq_true_eq, decide_eq_false_iff_not, beq_iff_eq, beq_eq_false_iff_ne, ne_eq] at hk44
                refine op_on HE rfl rfl hb43 ?_
                refine o_move HE rfl rfl ?_; clear HE; intro a HE
                refine op_on HE rfl rfl hb43 ?_
                refine o_move HE rfl rfl ?_; clear HE; intro a HE
                refine op_on HE rfl rfl hb43 ?_
                refine o_index HE rfl rfl rfl Tryd.underlying9 (by omega) ?_; clear HE; intro a HE
                refine op_on HE rfl rfl hb43 ?_
                refine o_neI HE rfl rfl rfl ?_; clear HE; intro a HE
                refine o_pick_t HE rfl rfl hb43 rfl ?_; clear HE; intro a HE
                exact ⟨rfl, HE.cut ⟨by rw [hb43]; rfl, rfl, rfl, rfl, rfl, rfl, rfl, rfl, rfl, rfl, rfl, trivial⟩⟩
              · skip
                have hk45 := hb43; try simp only [Bool.not_eq_true', Bool.not_eq_false', Bool.and_eq_true, Bool.or_eq_true, Bool.or_eq_false_iff, decide_eq_true_eq, decide_eq_false_iff_not, beq_iff_eq, beq_eq_false_iff_ne, ne_eq] at hk45
                refine g_off HE rfl rfl rfl hb43 ?_; clear HE; intro a HE
                refine g_off HE rfl rfl rfl hb43 ?_; clear HE; intro a HE
                refine g_off HE rfl rfl rfl hb43 ?_; clear HE; intro a HE
                refine g_off HE rfl rfl rfl hb43 ?_; clear HE; intro a HE
                refine o_pick_f HE rfl rfl hb43 rfl ?_; clear HE; intro a HE
                exact ⟨rfl, HE.cut ⟨by rw [hb43]; rfl, rfl, rfl, rfl, rfl, rfl, rfl, rfl, rfl, rfl, rfl, trivial⟩⟩
            clear HE; rintro a _ ⟨rfl, HE⟩
            refine o_assign HE rfl rfl ?_; clear HE; intro a HE
            refine hK40 _ _ ?_; clear hK40
            refine wp_region_lit ?_
            refine o_add HE rfl rfl rfl (by omega) ?_; clear HE; intro a HE
            refine o_move HE rfl rfl ?_; clear HE; intro a HE
            have hk : k < x23.length := by omega
            have hv : (((x23.take k).all nb && ((l.take i).all okW && decide (0 < (l.length : Int)) && !(x23 == []))) && !decide (bt x23 ((k : Nat) : Int) = 32)) = ((x23.take (k + 1)).all nb && ((l.take i).all okW && decide (0 < (l.length : Int)) && !(x23 == []))) := nb_step hk
            rw [hv] at HE
            exact ⟨k + 1, ⟨HS, HE.cut ⟨rfl, rfl, rfl, rfl, rfl, rfl, rfl, rfl, trivial⟩, by omega⟩, by omega⟩
          · have h39r := h39; try simp only [Bool.not_eq_true', Bool.not_eq_false', Bool.and_eq_true, Bool.or_eq_true, Bool.or_eq_false_iff, Bool.and_eq_false_iff, decide_eq_true_eq, decide_eq_false_iff_not, beq_iff_eq, beq_eq_false_iff_ne, ne_eq] at h39
            refine wp_exit ?_
            refine hK21 _ _ ?_; clear hK21
            refine wp_region_lit ?_
            refine o_add HE rfl rfl rfl (by omega) ?_; clear HE; intro a HE
            refine o_move HE rfl rfl ?_; clear HE; intro a HE
            have hv : ((x23.take k).all nb && ((l.take i).all okW && decide (0 < (l.length : Int)) && !(x23 == []))) = ((l.take (i + 1)).all okW && decide (0 < (l.length : Int))) := okW_step (by omega) ex23 (by omega)
            rw [hv] at HE
            have hl2 : ∀ x ∈ l.take (i + 1), x.length ≤ 100 := len_step (by omega) ex23 hl1 (by omega)
            exact ⟨i + 1, ⟨HS, HE.cut ⟨rfl, rfl, rfl, rfl, rfl, trivial⟩, ⟨by omega, hl2⟩⟩, by omega⟩
      · have h20r := h20; try simp only [Bool.not_eq_true', Bool.not_eq_false', Bool.and_eq_true, Bool.or_eq_true, Bool.or_eq_false_iff, Bool.and_eq_false_iff, decide_eq_true_eq, decide_eq_false_iff_not, beq_iff_eq, beq_eq_false_iff_ne, ne_eq] at h20
        refine wp_exit ?_
        refine hK13 _ _ ?_; clear hK13
        refine wp_seq_k (fun K hK => ?_); refine wp_region_lit ?_
        have hi2 : i = l.length := by omega
        rw [hi2, List.take_length] at hl1
        have hjl := join_take_len 32 l 100 hl1
        have hjm : l.length * (100 + 1) ≤ 5050 := Nat.le_trans (Nat.mul_le_mul_right _ (show l.length ≤ 50 by omega)) (by omega)
        refine o_move HE rfl rfl ?_; clear HE; intro a HE
        refine o_callP HE rfl HS rfl rfl T.g29 (c_join8 l _ _ _ _ HS.sub hR (by assumption) (by first | omega | (have := wordsS_len s; omega)) (by omega)) ?_
        clear HE HS; rintro _ w a HS rfl HE
        refine o_assign HE rfl rfl ?_; clear HE; intro a HE
        refine hK _ _ ?_; clear hK K
        refine wp_seq_k (fun K hK => ?_); refine wp_region_lit ?_
        refine o_move HE rfl rfl ?_; clear HE; intro a HE
        refine o_call HE rfl HS rfl rfl T.g26 (c_words (Lib.join l [32]) _ _ HS.sub m8 h8 (by first | omega | (simp; done) | (simp; omega) | (have := cutA_len s 59; have := cutB_len s 59; omega))) ?_
        clear HE HS; rintro _ G47 w a HS hle47 ⟨vA47, vc47, rfl, hcp47, hR47⟩ HE
        replace h8 := h8.le hle47
        replace hR := hR.le hle47
        refine o_move HE rfl rfl ?_; clear HE; intro a HE
        refine o_extract HE rfl rfl rfl ?_; clear HE; intro a HE
        refine o_extract HE rfl rfl rfl ?_; clear HE; intro a HE
        refine o_assign HE rfl rfl ?_; clear HE; intro a HE
        refine o_assign HE rfl rfl ?_; clear HE; intro a HE
        refine hK _ _ ?_; clear hK K
        refine wp_seq_k (fun K hK => ?_); refine wp_region_lit ?_
        refine o_move HE rfl rfl ?_; clear HE; intro a HE
        refine o_move HE rfl rfl ?_; clear HE; intro a HE
        refine o_callP HE rfl HS rfl rfl T.g30 (c_Join8 l _ _ _ _ HS.sub hR (by assumption) (by omega)) ?_
        clear HE HS; rintro _ w a HS rfl HE
        refine o_eqS HE rfl rfl rfl ?_; clear HE; intro a HE
        refine o_move HE rfl rfl ?_; clear HE; intro a HE
        obtain ⟨M0, hM0, HS⟩ : ∃ M0, M0 = _ ∧ St w0 G [] G47 _ M0 := ⟨_, rfl, HS⟩
        refine cutL 12 (fun a' w' => St w0 G [] G47 w' M0 ∧ Env a' 70 [] [(69, .bool (((Lib.join l [32]) == (Lib.join l [32])) && ((!((l.take i).all okW && decide (0 < (l.length : Int)))) || ((decide (((wordsS (Lib.join l [32])).2) = 0)) && (decide ((wordsS (Lib.join l [32])).1 = l)))))), (0, .slice A l.length c), (3, .bool ((l.take i).all okW && decide (0 < (l.length : Int)))), (7, str (Lib.join l [32])), (18, .slice A l.length c), (19, .int .i64 (l.length : Int)), (20, .int .i64 ((i : Nat) : Int)), (21, .bool (decide (((i : Nat) : Int) < (l.length : Int)))), (46, .slice A l.length c), (47, str (Lib.join l [32])), (48, .tuple #[.slice vA47 ((wordsS (Lib.join l [32])).1.length) vc47, .int .i64 ((wordsS (Lib.join l [32])).2)]), (49, str (Lib.join l [32])), (50, .tuple #[.slice vA47 ((wordsS (Lib.join l [32])).1.length) vc47, .int .i64 ((wordsS (Lib.join l [32])).2)]), (51, .slice vA47 ((wordsS (Lib.join l [32])).1.length) vc47), (52, .int .i64 ((wordsS (Lib.join l [32])).2))]) ?_ ?_
        · refine (Bool.eq_false_or_eq_true ((Lib.join l [32]) == (Lib.join l [32]))).elim (fun hb49 => ?_) (fun hb49 => ?_)
          · subst hM0
            have hk50 := hb49; try simp only [Bool.not_eq_true', Bool.not_eq_false', Bool.and_eq_true, Bool.or_eq_true, Bool.or_eq_false_iff, decide_eq_true_eq, decide_eq_false_iff_not, beq_iff_eq, beq_eq_false_iff_ne, ne_eq] at hk50
            refine op_on HE rfl rfl hb49 ?_
            refine o_move HE rfl rfl ?_; clear HE; intro a HE
            refine op_on HE rfl rfl hb49 ?_
            refine o_not HE rfl rfl ?_; clear HE; intro a HE
            refine op_on HE rfl rfl hb49 ?_
            refine o_move HE rfl rfl ?_; clear HE; intro a HE
            obtain ⟨M0, hM0, HS⟩ : ∃ M0, M0 = _ ∧ St w0 G [] G47 _ M0 := ⟨_, rfl, HS⟩
            refine cutL 8 (fun a' w' => St w0 G [] G47 w' M0 ∧ Env a' 70 [] [(68, .bool ((!((l.take i).all okW && decide (0 < (l.length : Int)))) || ((decide (((wordsS (Lib.join l [32])).2) = 0)) && (decide ((wordsS (Lib.join l [32])).1 = l))))), (0, .slice A l.length c), (3, .bool ((l.take i).all okW && decide (0 < (l.length : Int)))), (7, str (Lib.join l [32])), (18, .slice A l.length c), (19, .int .i64 (l.length : Int)), (20, .int .i64 ((i : Nat) : Int)), (21, .bool (decide (((i : Nat) : Int) < (l.length : Int)))), (46, .slice A l.length c), (47, str (Lib.join l [32])), (48, .tuple #[.slice vA47 ((wordsS (Lib.join l [32])).1.length) vc47, .int .i64 ((wordsS (Lib.join l [32])).2)]), (49, str (Lib.join l [32])), (50, .tuple #[.slice vA47 ((wordsS (Lib.join l [32])).1.length) vc47, .int .i64 ((wordsS (Lib.join l [32])).2)]), (51, .slice vA47 ((wordsS (Lib.join l [32])).1.length) vc47), (52, .int .i64 ((wordsS (Lib.join l [32])).2)), (57, .bool ((Lib.join l [32]) == (Lib.join l [32])))]) ?_ ?_
            · refine (Bool.eq_false_or_eq_true (!((l.take i).all okW && decide (0 < (l.length : Int))))).elim (fun hb51 => ?_) (fun hb51 => ?_)
              · subst hM0
                have hk52 := hb51; try simp only [Bool.not_eq_true', Bool.not_eq_false', Bool.and_eq_true, Bool.or_eq_true, Bool.or_eq_false_iff, decide_eq_true_eq, decide_eq_false_iff_not, beq_iff_eq, beq_eq_false_iff_ne, ne_eq] at hk52
                refine g_off HE rfl rfl rfl hb51 ?_; clear HE; intro a HE
                refine g_off HE rfl rfl rfl hb51 ?_; clear HE; intro a HE
                refine g_off HE rfl rfl rfl hb51 ?_; clear HE; intro a HE
                refine g_offu HE rfl rfl rfl ?_; clear HE; intro a HE
                refine g_offu HE rfl rfl rfl ?_; clear HE; intro a HE
                refine g_offu HE rfl rfl rfl ?_; clear HE; intro a HE
                refine g_off HE rfl rfl rfl hb51 ?_; clear HE; intro a HE
                refine op_on HE rfl rfl hb49 ?_
                refine o_pick_t HE rfl rfl hb51 rfl ?_; clear HE; intro a HE
                exact ⟨HS, HE.cut ⟨by rw [hb51]; rfl, rfl, rfl, rfl, rfl, rfl, rfl, rfl, rfl, rfl, rfl, rfl, rfl, rfl, rfl, rfl, trivial⟩⟩
              · subst hM0
                have hk53 := hb51; try simp only [Bool.not_eq_true', Bool.not_eq_false', Bool.and_eq_true, Bool.or_eq_true, Bool.or_eq_false_iff, decide_eq_true_eq, decide_eq_false_iff_not, beq_iff_eq, beq_eq_false_iff_ne, ne_eq] at hk53
                refine op_on HE rfl rfl hb51 ?_
                refine o_move HE rfl rfl ?_; clear HE; intro a HE
                refine op_on HE rfl rfl hb51 ?_
                refine o_eqI HE rfl rfl rfl ?_; clear HE; intro a HE
                refine op_on HE rfl rfl hb51 ?_
                refine o_move HE rfl rfl ?_; clear HE; intro a HE
                obtain ⟨M0, hM0, HS⟩ : ∃ M0, M0 = _ ∧ St w0 G [] G47 _ M0 := ⟨_, rfl, HS⟩
                refine cutL 4 (fun a' w' => St w0 G [] G47 w' M0 ∧ Env a' 70 [] [(67, .bool ((decide (((wordsS (Lib.join l [32])).2) = 0)) && (decide ((wordsS (Lib.join l [32])).1 = l)))), (0, .slice A l.length c), (3, .bool ((l.take i).all okW && decide (0 < (l.length : Int)))), (7, str (Lib.join l [32])), (18, .slice A l.length c), (19, .int .i64 (l.length : Int)), (20, .int .i64 ((i : Nat) : Int)), (21, .bool (decide (((i : Nat) : Int) < (l.length : Int)))), (46, .slice A l.length c), (47, str (Lib.join l [32])), (48, .tuple #[.slice vA47 ((wordsS (Lib.join l [32])).1.length) vc47, .int .i64 ((wordsS (Lib.join l [32])).2)]), (49, str (Lib.join l [32])), (50, .tuple #[.slice vA47 ((wordsS (Lib.join l [32])).1.length) vc47, .int .i64 ((wordsS (Lib.join l [32])).2)]), (51, .slice vA47 ((wordsS (Lib.join l [32])).1.length) vc47), (52, .int .i64 ((wordsS (Lib.join l [32])).2)), (57, .bool ((Lib.join l [32]) == (Lib.join l [32]))), (60, .bool (!((l.take i).all okW && decide (0 < (l.length : Int)))))]) ?_ ?_
                · refine (Bool.eq_false_or_eq_true (decide (((wordsS (Lib.join l [32])).2) = 0))).elim (fun hb54 => ?_) (fun hb54 => ?_)
                  · subst hM0
                    have hk55 := hb54; try simp only [Bool.not_eq_true', Bool.not_eq_false', Bool.and_eq_true, Bool.or_eq_true, Bool.or_eq_false_iff, decide_eq_true_eq, decide_eq_false_iff_not, beq_iff_eq, beq_eq_false_iff_ne, ne_eq] at hk55
                    refine op_on HE rfl rfl hb54 ?_
                    refine o_move HE rfl rfl ?_; clear HE; intro a HE
                    refine op_on HE rfl rfl hb54 ?_
                    refine o_move HE rfl rfl ?_; clear HE; intro a HE
                    refine op_on HE rfl rfl hb54 ?_
                    refine o_callP HE rfl HS rfl rfl T.g28 (c_same8 ((wordsS (Lib.join l [32])).1) _ _ l _ _ _ _ HS.sub hR47 (by first | omega | (have := wordsS_len (Lib.join l [32]); omega)) hR (by first | omega | (have := wordsS_len (Lib.join l [32]); omega))) ?_
                    clear HE HS; rintro _ w a HS rfl HE
                    refine op_on HE rfl rfl hb51 ?_
                    refine o_pick_t HE rfl rfl hb54 rfl ?_; clear HE; intro a HE
                    exact ⟨HS, HE.cut ⟨by rw [hb54]; rfl, rfl, rfl, rfl, rfl, rfl, rfl, rfl, rfl, rfl, rfl, rfl, rfl, rfl, rfl, rfl, rfl, trivial⟩⟩
                  · subst hM0
                    have hk56 := hb54; try simp only [Bool.not_eq_true', Bool.not_eq_false', Bool.and_eq_true, Bool.or_eq_true, Bool.or_eq_false_iff, decide_eq_true_eq, decide_eq_false_iff_not, beq_iff_eq, beq_eq_false_iff_ne, ne_eq] at hk56
                    refine g_off HE rfl rfl rfl hb54 ?_; clear HE; intro a HE
                    refine g_off HE rfl rfl rfl hb54 ?_; clear HE; intro a HE
                    refine g_off HE rfl rfl rfl hb54 ?_; clear HE; intro a HE
                    refine op_on HE rfl rfl hb51 ?_
                    refine o_pick_f HE rfl rfl hb54 rfl ?_; clear HE; intro a HE
                    exact ⟨HS, HE.cut ⟨by rw [hb54]; rfl, rfl, rfl, rfl, rfl, rfl, rfl, rfl, rfl, rfl, rfl, rfl, rfl, rfl, rfl, rfl, rfl, trivial⟩⟩
                clear HE HS; rintro a w ⟨HS, HE⟩; subst hM0
                refine op_on HE rfl rfl hb49 ?_
                refine o_pick_f HE rfl rfl hb51 rfl ?_; clear HE; intro a HE
                exact ⟨HS, HE.cut ⟨by rw [hb51]; rfl, rfl, rfl, rfl, rfl, rfl, rfl, rfl, rfl, rfl, rfl, rfl, rfl, rfl, rfl, rfl, trivial⟩⟩
            clear HE HS; rintro a w ⟨HS, HE⟩; subst hM0
            refine o_pick_t HE rfl rfl hb49 rfl ?_; clear HE; intro a HE
            exact ⟨HS, HE.cut ⟨by rw [hb49]; rfl, rfl, rfl, rfl, rfl, rfl, rfl, rfl, rfl, rfl, rfl, rfl, rfl, rfl, rfl, trivial⟩⟩
          · subst hM0
            have hk57 := hb49; try simp only [Bool.not_eq_true', Bool.not_eq_false', Bool.and_eq_true, Bool.or_eq_true, Bool.or_eq_false_iff, decide_eq_true_eq, decide_eq_false_iff_not, beq_iff_eq, beq_eq_false_iff_ne, ne_eq] at hk57
            refine g_off HE rfl rfl rfl hb49 ?_; clear HE; intro a HE
            refine g_off HE rfl rfl rfl hb49 ?_; clear HE; intro a HE
            refine g_off HE rfl rfl rfl hb49 ?_; clear HE; intro a HE
            refine g_offu HE rfl rfl rfl ?_; clear HE; intro a HE
            refine g_offu HE rfl rfl rfl ?_; clear HE; intro a HE
            refine g_offu HE rfl rfl rfl ?_; clear HE; intro a HE
            refine g_offu HE rfl rfl rfl ?_; clear HE; intro a HE
            refine g_offu HE rfl rfl rfl ?_; clear HE; intro a HE
            refine g_offu HE rfl rfl rfl ?_; clear HE; intro a HE
            refine g_offu HE rfl rfl rfl ?_; clear HE; intro a HE
            refine g_off HE rfl rfl rfl hb49 ?_; clear HE; intro a HE
            refine o_pick_f HE rfl rfl hb49 rfl ?_; clear HE; intro a HE
            exact ⟨HS, HE.cut ⟨by rw [hb49]; rfl, rfl, rfl, rfl, rfl, rfl, rfl, rfl, rfl, rfl, rfl, rfl, rfl, rfl, rfl, trivial⟩⟩
        clear HE HS; rintro a w ⟨HS, HE⟩; subst hM0
        refine o_assign HE rfl rfl ?_; clear HE; intro a HE
        refine hK _ _ ?_; clear hK K
        refine wp_ret ?_
        show Q .ret _ _
        refine ret hQ HE rfl (HE.res rfl .nil) ⟨_, _, HS.stop (List.nil_sublist _), rfl, ?_⟩
        show _ = _
        simp only [packed, Value.bool.injEq]
        rw [hi2, List.take_length]
        cases hp : (l.all okW && decide (0 < (l.length : Int))) with
        | false => simp
        | true =>
          simp only [Bool.and_eq_true, decide_eq_true_eq] at hp
          rw [words_of (List.length_pos_iff.1 (by omega)) (okW_all hp.1)]
          simp
end Go.Proofs.YtjmffmfcddnjbaaDoor.T9
