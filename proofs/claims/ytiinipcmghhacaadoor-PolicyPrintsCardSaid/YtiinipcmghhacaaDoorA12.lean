/- Plain laws of policies printed. -/
import Derived.Test.YtiinipcmghhacaaDoorA11
set_option linter.unusedVariables false
set_option linter.unusedSimpArgs false
namespace Go.Proofs.YtiinipcmghhacaaDoor.T10
open Go Go.Proofs.YtiinipcmghhacaaDoor.X
/-! Chapter 25: the printed policy's lines, in whatever order. -/
def ruleAt (p : Pol) (k : Nat) : Rul := match k with
  | 0 => p.r0
  | 1 => p.r1
  | 2 => p.r2
  | 3 => p.r3
  | _ => p.r4
def sLine (p : Pol) (k : Nat) : Bs := if k = 5 then (if p.time = 0 then sTK else sTR) else if k = 6 then (if p.note = 0 then sNK else sND) else if k = 7 then sLo else if k = 8 then sFo else saidS (k : Int) (ruleAt p k)
def keysP (p : Pol) : List Nat := [0, 1, 2, 3, 4, 5, 6] ++ (if p.loose = true then [7] else []) ++ (if p.force = true then [8] else [])
def printR (p : Pol) : Bs := if rightB p = true then ((keysP p).map (sLine p)).flatMap (· ++ [10]) else []
def mix (p : Pol) (sd : List Bool) : Pol := ⟨if sd.getD 0 false = true then p.r0 else ⟨0, 0⟩, if sd.getD 1 false = true then p.r1 else ⟨0, 0⟩, if sd.getD 2 false = true then p.r2 else ⟨0, 0⟩, if sd.getD 3 false = true then p.r3 else ⟨0, 0⟩, if sd.getD 4 false = true then p.r4 else ⟨0, 0⟩, if sd.getD 5 false = true then p.time else 0, if sd.getD 6 false = true then p.note else 0, sd.getD 7 false && p.loose, sd.getD 8 false && p.force⟩
theorem keys_lt {p : Pol} {k : Nat} (h : k ∈ keysP p) : k < 9 := by
  unfold keysP at h
  simp only [List.mem_append, List.mem_cons, List.not_mem_nil, or_false] at h
  rcases h with (h | h) | h
  · omega
  · split at h <;> simp at h; omega
  · split at h <;> simp at h; omega
theorem keys_78 {p : Pol} : (7 ∈ keysP p → p.loose = true) ∧ (8 ∈ keysP p → p.force = true) := by
  unfold keysP
  constructor
  · intro h
    cases hl : p.loose with
    | true => rfl
    | false => rw [hl] at h; exfalso; revert h; cases p.force <;> decide
  · intro h
    cases hl : p.force with
    | true => rfl
    | false => rw [hl] at h; exfalso; revert h; cases p.loose <;> decide
theorem keys_nodup (p : Pol) : (keysP p).Nodup := by
  unfold keysP
  cases p.loose <;> cases p.force <;> decide
theorem keys_len (p : Pol) : (keysP p).length = 7 ∨ (keysP p).length = 8 ∨ (keysP p).length = 9 := by
  unfold keysP
  cases p.loose <;> cases p.force <;> decide
theorem keys_7 (p : Pol) (k : Nat) (h : k < 7) : k ∈ keysP p := by
  unfold keysP
  simp only [List.mem_append, List.mem_cons]
  left; left
  omega
theorem ruled_nat {d : Int} {r : Rul} (h : ruledB d r = true) : ∃ w n : Nat, r = ⟨(w : Int), (n : Int)⟩ ∧ w ≤ 3 ∧ n ≤ 16 := by
  obtain ⟨w, n⟩ := r
  unfold ruledB at h
  simp only [Bool.or_eq_true, Bool.and_eq_true, decide_eq_true_eq] at h
  refine ⟨w.toNat, n.toNat, ?_, by omega, by omega⟩
  rw [Int.toNat_of_nonneg (by omega), Int.toNat_of_nonneg (by omega)]
theorem right_rule {p : Pol} (h : rightB p = true) {k : Nat} (hk : k < 5) : ruledB (k : Int) (ruleAt p k) = true := by
  unfold rightB at h
  simp only [Bool.and_eq_true] at h
  obtain ⟨h0, h1, h2, h3, h4, _⟩ := h
  match k, hk with
  | 0, _ => exact h0
  | 1, _ => exact h1
  | 2, _ => exact h2
  | 3, _ => exact h3
  | 4, _ => exact h4
theorem right_time {p : Pol} (h : rightB p = true) : (p.time = 0 ∨ p.time = 3) ∧ (p.note = 0 ∨ p.note = 4) := by
  unfold rightB at h
  simp only [Bool.and_eq_true, Bool.or_eq_true, decide_eq_true_eq] at h
  exact h.2.2.2.2.2
theorem said9 {sd : List Bool} (h : sd.length = 9) : ∃ b0 b1 b2 b3 b4 b5 b6 b7 b8, sd = [b0, b1, b2, b3, b4, b5, b6, b7, b8] := by
  match sd, h with
  | [b0, b1, b2, b3, b4, b5, b6, b7, b8], _ => exact ⟨_, _, _, _, _, _, _, _, _, rfl⟩
/-- A line of the printed policy says its key. -/
theorem lineR_key {p : Pol} (hp : rightB p = true) {k : Nat} (hk : k ∈ keysP p) (Q : Pol) : lineR (sLine p k) Q = ((k : Int), if k = 5 then (if p.time = 0 then Q else { Q with time := p.time }) else if k = 6 then (if p.note = 0 then Q else { Q with note := p.note }) else if k = 7 then { Q with loose := true } else if k = 8 then { Q with force := true } else setR Q (k : Int) (ruleAt p k)) := by
  have h9 := keys_lt hk
  obtain ⟨ht, hn⟩ := right_time hp
  unfold sLine
  by_cases e5 : k = 5
  · subst e5
    show lineR (if p.time = 0 then sTK else sTR) Q = ((5 : Int), if p.time = 0 then Q else { Q with time := p.time })
    split
    · rw [lineR_tk (by simp [tk]), if_pos rfl]
    · rename_i h0
      have h3 : p.time = 3 := by omega
      rw [lineR_tk (by simp [tk]), if_neg (by decide), if_pos rfl, h3]
  by_cases e6 : k = 6
  · subst e6
    show lineR (if p.note = 0 then sNK else sND) Q = ((6 : Int), if p.note = 0 then Q else { Q with note := p.note })
    split
    · rw [lineR_tk (by simp [tk]), if_neg (by decide), if_neg (by decide), if_pos rfl]
    · rename_i h0
      have h3 : p.note = 4 := by omega
      rw [lineR_tk (by simp [tk]), if_neg (by decide), if_neg (by decide), if_neg (by decide), if_pos rfl, h3]
  by_cases e7 : k = 7
  · subst e7
    show lineR sLo Q = ((7 : Int), { Q with loose := true })
    rw [lineR_tk (by simp [tk]), if_neg (by decide), if_neg (by decide), if_neg (by decide), if_neg (by decide), if_pos rfl]
  by_cases e8 : k = 8
  · subst e8
    show lineR sFo Q = ((8 : Int), { Q with force := true })
    rw [lineR_tk (by simp [tk]), if_neg (by decide), if_neg (by decide), if_neg (by decide), if_neg (by decide), if_neg (by decide), if_pos rfl]
  rw [if_neg e5, if_neg e6, if_neg e7, if_neg e8, if_neg e5, if_neg e6, if_neg e7, if_neg e8]
  have hr := right_rule hp (k := k) (by omega)
  obtain ⟨w, n, e, hw, hn'⟩ := ruled_nat hr
  rw [e] at hr ⊢
  exact lineR_hit (by omega) hw hn' (by unfold matchS; rw [hr]; simp)
theorem mix_step {p : Pol} (hp : rightB p = true) {k : Nat} (hk : k ∈ keysP p) {sd : List Bool} (h9 : sd.length = 9) (hs : sd.getD k false = false) : (lineR (sLine p k) (mix p sd)).2 = mix p (sd.set k true) := by
  rw [lineR_key hp hk]
  have hl := keys_lt hk
  obtain ⟨h7, h8⟩ := keys_78 (p := p)
  obtain ⟨b0, b1, b2, b3, b4, b5, b6, b7, b8, rfl⟩ := said9 h9
  match k, hl with
  | 0, _ => rfl
  | 1, _ => rfl
  | 2, _ => rfl
  | 3, _ => rfl
  | 4, _ => rfl
  | 5, _ =>
    cases hs
    show (if p.time = 0 then _ else _ : Pol) = _
    split
    · rename_i e; simp [mix, e]
    · rfl
  | 6, _ =>
    cases hs
    show (if p.note = 0 then _ else _ : Pol) = _
    split
    · rename_i e; simp [mix, e]
    · rfl
  | 7, _ => simp [mix, h7 hk]
  | 8, _ => simp [mix, h8 hk]
def setAll : List Nat → List Bool → List Bool
  | [], sd => sd
  | k :: r, sd => setAll r (sd.set k true)
theorem setAll_len : ∀ (ks : List Nat) (sd : List Bool), (setAll ks sd).length = sd.length
  | [], _ => rfl
  | k :: r, sd => by rw [setAll, setAll_len r]; simp
theorem setAll_get : ∀ (ks : List Nat) (sd : List Bool) (j : Nat), j < sd.length → (setAll ks sd).getD j false = (decide (j ∈ ks) || sd.getD j false)
  | [], sd, j, h => by simp [setAll]
  | k :: r, sd, j, h => by
    rw [setAll, setAll_get r _ _ (by simpa using h), getD_set h]
    by_cases e : k = j
    · subst e; simp
    · have e' : ¬ j = k := fun x => e x.symm
      rw [decide_eq_false e, Bool.false_or]
      congr 1
      simp [e']
theorem goR_keys {p : Pol} (hp : rightB p = true) : ∀ (ks : List Nat) (i : Int) (sd : List Bool) (rest : List Bs), sd.length = 9 → (∀ k ∈ ks, k ∈ keysP p) → ks.Nodup → (∀ k ∈ ks, sd.getD k false = false) →
    goR i (ks.map (sLine p) ++ rest) (mix p sd) sd = goR (i + (ks.length : Int)) rest (mix p (setAll ks sd)) (setAll ks sd)
  | [], i, sd, rest, _, _, _, _ => by simp [setAll]
  | k :: r, i, sd, rest, h9, hk, hn, hs => by
    have hkm := hk k (List.mem_cons_self)
    have h1 : (lineR (sLine p k) (mix p sd)).1 = (k : Int) := by rw [lineR_key hp hkm]
    have h2 := mix_step hp hkm h9 (hs k List.mem_cons_self)
    obtain ⟨hn1, hn2⟩ := List.nodup_cons.1 hn
    rw [List.map_cons, List.cons_append, goR, if_neg, h2, h1, Int.toNat_natCast, goR_keys hp r _ _ rest (by simpa using h9) (fun j hj => hk j (List.mem_cons_of_mem _ hj)) hn2, setAll]
    · congr 1
      simp only [List.length_cons]; omega
    · intro j hj
      rw [getD_set (by rw [h9]; exact keys_lt (hk j (List.mem_cons_of_mem _ hj)))]
      rw [hs j (List.mem_cons_of_mem _ hj), Bool.or_false, decide_eq_false_iff_not]
      rintro rfl
      exact hn1 hj
    · rw [h1, Int.toNat_natCast, hs k List.mem_cons_self]
      simp only [Bool.false_eq_true, or_false]
      omega
def z9 : List Bool := List.replicate 9 false
theorem mix_zero (p : Pol) : mix p z9 = P0 := rfl
/-- A key that may lack: what it says is so anyway. -/
def mayLack (p : Pol) (k : Nat) : Bool := if k < 5 then decide (ruleAt p k = ⟨0, 0⟩) else if k = 5 then decide (p.time = 0) else if k = 6 then decide (p.note = 0) else false
theorem mix_done {p : Pol} {ks : List Nat} (h : ∀ k ∈ keysP p, k ∈ ks ∨ mayLack p k = true) : mix p (setAll ks z9) = p := by
  have hg : ∀ j, j < 9 → (setAll ks z9).getD j false = decide (j ∈ ks) := fun j hj => by
    rw [setAll_get _ _ _ (by simpa [z9] using hj)]
    have : z9.getD j false = false := by
      unfold z9
      rw [List.getD_eq_getElem?_getD, List.getElem?_replicate]
      split <;> rfl
    rw [this, Bool.or_false]
  have h7 := fun k hk => h k (keys_7 p k hk)
  obtain ⟨r0, r1, r2, r3, r4, time, note, loose, force⟩ := p
  unfold mix
  have e0 : (if (setAll ks z9).getD 0 false = true then r0 else ⟨0, 0⟩) = r0 := by
    rw [hg 0 (by omega)]
    split
    · rfl
    · rename_i hx
      rcases h7 0 (by omega) with h | h
      · exact absurd (decide_eq_true h) hx
      · exact (of_decide_eq_true h : r0 = ⟨0, 0⟩).symm
  have e1 : (if (setAll ks z9).getD 1 false = true then r1 else ⟨0, 0⟩) = r1 := by
    rw [hg 1 (by omega)]
    split
    · rfl
    · rename_i hx
      rcases h7 1 (by omega) with h | h
      · exact absurd (decide_eq_true h) hx
      · exact (of_decide_eq_true h : r1 = ⟨0, 0⟩).symm
  have e2 : (if (setAll ks z9).getD 2 false = true then r2 else ⟨0, 0⟩) = r2 := by
    rw [hg 2 (by omega)]
    split
    · rfl
    · rename_i hx
      rcases h7 2 (by omega) with h | h
      · exact absurd (decide_eq_true h) hx
      · exact (of_decide_eq_true h : r2 = ⟨0, 0⟩).symm
  have e3 : (if (setAll ks z9).getD 3 false = true then r3 else ⟨0, 0⟩) = r3 := by
    rw [hg 3 (by omega)]
    split
    · rfl
    · rename_i hx
      rcases h7 3 (by omega) with h | h
      · exact absurd (decide_eq_true h) hx
      · exact (of_decide_eq_true h : r3 = ⟨0, 0⟩).symm
  have e4 : (if (setAll ks z9).getD 4 false = true then r4 else ⟨0, 0⟩) = r4 := by
    rw [hg 4 (by omega)]
    split
    · rfl
    · rename_i hx
      rcases h7 4 (by omega) with h | h
      · exact absurd (decide_eq_true h) hx
      · exact (of_decide_eq_true h : r4 = ⟨0, 0⟩).symm
  have e5 : (if (setAll ks z9).getD 5 false = true then time else 0) = time := by
    rw [hg 5 (by omega)]
    split
    · rfl
    · rename_i hx
      rcases h7 5 (by omega) with h | h
      · exact absurd (decide_eq_true h) hx
      · exact (of_decide_eq_true h : time = 0).symm
  have e6 : (if (setAll ks z9).getD 6 false = true then note else 0) = note := by
    rw [hg 6 (by omega)]
    split
    · rfl
    · rename_i hx
      rcases h7 6 (by omega) with h | h
      · exact absurd (decide_eq_true h) hx
      · exact (of_decide_eq_true h : note = 0).symm
  have e7 : ((setAll ks z9).getD 7 false && loose) = loose := by
    cases loose with
    | false => exact Bool.and_false _
    | true =>
      rcases h 7 (by simp [keysP]) with h | h
      · rw [hg 7 (by omega), decide_eq_true h]; rfl
      · cases h
  have e8 : ((setAll ks z9).getD 8 false && force) = force := by
    cases force with
    | false => exact Bool.and_false _
    | true =>
      rcases h 8 (by simp [keysP]) with h | h
      · rw [hg 8 (by omega), decide_eq_true h]; rfl
      · cases h
  dsimp only
  rw [e0, e1, e2, e3, e4, e5, e6, e7, e8]
theorem lines_of : ∀ (ls : List Bs), (∀ l ∈ ls, 10 ∉ l) → splitS 10 (ls.flatMap (· ++ [10])) = ls ++ [[]]
  | [], _ => rfl
  | l :: r, h => by
    rw [List.flatMap_cons, List.append_assoc]
    show splitS 10 (l ++ 10 :: r.flatMap (· ++ [10])) = _
    rw [split_app 10 l _ (h l List.mem_cons_self), lines_of r fun x hx => h x (List.mem_cons_of_mem _ hx)]
    rfl
theorem pcs_of {ls : List Bs} (h : ∀ l ∈ ls, 10 ∉ l) : pcs 10 (ls.flatMap (· ++ [10])) = ls := by
  unfold pcs
  rw [lines_of ls h]
  simp
theorem linesS_of {ls : List Bs} (h : ∀ l ∈ ls, 10 ∉ l) : linesS (ls.flatMap (· ++ [10])) = (ls, 0) := by
  unfold linesS
  have e : lst 10 (ls.flatMap (· ++ [10])) = [] := by
    unfold lst
    simp [lines_of ls h]
  rw [if_pos e, pcs_of h]
def sKeep : Bs := [32, 107, 101, 101, 112, 10]
def endsK (l : Bs) : Bool := decide (6 ≤ (l ++ [10]).length) && ((l ++ [10]).drop ((l ++ [10]).length - 6) == sKeep)
set_option maxRecDepth 100000 in
theorem cands_plain : (cands.all fun c => !(ruledB (c.1 : Int) ⟨(c.2.1 : Int), (c.2.2 : Int)⟩) || ((decide (10 ∉ saidS (c.1 : Int) ⟨(c.2.1 : Int), (c.2.2 : Int)⟩) && decide ((saidS (c.1 : Int) ⟨(c.2.1 : Int), (c.2.2 : Int)⟩).length ≤ 40)) && (endsK (saidS (c.1 : Int) ⟨(c.2.1 : Int), (c.2.2 : Int)⟩) == decide ((⟨(c.2.1 : Int), (c.2.2 : Int)⟩ : Rul) = ⟨0, 0⟩)))) = true := by
  decide +kernel
theorem sLine_plain {p : Pol} (hp : rightB p = true) {k : Nat} (hk : k ∈ keysP p) : 10 ∉ sLine p k ∧ (sLine p k).length ≤ 40 ∧ endsK (sLine p k) = mayLack p k := by
  have h9 := keys_lt hk
  unfold sLine mayLack
  by_cases e5 : k = 5
  · subst e5
    show 10 ∉ (if p.time = 0 then sTK else sTR) ∧ (if p.time = 0 then sTK else sTR).length ≤ 40 ∧ endsK (if p.time = 0 then sTK else sTR) = decide (p.time = 0)
    by_cases e : p.time = 0
    · rw [if_pos e, decide_eq_true e]; decide +kernel
    · rw [if_neg e, decide_eq_false e]; decide +kernel
  by_cases e6 : k = 6
  · subst e6
    show 10 ∉ (if p.note = 0 then sNK else sND) ∧ (if p.note = 0 then sNK else sND).length ≤ 40 ∧ endsK (if p.note = 0 then sNK else sND) = decide (p.note = 0)
    by_cases e : p.note = 0
    · rw [if_pos e, decide_eq_true e]; decide +kernel
    · rw [if_neg e, decide_eq_false e]; decide +kernel
  by_cases e7 : k = 7
  · subst e7; show 10 ∉ sLo ∧ sLo.length ≤ 40 ∧ endsK sLo = false; decide +kernel
  by_cases e8 : k = 8
  · subst e8; show 10 ∉ sFo ∧ sFo.length ≤ 40 ∧ endsK sFo = false; decide +kernel
  rw [if_neg e5, if_neg e6, if_neg e7, if_neg e8, if_pos (by omega)]
  have hr := right_rule hp (k := k) (by omega)
  obtain ⟨w, n, e, hw, hn'⟩ := ruled_nat hr
  rw [e] at hr ⊢
  have := List.all_eq_true.1 cands_plain (k, w, n) (cands_mem.2 ⟨by omega, hw, hn'⟩)
  rw [hr] at this
  simp only [Bool.not_true, Bool.false_or, Bool.and_eq_true, decide_eq_true_eq, beq_iff_eq] at this
  exact ⟨this.1.1, this.1.2, this.2⟩
/-- Lines of the printed policy, none twice, none lacking that may not: the policy. -/
theorem parse_keys {p : Pol} (hp : rightB p = true) {ks : List Nat} (hk : ∀ k ∈ ks, k ∈ keysP p) (hn : ks.Nodup) (hall : ∀ k ∈ keysP p, k ∈ ks ∨ mayLack p k = true) : parseP ((ks.map (sLine p)).flatMap (· ++ [10])) = (p, 0) := by
  rw [parse_same]
  unfold parseR
  rw [linesS_of (fun l hl => by
    obtain ⟨k, hk', rfl⟩ := List.mem_map.1 hl
    exact (sLine_plain hp (hk k hk')).1)]
  rw [if_neg (show ¬ (0 : Int) < 0 by decide)]
  have h := goR_keys hp ks 0 z9 [] rfl hk hn (fun k hk' => by
    have := keys_lt (hk k hk')
    unfold z9
    rw [List.getD_eq_getElem?_getD, List.getElem?_replicate]
    split <;> rfl)
  rw [List.append_nil, mix_zero] at h
  show goR 0 (ks.map (sLine p)) P0 z9 = _
  rw [h, mix_done hall]
  rfl
theorem parse_twice {p : Pol} (hp : rightB p = true) {ks : List Nat} (hk : ∀ k ∈ ks, k ∈ keysP p) (hn : ks.Nodup) {k : Nat} (hk2 : k ∈ ks) : parseP ((ks.map (sLine p)).flatMap (· ++ [10]) ++ (sLine p k ++ [10])) = (P0, (ks.length : Int) + 1) := by
  rw [parse_same]
  have e : (ks.map (sLine p)).flatMap (· ++ [10]) ++ (sLine p k ++ [10]) = (ks.map (sLine p) ++ [sLine p k]).flatMap (· ++ [10]) := by simp
  rw [e]
  unfold parseR
  rw [linesS_of (fun l hl => by
    rcases List.mem_append.1 hl with hl | hl
    · obtain ⟨k, hk', rfl⟩ := List.mem_map.1 hl
      exact (sLine_plain hp (hk k hk')).1
    · obtain rfl := List.mem_singleton.1 hl
      exact (sLine_plain hp (hk k hk2)).1)]
  rw [if_neg (show ¬ (0 : Int) < 0 by decide)]
  have h := goR_keys hp ks 0 z9 [sLine p k] rfl hk hn (fun k hk' => by
    have := keys_lt (hk k hk')
    unfold z9
    rw [List.getD_eq_getElem?_getD, List.getElem?_replicate]
    split <;> rfl)
  rw [mix_zero] at h
  show goR 0 (ks.map (sLine p) ++ [sLine p k]) P0 z9 = _
  rw [h]
  have h1 : (lineR (sLine p k) (mix p (setAll ks z9))).1 = (k : Int) := by rw [lineR_key hp (hk k hk2)]
  rw [goR, if_pos]
  · congr 1
    omega
  · right
    rw [h1, Int.toNat_natCast, setAll_get _ _ _ (by have := keys_lt (hk k hk2); simpa [z9] using this), decide_eq_true hk2]
    rfl
/-- The keys, turned. -/
def tkeys (p : Pol) (a i : Nat) : List Nat := (List.range i).map fun j => (keysP p).getD ((j + a) % (keysP p).length) 0
def turnS (p : Pol) (a i : Nat) : Bs := ((tkeys p a i).map (sLine p)).flatMap (· ++ [10])
theorem tkeys_turn (p : Pol) (a : Nat) : tkeys p a (keysP p).length = (keysP p).drop (a % (keysP p).length) ++ (keysP p).take (a % (keysP p).length) := by
  apply List.ext_getElem
  · simp only [tkeys, List.length_map, List.length_range, List.length_append, List.length_drop, List.length_take]
    have := keys_len p
    have hm : a % (keysP p).length < (keysP p).length := Nat.mod_lt _ (by omega)
    omega
  · intro j h1 h2
    simp only [tkeys, List.length_map, List.length_range] at h1
    simp only [tkeys, List.getElem_map, List.getElem_range]
    have hlt : (j + a) % (keysP p).length < (keysP p).length := Nat.mod_lt _ (by have := keys_len p; omega)
    rw [List.getD_eq_getElem?_getD, List.getElem?_eq_getElem hlt, Option.getD_some, List.getElem_append]
    have hm : a % (keysP p).length < (keysP p).length := Nat.mod_lt _ (by have := keys_len p; omega)
    split
    · rename_i h
      simp only [List.length_drop] at h
      rw [List.getElem_drop]
      congr 1
      rcases keys_len p with e | e | e <;> rw [e] at h hm ⊢ <;> omega
    · rename_i h
      simp only [List.length_drop, Nat.not_lt] at h
      rw [List.getElem_take]
      congr 1
      simp only [List.length_drop]
      rcases keys_len p with e | e | e <;> rw [e] at h h1 hm ⊢ <;> omega
theorem tkeys_perm (p : Pol) (a : Nat) : (tkeys p a (keysP p).length).Perm (keysP p) := by
  rw [tkeys_turn]
  exact List.perm_append_comm.trans (by rw [List.take_append_drop])
theorem turn_parse {p : Pol} (hp : rightB p = true) (a : Nat) : parseP (turnS p a (keysP p).length) = (p, 0) :=
  parse_keys hp (fun k hk => (tkeys_perm p a).mem_iff.1 hk) ((tkeys_perm p a).nodup_iff.2 (keys_nodup p)) (fun k hk => .inl ((tkeys_perm p a).mem_iff.2 hk))
theorem turn_twice {p : Pol} (hp : rightB p = true) (a : Nat) {k : Nat} (hk : k ∈ keysP p) : parseP (turnS p a (keysP p).length ++ (sLine p k ++ [10])) = (P0, ((keysP p).length : Int) + 1) := by
  have := parse_twice hp (ks := tkeys p a (keysP p).length) (fun k hk => (tkeys_perm p a).mem_iff.1 hk) ((tkeys_perm p a).nodup_iff.2 (keys_nodup p)) (k := k) ((tkeys_perm p a).mem_iff.2 hk)
  rw [(tkeys_perm p a).length_eq] at this
  exact this
theorem turn_step {p : Pol} {a i : Nat} : turnS p a i ++ (sLine p ((keysP p).getD ((i + a) % (keysP p).length) 0) ++ [10]) = turnS p a (i + 1) := by
  unfold turnS tkeys
  rw [List.range_succ]
  simp
/-- The printed policy without the lines that end so. -/
def keptS (ls : List Bs) : Bs := (ls.filter fun l => !endsK l).flatMap (· ++ [10])
theorem kept_parse {p : Pol} (hp : rightB p = true) : parseP (keptS ((keysP p).map (sLine p))) = (p, 0) := by
  have e : keptS ((keysP p).map (sLine p)) = (((keysP p).filter fun k => !endsK (sLine p k)).map (sLine p)).flatMap (· ++ [10]) := by
    unfold keptS
    rw [List.filter_map]
    rfl
  rw [e]
  refine parse_keys hp (fun k hk => (List.mem_filter.1 hk).1) ((keys_nodup p).filter _) fun k hk => ?_
  cases h : endsK (sLine p k) with
  | false => exact .inl (List.mem_filter.2 ⟨hk, by rw [h]; rfl⟩)
  | true => exact .inr ((sLine_plain hp hk).2.2.symm.trans h)
theorem printR_len {p : Pol} : (printR p).length ≤ 369 := by
  unfold printR
  split
  · rename_i hp
    have h : ∀ (ks : List Nat), (∀ k ∈ ks, k ∈ keysP p) → ((ks.map (sLine p)).flatMap (· ++ [10])).length ≤ ks.length * 41 := by
      intro ks
      induction ks with
      | nil => intro _; simp
      | cons k r ih =>
        intro hk
        have h1 := (sLine_plain hp (hk k List.mem_cons_self)).2.1
        have h2 := ih fun j hj => hk j (List.mem_cons_of_mem _ hj)
        simp only [List.map_cons, List.flatMap_cons, List.length_append, List.length_cons, List.length_nil] at h2 ⊢
        omega
    have := h (keysP p) fun _ h => h
    have := keys_len p
    omega
  · simp
theorem turn_len {p : Pol} (hp : rightB p = true) {a i : Nat} (hi : i ≤ (keysP p).length) : (turnS p a i).length ≤ 369 := by
  have h : ∀ (ks : List Nat), (∀ k ∈ ks, k ∈ keysP p) → ((ks.map (sLine p)).flatMap (· ++ [10])).length ≤ ks.length * 41 := by
    intro ks
    induction ks with
    | nil => intro _; simp
    | cons k r ih =>
      intro hk
      have h1 := (sLine_plain hp (hk k List.mem_cons_self)).2.1
      have h2 := ih fun j hj => hk j (List.mem_cons_of_mem _ hj)
      simp only [List.map_cons, List.flatMap_cons, List.length_append, List.length_cons, List.length_nil] at h2 ⊢
      omega
  have hpos := keys_len p
  have := h (tkeys p a i) fun k hk => by
    obtain ⟨j, hj, rfl⟩ := List.mem_map.1 hk
    have hlt : (j + a) % (keysP p).length < (keysP p).length := Nat.mod_lt _ (by omega)
    rw [List.getD_eq_getElem?_getD, List.getElem?_eq_getElem hlt]
    exact List.getElem_mem _
  have hl : (tkeys p a i).length = i := by simp [tkeys]
  unfold turnS
  rw [hl] at this
  omega
theorem print_pcs {p : Pol} (hp : rightB p = true) : pcs 10 (printR p) = (keysP p).map (sLine p) := by
  unfold printR
  rw [if_pos hp]
  exact pcs_of fun l hl => by
    obtain ⟨k, hk, rfl⟩ := List.mem_map.1 hl
    exact (sLine_plain hp hk).1
theorem sub_hit {c : UInt8} {s : Bs} {i : Nat} (hi : i < s.length) (h : s[i] = c) : sub s ((atS c s i : Nat) : Int) ((i : Int) + 1) = lst c (s.take i) ++ [c] := by
  rw [lst_cut (by omega)]
  have hle := atS_le c s i
  unfold sub
  simp only [Int.toNat_natCast]
  rw [show ((i : Int) + 1 - ((atS c s i : Nat) : Int)).toNat = i + 1 - atS c s i by omega, ← List.drop_take, take_snoc hi, h, List.drop_append_of_le_length]
  rw [List.length_take]
  omega
theorem sub_hit' {c : UInt8} {s : Bs} {p : Nat × Nat} (h2 : p.2 = atS c s p.1) (hi : p.1 < s.length) (h : s[p.1] = c) : sub s ((p.2 : Nat) : Int) (((p.1 : Nat) : Int) + 1) = lst c (s.take p.1) ++ [c] := by
  rw [h2]
  exact sub_hit hi h
def piecesP (p : Pol) : List Bs := (keysP p).map fun k => sLine p k ++ [10]
theorem piecesP_len (p : Pol) : (piecesP p).length = (keysP p).length := by simp [piecesP]
theorem piecesP_pcs {p : Pol} (hp : rightB p = true) : (pcs 10 (printR p)).map (· ++ [10]) = piecesP p := by
  rw [print_pcs hp, List.map_map]
  rfl
theorem piecesP_at {p : Pol} {m : Nat} {x : Bs} {h : ((m : Nat) : Int).toNat < (piecesP p).length} (e : (piecesP p)[((m : Nat) : Int).toNat] = x) : m < (keysP p).length ∧ x = sLine p ((keysP p).getD m 0) ++ [10] := by
  have h' : m < (keysP p).length := by rw [piecesP_len] at h; simpa using h
  refine ⟨h', ?_⟩
  rw [List.getD_eq_getElem?_getD, List.getElem?_eq_getElem h', Option.getD_some, ← e]
  simp [piecesP]
theorem turn_ix {p : Pol} {i : Nat} {a : Int} (ha : 0 ≤ a) : ∃ m : Nat, Int.tmod (((i : Nat) : Int) + a) (((piecesP p).length : Nat) : Int) = ((m : Nat) : Int) ∧ m = (i + a.toNat) % (keysP p).length ∧ m < (piecesP p).length := by
  obtain ⟨n, rfl⟩ := Int.eq_ofNat_of_zero_le ha
  refine ⟨(i + n) % (keysP p).length, ?_, by rw [Int.toNat_natCast], ?_⟩
  · rw [piecesP_len, Int.tmod_eq_emod_of_nonneg (by omega), Int.natCast_emod, Int.natCast_add]
  · rw [piecesP_len]
    exact Nat.mod_lt _ (by have := keys_len p; omega)
theorem turn_ix0 {p : Pol} {a : Int} (ha : 0 ≤ a) : ∃ m : Nat, Int.tmod a (((piecesP p).length : Nat) : Int) = ((m : Nat) : Int) ∧ m < (piecesP p).length := by
  obtain ⟨m, h1, _, h2⟩ := turn_ix (p := p) (i := 0) ha
  exact ⟨m, by simpa using h1, h2⟩
theorem piece_len {p : Pol} (hp : rightB p = true) {m : Nat} (h : m < (keysP p).length) : (sLine p ((keysP p).getD m 0) ++ [10]).length ≤ 41 ∧ (keysP p).getD m 0 ∈ keysP p := by
  have hm : (keysP p).getD m 0 ∈ keysP p := by
    rw [List.getD_eq_getElem?_getD, List.getElem?_eq_getElem h]
    exact List.getElem_mem _
  have := (sLine_plain hp hm).2.1
  exact ⟨by simpa using this, hm⟩
theorem kept_flat : ∀ ls : List Bs, (keptS ls).length ≤ (ls.flatMap (· ++ [10])).length
  | [] => Nat.le_refl _
  | l :: r => by
    have ih := kept_flat r
    unfold keptS at ih ⊢
    rw [List.filter_cons]
    split
    · simp only [List.flatMap_cons, List.length_append] at ih ⊢
      omega
    · simp only [List.flatMap_cons, List.length_append] at ih ⊢
      omega
theorem kept_len (s : Bs) (i : Nat) : (keptS (pcs 10 (s.take i))).length ≤ s.length := by
  have h1 := kept_flat (pcs 10 (s.take i))
  have h2 := congrArg List.length (splitS_join 10 (s.take i))
  rw [List.length_append, List.length_take] at h2
  omega
theorem kept_snoc (ls : List Bs) (x : Bs) : keptS (ls ++ [x]) = if endsK x = true then keptS ls else keptS ls ++ (x ++ [10]) := by
  unfold keptS
  rw [List.filter_append, List.flatMap_append]
  cases h : endsK x with
  | true => simp [h]
  | false => simp [h]
theorem kept_cond {l x : Bs} (e : l = x ++ [10]) : (decide ((l.length : Int) < 6) || !(List.drop ((l.length : Int) - 6).toNat l == [32, 107, 101, 101, 112, 10])) = !endsK x := by
  subst e
  unfold endsK sKeep
  have h6 : ∀ n : Nat, ((n : Int) - 6).toNat = n - 6 := fun n => by omega
  rw [h6]
  by_cases h : 6 ≤ (x ++ [10]).length
  · rw [decide_eq_true h, decide_eq_false (by omega)]; rfl
  · rw [decide_eq_false h, decide_eq_true (by omega)]; rfl
theorem right_size {p : Pol} (h : rightB p = true) : ((0 ≤ p.r0.size ∧ p.r0.size ≤ 16) ∧ (0 ≤ p.r1.size ∧ p.r1.size ≤ 16)) ∧ ((0 ≤ p.r2.size ∧ p.r2.size ≤ 16) ∧ (0 ≤ p.r3.size ∧ p.r3.size ≤ 16)) ∧ (0 ≤ p.r4.size ∧ p.r4.size ≤ 16) := by
  have hs : ∀ {d : Int} {r : Rul}, ruledB d r = true → 0 ≤ r.size ∧ r.size ≤ 16 := by
    intro d r hr
    obtain ⟨w, n, rfl, _, hn⟩ := ruled_nat hr
    dsimp only
    omega
  exact ⟨⟨hs (right_rule h (k := 0) (by decide)), hs (right_rule h (k := 1) (by decide))⟩, ⟨hs (right_rule h (k := 2) (by decide)), hs (right_rule h (k := 3) (by decide))⟩, hs (right_rule h (k := 4) (by decide))⟩
end Go.Proofs.YtiinipcmghhacaaDoor.T10
