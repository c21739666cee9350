/- Own text. -/
import Derived.Test.YtngoaapgdfohjaaGreatDoorP1
set_option linter.unusedVariables false
set_option linter.unusedSimpArgs false
namespace Go.Proofs.YtngoaapgdfohjaaGreatDoor.T28
open Go Go.Proofs.YtngoaapgdfohjaaGreatDoor.X
def domW : List Bs := [[99, 108, 105, 101, 110, 116], [111, 98, 106, 101, 99, 116], [118, 97, 108, 117, 101], [102, 105, 101, 108, 100], [111, 114, 100, 101, 114]]
def wayW : List Bs := [[107, 101, 101, 112], [111, 114, 100, 105, 110, 97, 108], [107, 101, 121, 101, 100], [114, 97, 110, 107], [100, 114, 111, 112]]
/-- The number of a way's word. -/
def wayS (s : Bs) : Int × Bool := if [107, 101, 101, 112] == s then (0, true) else if [111, 114, 100, 105, 110, 97, 108] == s then (1, true) else if [107, 101, 121, 101, 100] == s then (2, true) else if [114, 97, 110, 107] == s then (3, true) else if [100, 114, 111, 112] == s then (4, true) else (0, false)
def nameS (d : Int) : Bs := if d = 0 then [99, 108, 105, 101, 110, 116] else if d = 1 then [111, 98, 106, 101, 99, 116] else if d = 2 then [118, 97, 108, 117, 101] else if d = 3 then [102, 105, 101, 108, 100] else [111, 114, 100, 101, 114]
def saidS (d : Int) (r : Rul) : Bs := if r.way = 0 then nameS d ++ [32, 107, 101, 101, 112] else if r.way = 1 then nameS d ++ [32, 111, 114, 100, 105, 110, 97, 108] else if r.way = 2 then (nameS d ++ [32, 107, 101, 121, 101, 100, 32]) ++ Lib.itoa r.size else nameS d ++ [32, 114, 97, 110, 107]
theorem nameS_len (d : Int) : (nameS d).length ≤ 6 := by
  unfold nameS
  split; decide
  split; decide
  split; decide
  split; decide
  decide
/-- A line that says something of a domain. -/
def matchS (s : Bs) (d w n : Nat) : Bool := ruledB (d : Int) ⟨(w : Int), (n : Int)⟩ && saidS (d : Int) ⟨(w : Int), (n : Int)⟩ == s
def setR (p : Pol) (d : Int) (r : Rul) : Pol := if d = 0 then { p with r0 := r } else if d = 1 then { p with r1 := r } else if d = 2 then { p with r2 := r } else if d = 3 then { p with r3 := r } else { p with r4 := r }
def sTK : Bs := [116, 105, 109, 101, 32, 107, 101, 101, 112]
def sTR : Bs := [116, 105, 109, 101, 32, 114, 97, 110, 107]
def sNK : Bs := [110, 111, 116, 101, 32, 107, 101, 101, 112]
def sND : Bs := [110, 111, 116, 101, 32, 100, 114, 111, 112]
def sLo : Bs := [108, 111, 111, 115, 101]
def sFo : Bs := [102, 111, 114, 99, 101]
/-- All (domain, way, size). -/
def cands : List (Nat × Nat × Nat) := (List.range 5).flatMap fun d => (List.range 4).flatMap fun w => (List.range 17).map fun n => (d, w, n)
theorem cands_mem {c : Nat × Nat × Nat} : c ∈ cands ↔ c.1 < 5 ∧ c.2.1 ≤ 3 ∧ c.2.2 ≤ 16 := by
  obtain ⟨d, w, n⟩ := c
  simp only [cands, List.mem_flatMap, List.mem_range, List.mem_map, Prod.mk.injEq]
  constructor
  · rintro ⟨a, ha, b, hb, e, he, rfl, rfl, rfl⟩
    exact ⟨ha, by omega, by omega⟩
  · rintro ⟨h1, h2, h3⟩
    exact ⟨d, h1, w, by omega, n, by omega, rfl, rfl, rfl⟩
/-- What a line says something of, and the policy with it. -/
def lineR (s : Bs) (p : Pol) : Int × Pol :=
  match cands.find? fun c => matchS s c.1 c.2.1 c.2.2 with
  | some c => ((c.1 : Int), setR p (c.1 : Int) ⟨(c.2.1 : Int), (c.2.2 : Int)⟩)
  | none => if s = sTK then (5, p) else if s = sTR then (5, { p with time := 3 }) else if s = sNK then (6, p) else if s = sND then (6, { p with note := 4 })
    else if s = sLo then (7, { p with loose := true }) else if s = sFo then (8, { p with force := true }) else (-1, p)
/-- No two say the same. -/
theorem cands_one : (cands.all fun c => cands.all fun c' => !(ruledB (c.1 : Int) ⟨(c.2.1 : Int), (c.2.2 : Int)⟩ && ruledB (c'.1 : Int) ⟨(c'.2.1 : Int), (c'.2.2 : Int)⟩ && saidS (c.1 : Int) ⟨(c.2.1 : Int), (c.2.2 : Int)⟩ == saidS (c'.1 : Int) ⟨(c'.2.1 : Int), (c'.2.2 : Int)⟩) || c == c') = true := by
  decide +kernel
theorem lineR_hit {s : Bs} {p : Pol} {d w n : Nat} (hd : d < 5) (hw : w ≤ 3) (hn : n ≤ 16) (h : matchS s d w n = true) : lineR s p = ((d : Int), setR p (d : Int) ⟨(w : Int), (n : Int)⟩) := by
  have hm : (d, w, n) ∈ cands := cands_mem.2 ⟨hd, hw, hn⟩
  unfold lineR
  cases hf : cands.find? fun c => matchS s c.1 c.2.1 c.2.2 with
  | none =>
    have := List.find?_eq_none.1 hf (d, w, n) hm
    exact absurd h this
  | some c =>
    have h1 := List.find?_some hf
    have h2 := List.mem_of_find?_eq_some hf
    have h3 := List.all_eq_true.1 (List.all_eq_true.1 cands_one c h2) (d, w, n) hm
    unfold matchS at h h1
    simp only [Bool.and_eq_true, beq_iff_eq] at h h1
    have : c = (d, w, n) := by
      rw [Bool.or_eq_true] at h3
      rcases h3 with h3 | h3
      · rw [h1.1, h.1, h1.2, h.2] at h3
        simp at h3
      · simpa using h3
    subst this
    rfl
def w0S (l : List Bs) : Int × Bool := wayS (l.getD 0 [])
def oneS (l : List Bs) (may : Int) : Int × Bool := if l.length = 1 then ((w0S l).1, (w0S l).2 && (decide ((w0S l).1 = 0) || decide ((w0S l).1 = may))) else (0, false)
def ruleS (d : Int) (P : Pol) (l : List Bs) : Pol × Bool :=
  if l.length = 0 then (P, false)
  else if (w0S l).1 = 2 ∧ l.length = 2 then (setR P d ⟨(w0S l).1, okv (countS (l.getD 1 []) 16)⟩, ((w0S l).2 && decide (erv (countS (l.getD 1 []) 16) = 0)) && ruledB d ⟨(w0S l).1, okv (countS (l.getD 1 []) 16)⟩)
  else (setR P d ⟨(w0S l).1, 0⟩, ((w0S l).2 && decide (l.length = 1)) && ruledB d ⟨(w0S l).1, 0⟩)
def pcE (P : Pol) : List (Nat × Value) := [(0, .int .i64 P.r0.way), (1, .int .i64 P.r0.size), (2, .int .i64 P.r1.way), (3, .int .i64 P.r1.size), (4, .int .i64 P.r2.way), (5, .int .i64 P.r2.size), (6, .int .i64 P.r3.way), (7, .int .i64 P.r3.size), (8, .int .i64 P.r4.way), (9, .int .i64 P.r4.size), (10, .int .i64 P.time), (11, .int .i64 P.note), (12, .bool P.loose), (13, .bool P.force)]
def timeS (P : Pol) (l : List Bs) : Pol × Bool := ({ P with time := (oneS l 3).1 }, (oneS l 3).2)
def noteP (P : Pol) (l : List Bs) : Pol × Bool := ({ P with note := (oneS l 4).1 }, (oneS l 4).2)
def looseS (P : Pol) (l : List Bs) : Pol × Bool := ({ P with loose := true }, decide ((l.length : Int) = 0))
def forceS (P : Pol) (l : List Bs) : Pol × Bool := ({ P with force := true }, decide ((l.length : Int) = 0))
def wordK (k : Nat) : Bs := if k = 5 then [116, 105, 109, 101] else if k = 6 then [110, 111, 116, 101] else if k = 7 then [108, 111, 111, 115, 101] else if k = 8 then [102, 111, 114, 99, 101] else nameS (k : Int)
/-- What lies in a kind: its function. -/
def P0 : Pol := ⟨⟨0, 0⟩, ⟨0, 0⟩, ⟨0, 0⟩, ⟨0, 0⟩, ⟨0, 0⟩, 0, 0, false, false⟩
def doS (k : Nat) (P : Pol) (l : List Bs) : Pol × Bool := if k = 5 then timeS P l else if k = 6 then noteP P l else if k = 7 then looseS P l else if k = 8 then forceS P l else ruleS (k : Int) P l
set_option maxRecDepth 100000 in
/-- One kind's turn at a line's words. -/
def stepK (ok : Bool) (ws : List Bs) (k : Nat) (x : Pol × List Bool × Bool) : Pol × List Bool × Bool :=
  if ((ok && (ws.getD 0 [] == wordK k)) && !(x.2.1.getD k false)) = true then ((doS k x.1 (ws.drop 1)).1, x.2.1.set k true, (doS k x.1 (ws.drop 1)).2) else x
def kS (ok : Bool) (ws : List Bs) (P : Pol) (sd : List Bool) : Nat → Pol × List Bool × Bool
  | 0 => (P, sd, false)
  | k + 1 => stepK ok ws k (kS ok ws P sd k)
def lineP (s : Bs) (P : Pol) (sd : List Bool) : Pol × List Bool × Bool := kS (decide ((wordsS s).2 = 0)) (wordsS s).1 P sd 9
def goP : Int → List Bs → Pol → List Bool → Pol × Int
  | _, [], P, _ => (P, 0)
  | i, s :: r, P, sd => if (lineP s P sd).2.2 = true then goP (i + 1) r (lineP s P sd).1 (lineP s P sd).2.1 else (P0, i + 1)
def parseP (t : Bs) : Pol × Int := if (linesS t).2 = 0 then goP 0 (linesS t).1 P0 (List.replicate 9 false) else (P0, (linesS t).2)
def goR : Int → List Bs → Pol → List Bool → Pol × Int
  | _, [], P, _ => (P, 0)
  | i, s :: r, P, sd => if (lineR s P).1 < 0 ∨ sd.getD (lineR s P).1.toNat false = true then (P0, i + 1) else goR (i + 1) r (lineR s P).2 (sd.set (lineR s P).1.toNat true)
def parseR (t : Bs) : Pol × Int := if 0 < (linesS t).2 then (P0, (linesS t).2) else goR 0 (linesS t).1 P0 (List.replicate 9 false)
def failC (n : Int) : Int := if n = 0 then 0 else 6
theorem kS_hit {ok : Bool} {ws : List Bs} {P : Pol} {sd : List Bool} {z : Nat × Pol × List Bool × Bool} (h : kS ok ws P sd z.1 = z.2) (hc : ((ok && (ws.getD 0 [] == wordK z.1)) && !(z.2.2.1.getD z.1 false)) = true) : kS ok ws P sd (z.1 + 1) = ((doS z.1 z.2.1 (ws.drop 1)).1, z.2.2.1.set z.1 true, (doS z.1 z.2.1 (ws.drop 1)).2) := by
  rw [kS, h, stepK, if_pos hc]
theorem kS_miss {ok : Bool} {ws : List Bs} {P : Pol} {sd : List Bool} {z : Nat × Pol × List Bool × Bool} (h : kS ok ws P sd z.1 = z.2) (hc : ((ok && (ws.getD 0 [] == wordK z.1)) && !(z.2.2.1.getD z.1 false)) = false) : kS ok ws P sd (z.1 + 1) = z.2 := by
  rw [kS, h, stepK, if_neg (by rw [hc]; decide)]
theorem goP_step {i : Int} {ls : List Bs} {n : Nat} {x : Bs} {P : Pol} {sd : List Bool} {h : n < ls.length} (ex : ls[n] = x) : goP i (ls.drop n) P sd = if (lineP x P sd).2.2 = true then goP (i + 1) (ls.drop (n + 1)) (lineP x P sd).1 (lineP x P sd).2.1 else (P0, i + 1) := by
  rw [List.drop_eq_getElem_cons h, ex]
  rfl
theorem lineR_rng (s : Bs) (P : Pol) : -1 ≤ (lineR s P).1 ∧ (lineR s P).1 < 9 := by
  unfold lineR
  cases hf : cands.find? fun c => matchS s c.1 c.2.1 c.2.2 with
  | some c =>
    have h2 := cands_mem.1 (List.mem_of_find?_eq_some hf)
    dsimp only
    omega
  | none =>
    dsimp only
    repeat' split
    all_goals (dsimp only; omega)
/-! The plain law of chapter 25: the program's parse is the document's. -/
def ruleV (d : Int) (l : List Bs) : Rul × Bool :=
  if (w0S l).1 = 2 ∧ l.length = 2 then (⟨(w0S l).1, okv (countS (l.getD 1 []) 16)⟩, ((w0S l).2 && decide (erv (countS (l.getD 1 []) 16) = 0)) && ruledB d ⟨(w0S l).1, okv (countS (l.getD 1 []) 16)⟩)
  else (⟨(w0S l).1, 0⟩, ((w0S l).2 && decide (l.length = 1)) && ruledB d ⟨(w0S l).1, 0⟩)
theorem ruleS_eq {d : Int} {P : Pol} {l : List Bs} (h : l ≠ []) : ruleS d P l = (setR P d (ruleV d l).1, (ruleV d l).2) := by
  unfold ruleS ruleV
  rw [if_neg (by rw [List.length_eq_zero_iff]; exact h)]
  split <;> rfl
theorem way_word {w : Bs} {v : Int} (h : wayS w = (v, true)) : (v = 0 ∧ w = [107, 101, 101, 112]) ∨ (v = 1 ∧ w = [111, 114, 100, 105, 110, 97, 108]) ∨ (v = 2 ∧ w = [107, 101, 121, 101, 100]) ∨ (v = 3 ∧ w = [114, 97, 110, 107]) ∨ (v = 4 ∧ w = [100, 114, 111, 112]) := by
  unfold wayS at h
  split at h
  · rename_i e; simp at h e; exact .inl ⟨h.symm, e.symm⟩
  split at h
  · rename_i e; simp at h e; exact .inr (.inl ⟨h.symm, e.symm⟩)
  split at h
  · rename_i e; simp at h e; exact .inr (.inr (.inl ⟨h.symm, e.symm⟩))
  split at h
  · rename_i e; simp at h e; exact .inr (.inr (.inr (.inl ⟨h.symm, e.symm⟩)))
  split at h
  · rename_i e; simp at h e; exact .inr (.inr (.inr (.inr ⟨h.symm, e.symm⟩)))
  · simp at h
set_option maxRecDepth 100000 in
theorem cands_words : (cands.all fun c => !(ruledB (c.1 : Int) ⟨(c.2.1 : Int), (c.2.2 : Int)⟩) || (((decide ((wordsS (saidS (c.1 : Int) ⟨(c.2.1 : Int), (c.2.2 : Int)⟩)).2 = 0) && ((wordsS (saidS (c.1 : Int) ⟨(c.2.1 : Int), (c.2.2 : Int)⟩)).1.getD 0 [] == wordK c.1)) && !((wordsS (saidS (c.1 : Int) ⟨(c.2.1 : Int), (c.2.2 : Int)⟩)).1.drop 1 == [])) && decide (ruleV (c.1 : Int) ((wordsS (saidS (c.1 : Int) ⟨(c.2.1 : Int), (c.2.2 : Int)⟩)).1.drop 1) = (⟨(c.2.1 : Int), (c.2.2 : Int)⟩, true)))) = true := by
  decide +kernel
theorem wordK_inj : ∀ a : Nat, a < 9 → ∀ b : Nat, b < 9 → wordK a = wordK b → a = b := by decide +kernel
theorem wordK_ne : ∀ a : Nat, a < 9 → wordK a ≠ [] := by decide +kernel
theorem kS_none {ok : Bool} {ws : List Bs} {P : Pol} {sd : List Bool} : ∀ n, (∀ k, k < n → ((ok && (ws.getD 0 [] == wordK k)) && !(sd.getD k false)) = false) → kS ok ws P sd n = (P, sd, false)
  | 0, _ => rfl
  | n + 1, h => by
    rw [kS, kS_none n (fun k hk => h k (by omega)), stepK, if_neg]
    rw [h n (by omega)]
    decide
theorem kS_one {ws : List Bs} {P : Pol} {sd : List Bool} {k0 : Nat} (h0 : ws.getD 0 [] = wordK k0) (hs : sd.getD k0 false = false) : ∀ n, n ≤ 9 → k0 < n → kS true ws P sd n = ((doS k0 P (ws.drop 1)).1, sd.set k0 true, (doS k0 P (ws.drop 1)).2)
  | 0, _, h => absurd h (Nat.not_lt_zero _)
  | n + 1, h9, h => by
    rw [kS]
    by_cases e : n = k0
    · subst e
      rw [kS_none n (fun k hk => by
        have : ¬ ws.getD 0 [] = wordK k := fun e => by
          have := wordK_inj k (by omega) n (by omega) (e.symm.trans h0)
          omega
        rw [beq_eq_false_iff_ne.2 this]; rfl), stepK, if_pos]
      rw [h0, hs, beq_self_eq_true]; rfl
    · rw [kS_one h0 hs n (by omega) (by omega), stepK, if_neg]
      have : ¬ ws.getD 0 [] = wordK n := fun e2 => e (wordK_inj n (by omega) k0 (by omega) (e2.symm.trans h0))
      rw [beq_eq_false_iff_ne.2 this]; exact Bool.false_ne_true
theorem lineP_hit {s : Bs} {P : Pol} {sd : List Bool} {k : Nat} (hk : k < 9) (h : (wordsS s).2 = 0) (h0 : (wordsS s).1.getD 0 [] = wordK k) (hs : sd.getD k false = false) : lineP s P sd = ((doS k P ((wordsS s).1.drop 1)).1, sd.set k true, (doS k P ((wordsS s).1.drop 1)).2) := by
  unfold lineP
  rw [decide_eq_true h, kS_one h0 hs 9 (Nat.le_refl _) hk]
theorem lineP_seen {s : Bs} {P : Pol} {sd : List Bool} {k : Nat} (hk : k < 9) (h0 : (wordsS s).1.getD 0 [] = wordK k) (hs : sd.getD k false = true) : lineP s P sd = (P, sd, false) := by
  unfold lineP
  refine kS_none 9 fun j hj => ?_
  by_cases e : j = k
  · subst e; rw [hs]; simp
  · have : ¬ (wordsS s).1.getD 0 [] = wordK j := fun e2 => e (wordK_inj j hj k hk (e2.symm.trans h0))
    rw [beq_eq_false_iff_ne.2 this, Bool.and_false]; rfl
theorem lineP_good {s : Bs} {P : Pol} {sd : List Bool} (h : (lineP s P sd).2.2 = true) : ∃ k, k < 9 ∧ (wordsS s).2 = 0 ∧ (wordsS s).1.getD 0 [] = wordK k ∧ sd.getD k false = false ∧ (doS k P ((wordsS s).1.drop 1)).2 = true := by
  by_cases hx : ∃ k, k < 9 ∧ ((decide ((wordsS s).2 = 0) && ((wordsS s).1.getD 0 [] == wordK k)) && !(sd.getD k false)) = true
  · obtain ⟨k, hk, hc⟩ := hx
    simp only [Bool.and_eq_true, decide_eq_true_eq, beq_iff_eq, Bool.not_eq_true'] at hc
    obtain ⟨⟨h1, h2⟩, h3⟩ := hc
    rw [lineP_hit hk h1 h2 h3] at h
    exact ⟨k, hk, h1, h2, h3, h⟩
  · unfold lineP at h
    rw [kS_none 9 (fun k hk => by
      cases hc : ((decide ((wordsS s).2 = 0) && ((wordsS s).1.getD 0 [] == wordK k)) && !(sd.getD k false)) with
      | false => rfl
      | true => exact absurd ⟨k, hk, hc⟩ hx)] at h
    cases h
theorem count_itoa {s : Bs} {m n : Int} (h : countS s m = .ok n) : Lib.itoa n = s := by
  unfold countS at h
  split at h
  · cases h
  · rename_i k hk
    split at h
    · cases h
    · cases h
      obtain ⟨hd, rfl⟩ := ok_size hk
      rw [itoa_nn (by omega)]
      exact dd_of hd
def tk : List Bs := [sTK, sTR, sNK, sND, sLo, sFo]
set_option maxRecDepth 100000 in
theorem tk_none : ∀ s ∈ tk, (cands.find? fun c => matchS s c.1 c.2.1 c.2.2) = none := by
  have h : (tk.all fun s => (cands.find? fun c => matchS s c.1 c.2.1 c.2.2).isNone) = true := by decide +kernel
  intro s hs
  have := List.all_eq_true.1 h s hs
  simpa using this
theorem lineR_tk {s : Bs} {p : Pol} (h : s ∈ tk) : lineR s p = if s = sTK then (5, p) else if s = sTR then (5, { p with time := 3 }) else if s = sNK then (6, p) else if s = sND then (6, { p with note := 4 })
    else if s = sLo then (7, { p with loose := true }) else if s = sFo then (8, { p with force := true }) else (-1, p) := by
  unfold lineR
  rw [tk_none s h]
/-- What the program takes, the document takes. -/
theorem line_back {s : Bs} {P : Pol} {k : Nat} (hk : k < 9) (h : (wordsS s).2 = 0) (h0 : (wordsS s).1.getD 0 [] = wordK k) (hg : (doS k P ((wordsS s).1.drop 1)).2 = true) : 0 ≤ (lineR s P).1 := by
  have hj := words_back h
  generalize (wordsS s).1 = ws at *
  match ws, h0 with
  | [], h0 => exact absurd h0.symm (wordK_ne k hk)
  | w0 :: rest, h0 =>
    obtain rfl : w0 = wordK k := h0
    simp only [List.drop_succ_cons, List.drop_zero] at hg
    have one : ∀ {v : Int} {may : Int}, (oneS rest may).2 = true → ∃ w, rest = [w] ∧ ∃ v, wayS w = (v, true) ∧ (v = 0 ∨ v = may) := by
      intro v may hh
      unfold oneS at hh
      split at hh
      · rename_i hl
        obtain ⟨w, rfl⟩ := List.length_eq_one_iff.1 hl
        simp only [w0S, List.getD_cons_zero, Bool.and_eq_true, Bool.or_eq_true, decide_eq_true_eq] at hh
        exact ⟨w, rfl, (wayS w).1, by rw [← hh.1], hh.2⟩
      · cases hh
    unfold doS at hg
    split at hg
    · rename_i e; subst e
      obtain ⟨w, rfl, v, hw, hv⟩ := one (v := 0) (may := 3) hg
      rcases way_word hw with ⟨rfl, rfl⟩ | ⟨rfl, rfl⟩ | ⟨rfl, rfl⟩ | ⟨rfl, rfl⟩ | ⟨rfl, rfl⟩ <;> simp at hv
      · rw [← hj, show Lib.join [wordK 5, [107, 101, 101, 112]] [32] = sTK from rfl, lineR_tk (by simp [tk]), if_pos rfl]; show (0 : Int) ≤ 5; decide
      · rw [← hj, show Lib.join [wordK 5, [114, 97, 110, 107]] [32] = sTR from rfl, lineR_tk (by simp [tk]), if_neg (by decide), if_pos rfl]; show (0 : Int) ≤ 5; decide
    split at hg
    · rename_i e; subst e
      obtain ⟨w, rfl, v, hw, hv⟩ := one (v := 0) (may := 4) hg
      rcases way_word hw with ⟨rfl, rfl⟩ | ⟨rfl, rfl⟩ | ⟨rfl, rfl⟩ | ⟨rfl, rfl⟩ | ⟨rfl, rfl⟩ <;> simp at hv
      · rw [← hj, show Lib.join [wordK 6, [107, 101, 101, 112]] [32] = sNK from rfl, lineR_tk (by simp [tk]), if_neg (by decide), if_neg (by decide), if_pos rfl]; show (0 : Int) ≤ 6; decide
      · rw [← hj, show Lib.join [wordK 6, [100, 114, 111, 112]] [32] = sND from rfl, lineR_tk (by simp [tk]), if_neg (by decide), if_neg (by decide), if_neg (by decide), if_pos rfl]; show (0 : Int) ≤ 6; decide
    split at hg
    · rename_i e; subst e
      obtain rfl : rest = [] := by
        have : decide ((rest.length : Int) = 0) = true := hg
        rw [decide_eq_true_eq] at this
        exact List.length_eq_zero_iff.1 (by omega)
      rw [← hj, show Lib.join [wordK 7] [32] = sLo from rfl, lineR_tk (by simp [tk]), if_neg (by decide), if_neg (by decide), if_neg (by decide), if_neg (by decide), if_pos rfl]; show (0 : Int) ≤ 7; decide
    split at hg
    · rename_i e; subst e
      obtain rfl : rest = [] := by
        have : decide ((rest.length : Int) = 0) = true := hg
        rw [decide_eq_true_eq] at this
        exact List.length_eq_zero_iff.1 (by omega)
      rw [← hj, show Lib.join [wordK 8] [32] = sFo from rfl, lineR_tk (by simp [tk]), if_neg (by decide), if_neg (by decide), if_neg (by decide), if_neg (by decide), if_neg (by decide), if_pos rfl]; show (0 : Int) ≤ 8; decide
    have hk5 : k < 5 := by omega
    have hwk : wordK k = nameS (k : Int) := by
      unfold wordK
      rw [if_neg (by omega), if_neg (by omega), if_neg (by omega), if_neg (by omega)]
    have hne : rest ≠ [] := by rintro rfl; simp [ruleS] at hg
    rw [ruleS_eq hne] at hg
    have hit : ∀ w n : Nat, w ≤ 3 → n ≤ 16 → ruledB (k : Int) ⟨(w : Int), (n : Int)⟩ = true → saidS (k : Int) ⟨(w : Int), (n : Int)⟩ = s → 0 ≤ (lineR s P).1 := by
      intro w n hw hn h1 h2
      rw [lineR_hit hk5 hw hn (by unfold matchS; rw [h1, h2]; simp)]
      show (0 : Int) ≤ (k : Int)
      omega
    unfold ruleV at hg
    split at hg
    · rename_i hc
      obtain ⟨hc1, hc2⟩ := hc
      obtain ⟨a, b, rfl⟩ : ∃ a b, rest = [a, b] := by
        match rest, hc2 with
        | [a, b], _ => exact ⟨a, b, rfl⟩
      simp only [Bool.and_eq_true, decide_eq_true_eq] at hg
      obtain ⟨⟨g1, g2⟩, g3⟩ := hg
      have hcn : ∃ n, countS b 16 = .ok n := by
        simp only [List.getD_cons_succ, List.getD_cons_zero] at g2
        cases hcb : countS b 16 with
        | ok n => exact ⟨n, rfl⟩
        | error e =>
          exfalso
          rw [hcb] at g2
          unfold countS at hcb
          split at hcb
          · rename_i hz; cases hcb; exact size_err hz g2
          · split at hcb
            · cases hcb; exact absurd g2 (by decide)
            · cases hcb
      obtain ⟨n, hcn⟩ := hcn
      have e2 : wayS a = (2, true) := by
        simp only [w0S, List.getD_cons_zero] at g1 hc1
        rw [← g1, ← hc1]
      simp only [w0S, List.getD_cons_zero, List.getD_cons_succ, hcn, okv, e2] at g3
      have hn : 1 ≤ n ∧ n ≤ 16 := by simpa [ruledB] using g3
      have ea : a = [107, 101, 121, 101, 100] := by
        rcases way_word e2 with ⟨h, _⟩ | ⟨h, _⟩ | ⟨_, h⟩ | ⟨h, _⟩ | ⟨h, _⟩
        · exact absurd h (by decide)
        · exact absurd h (by decide)
        · exact h
        · exact absurd h (by decide)
        · exact absurd h (by decide)
      obtain ⟨m, rfl⟩ := Int.eq_ofNat_of_zero_le (show 0 ≤ n by omega)
      refine hit 2 m (by omega) (by omega) g3 ?_
      rw [← hj, hwk, ea, ← count_itoa hcn]
      simp [saidS, Lib.join]
    · simp only [Bool.and_eq_true, decide_eq_true_eq] at hg
      obtain ⟨⟨g1, g2⟩, g3⟩ := hg
      obtain ⟨a, rfl⟩ := List.length_eq_one_iff.1 g2
      simp only [w0S, List.getD_cons_zero] at g1 g3
      have e2 : wayS a = ((wayS a).1, true) := by rw [← g1]
      generalize (wayS a).1 = v at *
      rcases way_word e2 with ⟨rfl, rfl⟩ | ⟨rfl, rfl⟩ | ⟨rfl, rfl⟩ | ⟨rfl, rfl⟩ | ⟨rfl, rfl⟩
      · exact hit 0 0 (by omega) (by omega) g3 (by rw [← hj, hwk]; simp [saidS, Lib.join])
      · exact hit 1 0 (by omega) (by omega) g3 (by rw [← hj, hwk]; simp [saidS, Lib.join])
      · simp [ruledB] at g3
      · exact hit 3 0 (by omega) (by omega) g3 (by rw [← hj, hwk]; simp [saidS, Lib.join])
      · simp [ruledB] at g3
/-- What the document takes, the program takes. -/
theorem line_fore {s : Bs} {P : Pol} {sd : List Bool} (i5 : sd.getD 5 false = false → P.time = 0) (i6 : sd.getD 6 false = false → P.note = 0) (h : 0 ≤ (lineR s P).1) :
    (wordsS s).2 = 0 ∧ (wordsS s).1.getD 0 [] = wordK (lineR s P).1.toNat ∧ (sd.getD (lineR s P).1.toNat false = false → doS (lineR s P).1.toNat P ((wordsS s).1.drop 1) = ((lineR s P).2, true)) := by
  cases hf : cands.find? fun c => matchS s c.1 c.2.1 c.2.2 with
  | some c =>
    have hc := List.find?_some hf
    have hm := List.mem_of_find?_eq_some hf
    have e : lineR s P = ((c.1 : Int), setR P (c.1 : Int) ⟨(c.2.1 : Int), (c.2.2 : Int)⟩) := by unfold lineR; rw [hf]
    have hw := List.all_eq_true.1 cands_words c hm
    have hc5 := (cands_mem.1 hm).1
    unfold matchS at hc
    simp only [Bool.and_eq_true, beq_iff_eq] at hc
    rw [hc.1, hc.2] at hw
    simp only [Bool.not_true, Bool.false_or, Bool.and_eq_true, decide_eq_true_eq, beq_iff_eq, Bool.not_eq_true', beq_eq_false_iff_ne, ne_eq] at hw
    obtain ⟨⟨⟨h1, h2⟩, h3⟩, h4⟩ := hw
    rw [e]
    simp only [Int.toNat_natCast]
    refine ⟨h1, h2, fun _ => ?_⟩
    unfold doS
    rw [if_neg (by omega), if_neg (by omega), if_neg (by omega), if_neg (by omega), ruleS_eq h3, h4]
  | none =>
    have hR : lineR s P = if s = sTK then (5, P) else if s = sTR then (5, { P with time := 3 }) else if s = sNK then (6, P) else if s = sND then (6, { P with note := 4 })
        else if s = sLo then (7, { P with loose := true }) else if s = sFo then (8, { P with force := true }) else (-1, P) := by unfold lineR; rw [hf]
    rw [hR] at h ⊢
    split
    · rename_i e; subst e
      refine ⟨by decide +kernel, (by show _ = wordK 5; decide +kernel), fun hs => ?_⟩
      have ht := i5 hs
      show ({ P with time := 0 }, true) = (P, true)
      obtain ⟨⟩ := P
      cases ht
      rfl
    split
    · rename_i e; subst e
      exact ⟨by decide +kernel, (by show _ = wordK 5; decide +kernel), fun _ => rfl⟩
    split
    · rename_i e; subst e
      refine ⟨by decide +kernel, (by show _ = wordK 6; decide +kernel), fun hs => ?_⟩
      have ht := i6 hs
      show ({ P with note := 0 }, true) = (P, true)
      obtain ⟨⟩ := P
      cases ht
      rfl
    split
    · rename_i e; subst e
      exact ⟨by decide +kernel, (by show _ = wordK 6; decide +kernel), fun _ => rfl⟩
    split
    · rename_i e; subst e
      exact ⟨by decide +kernel, (by show _ = wordK 7; decide +kernel), fun _ => rfl⟩
    split
    · rename_i e; subst e
      exact ⟨by decide +kernel, (by show _ = wordK 8; decide +kernel), fun _ => rfl⟩
    · rename_i h1 h2 h3 h4 h5 h6
      rw [if_neg h1, if_neg h2, if_neg h3, if_neg h4, if_neg h5, if_neg h6] at h
      exact absurd h (by show ¬ (0 : Int) ≤ -1; decide)
theorem setR_time (P : Pol) (d : Int) (r : Rul) : (setR P d r).time = P.time ∧ (setR P d r).note = P.note := by
  unfold setR
  split; exact ⟨rfl, rfl⟩
  split; exact ⟨rfl, rfl⟩
  split; exact ⟨rfl, rfl⟩
  split; exact ⟨rfl, rfl⟩
  exact ⟨rfl, rfl⟩
theorem lineR_keeps (s : Bs) (P : Pol) : ((lineR s P).1 = 5 ∨ (lineR s P).2.time = P.time) ∧ ((lineR s P).1 = 6 ∨ (lineR s P).2.note = P.note) := by
  unfold lineR
  cases hf : cands.find? fun c => matchS s c.1 c.2.1 c.2.2 with
  | some c => exact ⟨.inr (setR_time _ _ _).1, .inr (setR_time _ _ _).2⟩
  | none =>
    dsimp only
    split; exact ⟨.inl rfl, .inr rfl⟩
    split; exact ⟨.inl rfl, .inr rfl⟩
    split; exact ⟨.inr rfl, .inl rfl⟩
    split; exact ⟨.inr rfl, .inl rfl⟩
    split; exact ⟨.inr rfl, .inr rfl⟩
    split; exact ⟨.inr rfl, .inr rfl⟩
    exact ⟨.inr rfl, .inr rfl⟩
theorem getD_set {sd : List Bool} {k j : Nat} (h : j < sd.length) : (sd.set k true).getD j false = (decide (k = j) || sd.getD j false) := by
  rw [List.getD_eq_getElem?_getD, List.getElem?_set, List.getD_eq_getElem?_getD]
  split
  · rename_i e; subst e
    rw [if_pos h]; simp
  · rename_i e; simp [e]
theorem go_same : ∀ (ls : List Bs) (i : Int) (P : Pol) (sd : List Bool), sd.length = 9 → (sd.getD 5 false = false → P.time = 0) → (sd.getD 6 false = false → P.note = 0) → goP i ls P sd = goR i ls P sd
  | [], i, P, sd, _, _, _ => rfl
  | s :: r, i, P, sd, h9, i5, i6 => by
    have eP : goP i (s :: r) P sd = if (lineP s P sd).2.2 = true then goP (i + 1) r (lineP s P sd).1 (lineP s P sd).2.1 else (P0, i + 1) := rfl
    have eR : goR i (s :: r) P sd = if (lineR s P).1 < 0 ∨ sd.getD (lineR s P).1.toNat false = true then (P0, i + 1) else goR (i + 1) r (lineR s P).2 (sd.set (lineR s P).1.toNat true) := rfl
    have hr := lineR_rng s P
    by_cases hn : (lineR s P).1 < 0
    · rw [eR, if_pos (.inl hn), eP, if_neg]
      intro hg
      obtain ⟨k, hk, h1, h2, h3, h4⟩ := lineP_good hg
      have := line_back (P := P) hk h1 h2 h4
      omega
    · obtain ⟨h1, h2, h3⟩ := line_fore i5 i6 (s := s) (by omega)
      have hk : (lineR s P).1.toNat < 9 := by omega
      cases hs : sd.getD (lineR s P).1.toNat false with
      | true =>
        rw [eR, if_pos (.inr hs), eP, lineP_seen hk h2 hs, if_neg Bool.false_ne_true]
      | false =>
        have h4 := h3 hs
        rw [eR, if_neg (by rintro (h | h); exact hn h; rw [hs] at h; cases h), eP, lineP_hit hk h1 h2 hs, h4, if_pos rfl]
        refine go_same r _ _ _ (by simpa using h9) (fun h => ?_) (fun h => ?_)
        · rw [getD_set (by omega)] at h
          simp only [Bool.or_eq_false_iff, decide_eq_false_iff_not] at h
          rcases (lineR_keeps s P).1 with e | e
          · rw [e] at h; exact absurd rfl h.1
          · rw [e]; exact i5 h.2
        · rw [getD_set (by omega)] at h
          simp only [Bool.or_eq_false_iff, decide_eq_false_iff_not] at h
          rcases (lineR_keeps s P).2 with e | e
          · rw [e] at h; exact absurd rfl h.1
          · rw [e]; exact i6 h.2
theorem lines_pos (s : Bs) : 0 ≤ (linesS s).2 := by
  unfold linesS
  split
  · exact Int.le_refl _
  · show (0 : Int) ≤ _ + 1
    omega
theorem parse_same (s : Bs) : parseP s = parseR s := by
  unfold parseP parseR
  have := lines_pos s
  by_cases h : (linesS s).2 = 0
  · rw [if_pos h, if_neg (by omega)]
    exact go_same _ _ _ _ rfl (fun _ => rfl) (fun _ => rfl)
  · rw [if_neg h, if_pos (by omega)]
/-! Chapter 25: the printed policy's lines, in whatever order. -/
def ruleAt (p : Pol) (k : Nat) : Rul := match k with
  | 0 => p.r0
  | 1 => p.r1
  | 2 => p.r2
  | 3 => p.r3
  | _ => p.r4
def sLine (p : Pol) (k : Nat) : Bs := if k = 5 then (if p.time = 0 then sTK else sTR) else if k = 6 then (if p.note = 0 then sNK else sND) else if k = 7 then sLo else if k = 8 then sFo else saidS (k : Int) (ruleAt p k)
def keysP (p : Pol) : List Nat := [0, 1, 2, 3, 4, 5, 6] ++ (if p.loose = true then [7] else []) ++ (if p.force = true then [8] else [])
def printR (p : Pol) : Bs := if rightB p = true then ((keysP p).map (sLine p)).flatMap (· ++ [10]) else []
def mix (p : Pol) (sd : List Bool) : Pol := ⟨if sd.getD 0 false = true then p.r0 else ⟨0, 0⟩, if sd.getD 1 false = true then p.r1 else ⟨0, 0⟩, if sd.getD 2 false = true then p.r2 else ⟨0, 0⟩, if sd.getD 3 false = true then p.r3 else ⟨0, 0⟩, if sd.getD 4 false = true then p.r4 else ⟨0, 0⟩, if sd.getD 5 false = true then p.time else 0, if sd.getD 6 false = true then p.note else 0, sd.getD 7 false && p.loose, sd.getD 8 false && p.force⟩
theorem keys_lt {p : Pol} {k : Nat} (h : k ∈ keysP p) : k < 9 := by
  unfold keysP at h
  simp only [List.mem_append, List.mem_cons, List.not_mem_nil, or_false] at h
  rcases h with (h | h) | h
  · omega
  · split at h <;> simp at h; omega
  · split at h <;> simp at h; omega
theorem keys_78 {p : Pol} : (7 ∈ keysP p → p.loose = true) ∧ (8 ∈ keysP p → p.force = true) := by
  unfold keysP
  constructor
  · intro h
    cases hl : p.loose with
    | true => rfl
    | false => rw [hl] at h; exfalso; revert h; cases p.force <;> decide
  · intro h
    cases hl : p.force with
    | true => rfl
    | false => rw [hl] at h; exfalso; revert h; cases p.loose <;> decide
theorem keys_nodup (p : Pol) : (keysP p).Nodup := by
  unfold keysP
  cases p.loose <;> cases p.force <;> decide
theorem keys_len (p : Pol) : (keysP p).length = 7 ∨ (keysP p).length = 8 ∨ (keysP p).length = 9 := by
  unfold keysP
  cases p.loose <;> cases p.force <;> decide
theorem keys_7 (p : Pol) (k : Nat) (h : k < 7) : k ∈ keysP p := by
  unfold keysP
  simp only [List.mem_append, List.mem_cons]
  left; left
  omega
theorem ruled_nat {d : Int} {r : Rul} (h : ruledB d r = true) : ∃ w n : Nat, r = ⟨(w : Int), (n : Int)⟩ ∧ w ≤ 3 ∧ n ≤ 16 := by
  obtain ⟨w, n⟩ := r
  unfold ruledB at h
  simp only [Bool.or_eq_true, Bool.and_eq_true, decide_eq_true_eq] at h
  refine ⟨w.toNat, n.toNat, ?_, by omega, by omega⟩
  rw [Int.toNat_of_nonneg (by omega), Int.toNat_of_nonneg (by omega)]
theorem right_rule {p : Pol} (h : rightB p = true) {k : Nat} (hk : k < 5) : ruledB (k : Int) (ruleAt p k) = true := by
  unfold rightB at h
  simp only [Bool.and_eq_true] at h
  obtain ⟨h0, h1, h2, h3, h4, _⟩ := h
  match k, hk with
  | 0, _ => exact h0
  | 1, _ => exact h1
  | 2, _ => exact h2
  | 3, _ => exact h3
  | 4, _ => exact h4
theorem right_time {p : Pol} (h : rightB p = true) : (p.time = 0 ∨ p.time = 3) ∧ (p.note = 0 ∨ p.note = 4) := by
  unfold rightB at h
  simp only [Bool.and_eq_true, Bool.or_eq_true, decide_eq_true_eq] at h
  exact h.2.2.2.2.2
theorem said9 {sd : List Bool} (h : sd.length = 9) : ∃ b0 b1 b2 b3 b4 b5 b6 b7 b8, sd = [b0, b1, b2, b3, b4, b5, b6, b7, b8] := by
  match sd, h with
  | [b0, b1, b2, b3, b4, b5, b6, b7, b8], _ => exact ⟨_, _, _, _, _, _, _, _, _, rfl⟩
/-- A line of the printed policy says its key. -/
theorem lineR_key {p : Pol} (hp : rightB p = true) {k : Nat} (hk : k ∈ keysP p) (Q : Pol) : lineR (sLine p k) Q = ((k : Int), if k = 5 then (if p.time = 0 then Q else { Q with time := p.time }) else if k = 6 then (if p.note = 0 then Q else { Q with note := p.note }) else if k = 7 then { Q with loose := true } else if k = 8 then { Q with force := true } else setR Q (k : Int) (ruleAt p k)) := by
  have h9 := keys_lt hk
  obtain ⟨ht, hn⟩ := right_time hp
  unfold sLine
  by_cases e5 : k = 5
  · subst e5
    show lineR (if p.time = 0 then sTK else sTR) Q = ((5 : Int), if p.time = 0 then Q else { Q with time := p.time })
    split
    · rw [lineR_tk (by simp [tk]), if_pos rfl]
    · rename_i h0
      have h3 : p.time = 3 := by omega
      rw [lineR_tk (by simp [tk]), if_neg (by decide), if_pos rfl, h3]
  by_cases e6 : k = 6
  · subst e6
    show lineR (if p.note = 0 then sNK else sND) Q = ((6 : Int), if p.note = 0 then Q else { Q with note := p.note })
    split
    · rw [lineR_tk (by simp [tk]), if_neg (by decide), if_neg (by decide), if_pos rfl]
    · rename_i h0
      have h3 : p.note = 4 := by omega
      rw [lineR_tk (by simp [tk]), if_neg (by decide), if_neg (by decide), if_neg (by decide), if_pos rfl, h3]
  by_cases e7 : k = 7
  · subst e7
    show lineR sLo Q = ((7 : Int), { Q with loose := true })
    rw [lineR_tk (by simp [tk]), if_neg (by decide), if_neg (by decide), if_neg (by decide), if_neg (by decide), if_pos rfl]
  by_cases e8 : k = 8
  · subst e8
    show lineR sFo Q = ((8 : Int), { Q with force := true })
    rw [lineR_tk (by simp [tk]), if_neg (by decide), if_neg (by decide), if_neg (by decide), if_neg (by decide), if_neg (by decide), if_pos rfl]
  rw [if_neg e5, if_neg e6, if_neg e7, if_neg e8, if_neg e5, if_neg e6, if_neg e7, if_neg e8]
  have hr := right_rule hp (k := k) (by omega)
  obtain ⟨w, n, e, hw, hn'⟩ := ruled_nat hr
  rw [e] at hr ⊢
  exact lineR_hit (by omega) hw hn' (by unfold matchS; rw [hr]; simp)
theorem mix_step {p : Pol} (hp : rightB p = true) {k : Nat} (hk : k ∈ keysP p) {sd : List Bool} (h9 : sd.length = 9) (hs : sd.getD k false = false) : (lineR (sLine p k) (mix p sd)).2 = mix p (sd.set k true) := by
  rw [lineR_key hp hk]
  have hl := keys_lt hk
  obtain ⟨h7, h8⟩ := keys_78 (p := p)
  obtain ⟨b0, b1, b2, b3, b4, b5, b6, b7, b8, rfl⟩ := said9 h9
  match k, hl with
  | 0, _ => rfl
  | 1, _ => rfl
  | 2, _ => rfl
  | 3, _ => rfl
  | 4, _ => rfl
  | 5, _ =>
    cases hs
    show (if p.time = 0 then _ else _ : Pol) = _
    split
    · rename_i e; simp [mix, e]
    · rfl
  | 6, _ =>
    cases hs
    show (if p.note = 0 then _ else _ : Pol) = _
    split
    · rename_i e; simp [mix, e]
    · rfl
  | 7, _ => simp [mix, h7 hk]
  | 8, _ => simp [mix, h8 hk]
def setAll : List Nat → List Bool → List Bool
  | [], sd => sd
  | k :: r, sd => setAll r (sd.set k true)
theorem setAll_get : ∀ (ks : List Nat) (sd : List Bool) (j : Nat), j < sd.length → (setAll ks sd).getD j false = (decide (j ∈ ks) || sd.getD j false)
  | [], sd, j, h => by simp [setAll]
  | k :: r, sd, j, h => by
    rw [setAll, setAll_get r _ _ (by simpa using h), getD_set h]
    by_cases e : k = j
    · subst e; simp
    · have e' : ¬ j = k := fun x => e x.symm
      rw [decide_eq_false e, Bool.false_or]
      congr 1
      simp [e']
theorem goR_keys {p : Pol} (hp : rightB p = true) : ∀ (ks : List Nat) (i : Int) (sd : List Bool) (rest : List Bs), sd.length = 9 → (∀ k ∈ ks, k ∈ keysP p) → ks.Nodup → (∀ k ∈ ks, sd.getD k false = false) →
    goR i (ks.map (sLine p) ++ rest) (mix p sd) sd = goR (i + (ks.length : Int)) rest (mix p (setAll ks sd)) (setAll ks sd)
  | [], i, sd, rest, _, _, _, _ => by simp [setAll]
  | k :: r, i, sd, rest, h9, hk, hn, hs => by
    have hkm := hk k (List.mem_cons_self)
    have h1 : (lineR (sLine p k) (mix p sd)).1 = (k : Int) := by rw [lineR_key hp hkm]
    have h2 := mix_step hp hkm h9 (hs k List.mem_cons_self)
    obtain ⟨hn1, hn2⟩ := List.nodup_cons.1 hn
    rw [List.map_cons, List.cons_append, goR, if_neg, h2, h1, Int.toNat_natCast, goR_keys hp r _ _ rest (by simpa using h9) (fun j hj => hk j (List.mem_cons_of_mem _ hj)) hn2, setAll]
    · congr 1
      simp only [List.length_cons]; omega
    · intro j hj
      rw [getD_set (by rw [h9]; exact keys_lt (hk j (List.mem_cons_of_mem _ hj)))]
      rw [hs j (List.mem_cons_of_mem _ hj), Bool.or_false, decide_eq_false_iff_not]
      rintro rfl
      exact hn1 hj
    · rw [h1, Int.toNat_natCast, hs k List.mem_cons_self]
      simp only [Bool.false_eq_true, or_false]
      omega
def z9 : List Bool := List.replicate 9 false
theorem mix_zero (p : Pol) : mix p z9 = P0 := rfl
/-- A key that may lack: what it says is so anyway. -/
def mayLack (p : Pol) (k : Nat) : Bool := if k < 5 then decide (ruleAt p k = ⟨0, 0⟩) else if k = 5 then decide (p.time = 0) else if k = 6 then decide (p.note = 0) else false
theorem mix_done {p : Pol} {ks : List Nat} (h : ∀ k ∈ keysP p, k ∈ ks ∨ mayLack p k = true) : mix p (setAll ks z9) = p := by
  have hg : ∀ j, j < 9 → (setAll ks z9).getD j false = decide (j ∈ ks) := fun j hj => by
    rw [setAll_get _ _ _ (by simpa [z9] using hj)]
    have : z9.getD j false = false := by
      unfold z9
      rw [List.getD_eq_getElem?_getD, List.getElem?_replicate]
      split <;> rfl
    rw [this, Bool.or_false]
  have h7 := fun k hk => h k (keys_7 p k hk)
  obtain ⟨r0, r1, r2, r3, r4, time, note, loose, force⟩ := p
  unfold mix
  have e0 : (if (setAll ks z9).getD 0 false = true then r0 else ⟨0, 0⟩) = r0 := by
    rw [hg 0 (by omega)]
    split
    · rfl
    · rename_i hx
      rcases h7 0 (by omega) with h | h
      · exact absurd (decide_eq_true h) hx
      · exact (of_decide_eq_true h : r0 = ⟨0, 0⟩).symm
  have e1 : (if (setAll ks z9).getD 1 false = true then r1 else ⟨0, 0⟩) = r1 := by
    rw [hg 1 (by omega)]
    split
    · rfl
    · rename_i hx
      rcases h7 1 (by omega) with h | h
      · exact absurd (decide_eq_true h) hx
      · exact (of_decide_eq_true h : r1 = ⟨0, 0⟩).symm
  have e2 : (if (setAll ks z9).getD 2 false = true then r2 else ⟨0, 0⟩) = r2 := by
    rw [hg 2 (by omega)]
    split
    · rfl
    · rename_i hx
      rcases h7 2 (by omega) with h | h
      · exact absurd (decide_eq_true h) hx
      · exact (of_decide_eq_true h : r2 = ⟨0, 0⟩).symm
  have e3 : (if (setAll ks z9).getD 3 false = true then r3 else ⟨0, 0⟩) = r3 := by
    rw [hg 3 (by omega)]
    split
    · rfl
    · rename_i hx
      rcases h7 3 (by omega) with h | h
      · exact absurd (decide_eq_true h) hx
      · exact (of_decide_eq_true h : r3 = ⟨0, 0⟩).symm
  have e4 : (if (setAll ks z9).getD 4 false = true then r4 else ⟨0, 0⟩) = r4 := by
    rw [hg 4 (by omega)]
    split
    · rfl
    · rename_i hx
      rcases h7 4 (by omega) with h | h
      · exact absurd (decide_eq_true h) hx
      · exact (of_decide_eq_true h : r4 = ⟨0, 0⟩).symm
  have e5 : (if (setAll ks z9).getD 5 false = true then time else 0) = time := by
    rw [hg 5 (by omega)]
    split
    · rfl
    · rename_i hx
      rcases h7 5 (by omega) with h | h
      · exact absurd (decide_eq_true h) hx
      · exact (of_decide_eq_true h : time = 0).symm
  have e6 : (if (setAll ks z9).getD 6 false = true then note else 0) = note := by
    rw [hg 6 (by omega)]
    split
    · rfl
    · rename_i hx
      rcases h7 6 (by omega) with h | h
      · exact absurd (decide_eq_true h) hx
      · exact (of_decide_eq_true h : note = 0).symm
  have e7 : ((setAll ks z9).getD 7 false && loose) = loose := by
    cases loose with
    | false => exact Bool.and_false _
    | true =>
      rcases h 7 (by simp [keysP]) with h | h
      · rw [hg 7 (by omega), decide_eq_true h]; rfl
      · cases h
  have e8 : ((setAll ks z9).getD 8 false && force) = force := by
    cases force with
    | false => exact Bool.and_false _
    | true =>
      rcases h 8 (by simp [keysP]) with h | h
      · rw [hg 8 (by omega), decide_eq_true h]; rfl
      · cases h
  dsimp only
  rw [e0, e1, e2, e3, e4, e5, e6, e7, e8]
theorem lines_of : ∀ (ls : List Bs), (∀ l ∈ ls, 10 ∉ l) → splitS 10 (ls.flatMap (· ++ [10])) = ls ++ [[]]
  | [], _ => rfl
  | l :: r, h => by
    rw [List.flatMap_cons, List.append_assoc]
    show splitS 10 (l ++ 10 :: r.flatMap (· ++ [10])) = _
    rw [split_app 10 l _ (h l List.mem_cons_self), lines_of r fun x hx => h x (List.mem_cons_of_mem _ hx)]
    rfl
theorem pcs_of {ls : List Bs} (h : ∀ l ∈ ls, 10 ∉ l) : pcs 10 (ls.flatMap (· ++ [10])) = ls := by
  unfold pcs
  rw [lines_of ls h]
  simp
theorem linesS_of {ls : List Bs} (h : ∀ l ∈ ls, 10 ∉ l) : linesS (ls.flatMap (· ++ [10])) = (ls, 0) := by
  unfold linesS
  have e : lst 10 (ls.flatMap (· ++ [10])) = [] := by
    unfold lst
    simp [lines_of ls h]
  rw [if_pos e, pcs_of h]
def sKeep : Bs := [32, 107, 101, 101, 112, 10]
def endsK (l : Bs) : Bool := decide (6 ≤ (l ++ [10]).length) && ((l ++ [10]).drop ((l ++ [10]).length - 6) == sKeep)
set_option maxRecDepth 100000 in
theorem cands_plain : (cands.all fun c => !(ruledB (c.1 : Int) ⟨(c.2.1 : Int), (c.2.2 : Int)⟩) || ((decide (10 ∉ saidS (c.1 : Int) ⟨(c.2.1 : Int), (c.2.2 : Int)⟩) && decide ((saidS (c.1 : Int) ⟨(c.2.1 : Int), (c.2.2 : Int)⟩).length ≤ 40)) && (endsK (saidS (c.1 : Int) ⟨(c.2.1 : Int), (c.2.2 : Int)⟩) == decide ((⟨(c.2.1 : Int), (c.2.2 : Int)⟩ : Rul) = ⟨0, 0⟩)))) = true := by
  decide +kernel
theorem sLine_plain {p : Pol} (hp : rightB p = true) {k : Nat} (hk : k ∈ keysP p) : 10 ∉ sLine p k ∧ (sLine p k).length ≤ 40 ∧ endsK (sLine p k) = mayLack p k := by
  have h9 := keys_lt hk
  unfold sLine mayLack
  by_cases e5 : k = 5
  · subst e5
    show 10 ∉ (if p.time = 0 then sTK else sTR) ∧ (if p.time = 0 then sTK else sTR).length ≤ 40 ∧ endsK (if p.time = 0 then sTK else sTR) = decide (p.time = 0)
    by_cases e : p.time = 0
    · rw [if_pos e, decide_eq_true e]; decide +kernel
    · rw [if_neg e, decide_eq_false e]; decide +kernel
  by_cases e6 : k = 6
  · subst e6
    show 10 ∉ (if p.note = 0 then sNK else sND) ∧ (if p.note = 0 then sNK else sND).length ≤ 40 ∧ endsK (if p.note = 0 then sNK else sND) = decide (p.note = 0)
    by_cases e : p.note = 0
    · rw [if_pos e, decide_eq_true e]; decide +kernel
    · rw [if_neg e, decide_eq_false e]; decide +kernel
  by_cases e7 : k = 7
  · subst e7; show 10 ∉ sLo ∧ sLo.length ≤ 40 ∧ endsK sLo = false; decide +kernel
  by_cases e8 : k = 8
  · subst e8; show 10 ∉ sFo ∧ sFo.length ≤ 40 ∧ endsK sFo = false; decide +kernel
  rw [if_neg e5, if_neg e6, if_neg e7, if_neg e8, if_pos (by omega)]
  have hr := right_rule hp (k := k) (by omega)
  obtain ⟨w, n, e, hw, hn'⟩ := ruled_nat hr
  rw [e] at hr ⊢
  have := List.all_eq_true.1 cands_plain (k, w, n) (cands_mem.2 ⟨by omega, hw, hn'⟩)
  rw [hr] at this
  simp only [Bool.not_true, Bool.false_or, Bool.and_eq_true, decide_eq_true_eq, beq_iff_eq] at this
  exact ⟨this.1.1, this.1.2, this.2⟩
/-- Lines of the printed policy, none twice, none lacking that may not: the policy. -/
theorem parse_keys {p : Pol} (hp : rightB p = true) {ks : List Nat} (hk : ∀ k ∈ ks, k ∈ keysP p) (hn : ks.Nodup) (hall : ∀ k ∈ keysP p, k ∈ ks ∨ mayLack p k = true) : parseP ((ks.map (sLine p)).flatMap (· ++ [10])) = (p, 0) := by
  rw [parse_same]
  unfold parseR
  rw [linesS_of (fun l hl => by
    obtain ⟨k, hk', rfl⟩ := List.mem_map.1 hl
    exact (sLine_plain hp (hk k hk')).1)]
  rw [if_neg (show ¬ (0 : Int) < 0 by decide)]
  have h := goR_keys hp ks 0 z9 [] rfl hk hn (fun k hk' => by
    have := keys_lt (hk k hk')
    unfold z9
    rw [List.getD_eq_getElem?_getD, List.getElem?_replicate]
    split <;> rfl)
  rw [List.append_nil, mix_zero] at h
  show goR 0 (ks.map (sLine p)) P0 z9 = _
  rw [h, mix_done hall]
  rfl
/-- The keys, turned. -/
def tkeys (p : Pol) (a i : Nat) : List Nat := (List.range i).map fun j => (keysP p).getD ((j + a) % (keysP p).length) 0
def turnS (p : Pol) (a i : Nat) : Bs := ((tkeys p a i).map (sLine p)).flatMap (· ++ [10])
theorem printR_len {p : Pol} : (printR p).length ≤ 369 := by
  unfold printR
  split
  · rename_i hp
    have h : ∀ (ks : List Nat), (∀ k ∈ ks, k ∈ keysP p) → ((ks.map (sLine p)).flatMap (· ++ [10])).length ≤ ks.length * 41 := by
      intro ks
      induction ks with
      | nil => intro _; simp
      | cons k r ih =>
        intro hk
        have h1 := (sLine_plain hp (hk k List.mem_cons_self)).2.1
        have h2 := ih fun j hj => hk j (List.mem_cons_of_mem _ hj)
        simp only [List.map_cons, List.flatMap_cons, List.length_append, List.length_cons, List.length_nil] at h2 ⊢
        omega
    have := h (keysP p) fun _ h => h
    have := keys_len p
    omega
  · simp
theorem turn_len {p : Pol} (hp : rightB p = true) {a i : Nat} (hi : i ≤ (keysP p).length) : (turnS p a i).length ≤ 369 := by
  have h : ∀ (ks : List Nat), (∀ k ∈ ks, k ∈ keysP p) → ((ks.map (sLine p)).flatMap (· ++ [10])).length ≤ ks.length * 41 := by
    intro ks
    induction ks with
    | nil => intro _; simp
    | cons k r ih =>
      intro hk
      have h1 := (sLine_plain hp (hk k List.mem_cons_self)).2.1
      have h2 := ih fun j hj => hk j (List.mem_cons_of_mem _ hj)
      simp only [List.map_cons, List.flatMap_cons, List.length_append, List.length_cons, List.length_nil] at h2 ⊢
      omega
  have hpos := keys_len p
  have := h (tkeys p a i) fun k hk => by
    obtain ⟨j, hj, rfl⟩ := List.mem_map.1 hk
    have hlt : (j + a) % (keysP p).length < (keysP p).length := Nat.mod_lt _ (by omega)
    rw [List.getD_eq_getElem?_getD, List.getElem?_eq_getElem hlt]
    exact List.getElem_mem _
  have hl : (tkeys p a i).length = i := by simp [tkeys]
  unfold turnS
  rw [hl] at this
  omega
theorem right_size {p : Pol} (h : rightB p = true) : ((0 ≤ p.r0.size ∧ p.r0.size ≤ 16) ∧ (0 ≤ p.r1.size ∧ p.r1.size ≤ 16)) ∧ ((0 ≤ p.r2.size ∧ p.r2.size ≤ 16) ∧ (0 ≤ p.r3.size ∧ p.r3.size ≤ 16)) ∧ (0 ≤ p.r4.size ∧ p.r4.size ≤ 16) := by
  have hs : ∀ {d : Int} {r : Rul}, ruledB d r = true → 0 ≤ r.size ∧ r.size ≤ 16 := by
    intro d r hr
    obtain ⟨w, n, rfl, _, hn⟩ := ruled_nat hr
    dsimp only
    omega
  exact ⟨⟨hs (right_rule h (k := 0) (by decide)), hs (right_rule h (k := 1) (by decide))⟩, ⟨hs (right_rule h (k := 2) (by decide)), hs (right_rule h (k := 3) (by decide))⟩, hs (right_rule h (k := 4) (by decide))⟩
end Go.Proofs.YtngoaapgdfohjaaGreatDoor.T28
