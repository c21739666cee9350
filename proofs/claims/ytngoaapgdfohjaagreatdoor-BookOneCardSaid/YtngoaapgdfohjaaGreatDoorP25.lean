/- Own text. -/
import Derived.Test.YtngoaapgdfohjaaGreatDoorP1
set_option linter.unusedVariables false
set_option linter.unusedSimpArgs false
namespace Go.Proofs.YtngoaapgdfohjaaGreatDoor.T28
open Go Go.Proofs.YtngoaapgdfohjaaGreatDoor.X
def domW : List Bs := [[99, 108, 105, 101, 110, 116], [111, 98, 106, 101, 99, 116], [118, 97, 108, 117, 101], [102, 105, 101, 108, 100], [111, 114, 100, 101, 114]]
def wayW : List Bs := [[107, 101, 101, 112], [111, 114, 100, 105, 110, 97, 108], [107, 101, 121, 101, 100], [114, 97, 110, 107], [100, 114, 111, 112]]
/-- The number of a way's word. -/
def wayS (s : Bs) : Int × Bool := if [107, 101, 101, 112] == s then (0, true) else if [111, 114, 100, 105, 110, 97, 108] == s then (1, true) else if [107, 101, 121, 101, 100] == s then (2, true) else if [114, 97, 110, 107] == s then (3, true) else if [100, 114, 111, 112] == s then (4, true) else (0, false)
def nameS (d : Int) : Bs := if d = 0 then [99, 108, 105, 101, 110, 116] else if d = 1 then [111, 98, 106, 101, 99, 116] else if d = 2 then [118, 97, 108, 117, 101] else if d = 3 then [102, 105, 101, 108, 100] else [111, 114, 100, 101, 114]
def saidS (d : Int) (r : Rul) : Bs := if r.way = 0 then nameS d ++ [32, 107, 101, 101, 112] else if r.way = 1 then nameS d ++ [32, 111, 114, 100, 105, 110, 97, 108] else if r.way = 2 then (nameS d ++ [32, 107, 101, 121, 101, 100, 32]) ++ Lib.itoa r.size else nameS d ++ [32, 114, 97, 110, 107]
def setR (p : Pol) (d : Int) (r : Rul) : Pol := if d = 0 then { p with r0 := r } else if d = 1 then { p with r1 := r } else if d = 2 then { p with r2 := r } else if d = 3 then { p with r3 := r } else { p with r4 := r }
def sTK : Bs := [116, 105, 109, 101, 32, 107, 101, 101, 112]
def sTR : Bs := [116, 105, 109, 101, 32, 114, 97, 110, 107]
def sNK : Bs := [110, 111, 116, 101, 32, 107, 101, 101, 112]
def sND : Bs := [110, 111, 116, 101, 32, 100, 114, 111, 112]
def sLo : Bs := [108, 111, 111, 115, 101]
def sFo : Bs := [102, 111, 114, 99, 101]
/-- All (domain, way, size). -/
def cands : List (Nat × Nat × Nat) := (List.range 5).flatMap fun d => (List.range 4).flatMap fun w => (List.range 17).map fun n => (d, w, n)
theorem cands_mem {c : Nat × Nat × Nat} : c ∈ cands ↔ c.1 < 5 ∧ c.2.1 ≤ 3 ∧ c.2.2 ≤ 16 := by
  obtain ⟨d, w, n⟩ := c
  simp only [cands, List.mem_flatMap, List.mem_range, List.mem_map, Prod.mk.injEq]
  constructor
  · rintro ⟨a, ha, b, hb, e, he, rfl, rfl, rfl⟩
    exact ⟨ha, by omega, by omega⟩
  · rintro ⟨h1, h2, h3⟩
    exact ⟨d, h1, w, by omega, n, by omega, rfl, rfl, rfl⟩
def w0S (l : List Bs) : Int × Bool := wayS (l.getD 0 [])
def oneS (l : List Bs) (may : Int) : Int × Bool := if l.length = 1 then ((w0S l).1, (w0S l).2 && (decide ((w0S l).1 = 0) || decide ((w0S l).1 = may))) else (0, false)
def ruleS (d : Int) (P : Pol) (l : List Bs) : Pol × Bool :=
  if l.length = 0 then (P, false)
  else if (w0S l).1 = 2 ∧ l.length = 2 then (setR P d ⟨(w0S l).1, okv (countS (l.getD 1 []) 16)⟩, ((w0S l).2 && decide (erv (countS (l.getD 1 []) 16) = 0)) && ruledB d ⟨(w0S l).1, okv (countS (l.getD 1 []) 16)⟩)
  else (setR P d ⟨(w0S l).1, 0⟩, ((w0S l).2 && decide (l.length = 1)) && ruledB d ⟨(w0S l).1, 0⟩)
def pcE (P : Pol) : List (Nat × Value) := [(0, .int .i64 P.r0.way), (1, .int .i64 P.r0.size), (2, .int .i64 P.r1.way), (3, .int .i64 P.r1.size), (4, .int .i64 P.r2.way), (5, .int .i64 P.r2.size), (6, .int .i64 P.r3.way), (7, .int .i64 P.r3.size), (8, .int .i64 P.r4.way), (9, .int .i64 P.r4.size), (10, .int .i64 P.time), (11, .int .i64 P.note), (12, .bool P.loose), (13, .bool P.force)]
def timeS (P : Pol) (l : List Bs) : Pol × Bool := ({ P with time := (oneS l 3).1 }, (oneS l 3).2)
def noteP (P : Pol) (l : List Bs) : Pol × Bool := ({ P with note := (oneS l 4).1 }, (oneS l 4).2)
def looseS (P : Pol) (l : List Bs) : Pol × Bool := ({ P with loose := true }, decide ((l.length : Int) = 0))
def forceS (P : Pol) (l : List Bs) : Pol × Bool := ({ P with force := true }, decide ((l.length : Int) = 0))
def wordK (k : Nat) : Bs := if k = 5 then [116, 105, 109, 101] else if k = 6 then [110, 111, 116, 101] else if k = 7 then [108, 111, 111, 115, 101] else if k = 8 then [102, 111, 114, 99, 101] else nameS (k : Int)
/-- What lies in a kind: its function. -/
def P0 : Pol := ⟨⟨0, 0⟩, ⟨0, 0⟩, ⟨0, 0⟩, ⟨0, 0⟩, ⟨0, 0⟩, 0, 0, false, false⟩
def doS (k : Nat) (P : Pol) (l : List Bs) : Pol × Bool := if k = 5 then timeS P l else if k = 6 then noteP P l else if k = 7 then looseS P l else if k = 8 then forceS P l else ruleS (k : Int) P l
set_option maxRecDepth 100000 in
/-- One kind's turn at a line's words. -/
def stepK (ok : Bool) (ws : List Bs) (k : Nat) (x : Pol × List Bool × Bool) : Pol × List Bool × Bool :=
  if ((ok && (ws.getD 0 [] == wordK k)) && !(x.2.1.getD k false)) = true then ((doS k x.1 (ws.drop 1)).1, x.2.1.set k true, (doS k x.1 (ws.drop 1)).2) else x
def kS (ok : Bool) (ws : List Bs) (P : Pol) (sd : List Bool) : Nat → Pol × List Bool × Bool
  | 0 => (P, sd, false)
  | k + 1 => stepK ok ws k (kS ok ws P sd k)
def lineP (s : Bs) (P : Pol) (sd : List Bool) : Pol × List Bool × Bool := kS (decide ((wordsS s).2 = 0)) (wordsS s).1 P sd 9
def goP : Int → List Bs → Pol → List Bool → Pol × Int
  | _, [], P, _ => (P, 0)
  | i, s :: r, P, sd => if (lineP s P sd).2.2 = true then goP (i + 1) r (lineP s P sd).1 (lineP s P sd).2.1 else (P0, i + 1)
def parseP (t : Bs) : Pol × Int := if (linesS t).2 = 0 then goP 0 (linesS t).1 P0 (List.replicate 9 false) else (P0, (linesS t).2)
def failC (n : Int) : Int := if n = 0 then 0 else 6
theorem kS_hit {ok : Bool} {ws : List Bs} {P : Pol} {sd : List Bool} {z : Nat × Pol × List Bool × Bool} (h : kS ok ws P sd z.1 = z.2) (hc : ((ok && (ws.getD 0 [] == wordK z.1)) && !(z.2.2.1.getD z.1 false)) = true) : kS ok ws P sd (z.1 + 1) = ((doS z.1 z.2.1 (ws.drop 1)).1, z.2.2.1.set z.1 true, (doS z.1 z.2.1 (ws.drop 1)).2) := by
  rw [kS, h, stepK, if_pos hc]
theorem kS_miss {ok : Bool} {ws : List Bs} {P : Pol} {sd : List Bool} {z : Nat × Pol × List Bool × Bool} (h : kS ok ws P sd z.1 = z.2) (hc : ((ok && (ws.getD 0 [] == wordK z.1)) && !(z.2.2.1.getD z.1 false)) = false) : kS ok ws P sd (z.1 + 1) = z.2 := by
  rw [kS, h, stepK, if_neg (by rw [hc]; decide)]
theorem goP_step {i : Int} {ls : List Bs} {n : Nat} {x : Bs} {P : Pol} {sd : List Bool} {h : n < ls.length} (ex : ls[n] = x) : goP i (ls.drop n) P sd = if (lineP x P sd).2.2 = true then goP (i + 1) (ls.drop (n + 1)) (lineP x P sd).1 (lineP x P sd).2.1 else (P0, i + 1) := by
  rw [List.drop_eq_getElem_cons h, ex]
  rfl
/-! The plain law of chapter 25: the program's parse is the document's. -/
def ruleV (d : Int) (l : List Bs) : Rul × Bool :=
  if (w0S l).1 = 2 ∧ l.length = 2 then (⟨(w0S l).1, okv (countS (l.getD 1 []) 16)⟩, ((w0S l).2 && decide (erv (countS (l.getD 1 []) 16) = 0)) && ruledB d ⟨(w0S l).1, okv (countS (l.getD 1 []) 16)⟩)
  else (⟨(w0S l).1, 0⟩, ((w0S l).2 && decide (l.length = 1)) && ruledB d ⟨(w0S l).1, 0⟩)
theorem ruleS_eq {d : Int} {P : Pol} {l : List Bs} (h : l ≠ []) : ruleS d P l = (setR P d (ruleV d l).1, (ruleV d l).2) := by
  unfold ruleS ruleV
  rw [if_neg (by rw [List.length_eq_zero_iff]; exact h)]
  split <;> rfl
/-! Chapter 25: the printed policy's lines, in whatever order. -/
def ruleAt (p : Pol) (k : Nat) : Rul := match k with
  | 0 => p.r0
  | 1 => p.r1
  | 2 => p.r2
  | 3 => p.r3
  | _ => p.r4
def sLine (p : Pol) (k : Nat) : Bs := if k = 5 then (if p.time = 0 then sTK else sTR) else if k = 6 then (if p.note = 0 then sNK else sND) else if k = 7 then sLo else if k = 8 then sFo else saidS (k : Int) (ruleAt p k)
def keysP (p : Pol) : List Nat := [0, 1, 2, 3, 4, 5, 6] ++ (if p.loose = true then [7] else []) ++ (if p.force = true then [8] else [])
def printR (p : Pol) : Bs := if rightB p = true then ((keysP p).map (sLine p)).flatMap (· ++ [10]) else []
def mix (p : Pol) (sd : List Bool) : Pol := ⟨if sd.getD 0 false = true then p.r0 else ⟨0, 0⟩, if sd.getD 1 false = true then p.r1 else ⟨0, 0⟩, if sd.getD 2 false = true then p.r2 else ⟨0, 0⟩, if sd.getD 3 false = true then p.r3 else ⟨0, 0⟩, if sd.getD 4 false = true then p.r4 else ⟨0, 0⟩, if sd.getD 5 false = true then p.time else 0, if sd.getD 6 false = true then p.note else 0, sd.getD 7 false && p.loose, sd.getD 8 false && p.force⟩
theorem keys_lt {p : Pol} {k : Nat} (h : k ∈ keysP p) : k < 9 := by
  unfold keysP at h
  simp only [List.mem_append, List.mem_cons, List.not_mem_nil, or_false] at h
  rcases h with (h | h) | h
  · omega
  · split at h <;> simp at h; omega
  · split at h <;> simp at h; omega
theorem keys_len (p : Pol) : (keysP p).length = 7 ∨ (keysP p).length = 8 ∨ (keysP p).length = 9 := by
  unfold keysP
  cases p.loose <;> cases p.force <;> decide
theorem keys_7 (p : Pol) (k : Nat) (h : k < 7) : k ∈ keysP p := by
  unfold keysP
  simp only [List.mem_append, List.mem_cons]
  left; left
  omega
theorem ruled_nat {d : Int} {r : Rul} (h : ruledB d r = true) : ∃ w n : Nat, r = ⟨(w : Int), (n : Int)⟩ ∧ w ≤ 3 ∧ n ≤ 16 := by
  obtain ⟨w, n⟩ := r
  unfold ruledB at h
  simp only [Bool.or_eq_true, Bool.and_eq_true, decide_eq_true_eq] at h
  refine ⟨w.toNat, n.toNat, ?_, by omega, by omega⟩
  rw [Int.toNat_of_nonneg (by omega), Int.toNat_of_nonneg (by omega)]
theorem right_rule {p : Pol} (h : rightB p = true) {k : Nat} (hk : k < 5) : ruledB (k : Int) (ruleAt p k) = true := by
  unfold rightB at h
  simp only [Bool.and_eq_true] at h
  obtain ⟨h0, h1, h2, h3, h4, _⟩ := h
  match k, hk with
  | 0, _ => exact h0
  | 1, _ => exact h1
  | 2, _ => exact h2
  | 3, _ => exact h3
  | 4, _ => exact h4
theorem right_time {p : Pol} (h : rightB p = true) : (p.time = 0 ∨ p.time = 3) ∧ (p.note = 0 ∨ p.note = 4) := by
  unfold rightB at h
  simp only [Bool.and_eq_true, Bool.or_eq_true, decide_eq_true_eq] at h
  exact h.2.2.2.2.2
/-- A key that may lack: what it says is so anyway. -/
def mayLack (p : Pol) (k : Nat) : Bool := if k < 5 then decide (ruleAt p k = ⟨0, 0⟩) else if k = 5 then decide (p.time = 0) else if k = 6 then decide (p.note = 0) else false
def sKeep : Bs := [32, 107, 101, 101, 112, 10]
def endsK (l : Bs) : Bool := decide (6 ≤ (l ++ [10]).length) && ((l ++ [10]).drop ((l ++ [10]).length - 6) == sKeep)
set_option maxRecDepth 100000 in
theorem cands_plain : (cands.all fun c => !(ruledB (c.1 : Int) ⟨(c.2.1 : Int), (c.2.2 : Int)⟩) || ((decide (10 ∉ saidS (c.1 : Int) ⟨(c.2.1 : Int), (c.2.2 : Int)⟩) && decide ((saidS (c.1 : Int) ⟨(c.2.1 : Int), (c.2.2 : Int)⟩).length ≤ 40)) && (endsK (saidS (c.1 : Int) ⟨(c.2.1 : Int), (c.2.2 : Int)⟩) == decide ((⟨(c.2.1 : Int), (c.2.2 : Int)⟩ : Rul) = ⟨0, 0⟩)))) = true := by
  decide +kernel
theorem sLine_plain {p : Pol} (hp : rightB p = true) {k : Nat} (hk : k ∈ keysP p) : 10 ∉ sLine p k ∧ (sLine p k).length ≤ 40 ∧ endsK (sLine p k) = mayLack p k := by
  have h9 := keys_lt hk
  unfold sLine mayLack
  by_cases e5 : k = 5
  · subst e5
    show 10 ∉ (if p.time = 0 then sTK else sTR) ∧ (if p.time = 0 then sTK else sTR).length ≤ 40 ∧ endsK (if p.time = 0 then sTK else sTR) = decide (p.time = 0)
    by_cases e : p.time = 0
    · rw [if_pos e, decide_eq_true e]; decide +kernel
    · rw [if_neg e, decide_eq_false e]; decide +kernel
  by_cases e6 : k = 6
  · subst e6
    show 10 ∉ (if p.note = 0 then sNK else sND) ∧ (if p.note = 0 then sNK else sND).length ≤ 40 ∧ endsK (if p.note = 0 then sNK else sND) = decide (p.note = 0)
    by_cases e : p.note = 0
    · rw [if_pos e, decide_eq_true e]; decide +kernel
    · rw [if_neg e, decide_eq_false e]; decide +kernel
  by_cases e7 : k = 7
  · subst e7; show 10 ∉ sLo ∧ sLo.length ≤ 40 ∧ endsK sLo = false; decide +kernel
  by_cases e8 : k = 8
  · subst e8; show 10 ∉ sFo ∧ sFo.length ≤ 40 ∧ endsK sFo = false; decide +kernel
  rw [if_neg e5, if_neg e6, if_neg e7, if_neg e8, if_pos (by omega)]
  have hr := right_rule hp (k := k) (by omega)
  obtain ⟨w, n, e, hw, hn'⟩ := ruled_nat hr
  rw [e] at hr ⊢
  have := List.all_eq_true.1 cands_plain (k, w, n) (cands_mem.2 ⟨by omega, hw, hn'⟩)
  rw [hr] at this
  simp only [Bool.not_true, Bool.false_or, Bool.and_eq_true, decide_eq_true_eq, beq_iff_eq] at this
  exact ⟨this.1.1, this.1.2, this.2⟩
/-- The keys, turned. -/
def tkeys (p : Pol) (a i : Nat) : List Nat := (List.range i).map fun j => (keysP p).getD ((j + a) % (keysP p).length) 0
def turnS (p : Pol) (a i : Nat) : Bs := ((tkeys p a i).map (sLine p)).flatMap (· ++ [10])
theorem printR_len {p : Pol} : (printR p).length ≤ 369 := by
  unfold printR
  split
  · rename_i hp
    have h : ∀ (ks : List Nat), (∀ k ∈ ks, k ∈ keysP p) → ((ks.map (sLine p)).flatMap (· ++ [10])).length ≤ ks.length * 41 := by
      intro ks
      induction ks with
      | nil => intro _; simp
      | cons k r ih =>
        intro hk
        have h1 := (sLine_plain hp (hk k List.mem_cons_self)).2.1
        have h2 := ih fun j hj => hk j (List.mem_cons_of_mem _ hj)
        simp only [List.map_cons, List.flatMap_cons, List.length_append, List.length_cons, List.length_nil] at h2 ⊢
        omega
    have := h (keysP p) fun _ h => h
    have := keys_len p
    omega
  · simp
theorem turn_len {p : Pol} (hp : rightB p = true) {a i : Nat} (hi : i ≤ (keysP p).length) : (turnS p a i).length ≤ 369 := by
  have h : ∀ (ks : List Nat), (∀ k ∈ ks, k ∈ keysP p) → ((ks.map (sLine p)).flatMap (· ++ [10])).length ≤ ks.length * 41 := by
    intro ks
    induction ks with
    | nil => intro _; simp
    | cons k r ih =>
      intro hk
      have h1 := (sLine_plain hp (hk k List.mem_cons_self)).2.1
      have h2 := ih fun j hj => hk j (List.mem_cons_of_mem _ hj)
      simp only [List.map_cons, List.flatMap_cons, List.length_append, List.length_cons, List.length_nil] at h2 ⊢
      omega
  have hpos := keys_len p
  have := h (tkeys p a i) fun k hk => by
    obtain ⟨j, hj, rfl⟩ := List.mem_map.1 hk
    have hlt : (j + a) % (keysP p).length < (keysP p).length := Nat.mod_lt _ (by omega)
    rw [List.getD_eq_getElem?_getD, List.getElem?_eq_getElem hlt]
    exact List.getElem_mem _
  have hl : (tkeys p a i).length = i := by simp [tkeys]
  unfold turnS
  rw [hl] at this
  omega
theorem right_size {p : Pol} (h : rightB p = true) : ((0 ≤ p.r0.size ∧ p.r0.size ≤ 16) ∧ (0 ≤ p.r1.size ∧ p.r1.size ≤ 16)) ∧ ((0 ≤ p.r2.size ∧ p.r2.size ≤ 16) ∧ (0 ≤ p.r3.size ∧ p.r3.size ≤ 16)) ∧ (0 ≤ p.r4.size ∧ p.r4.size ≤ 16) := by
  have hs : ∀ {d : Int} {r : Rul}, ruledB d r = true → 0 ≤ r.size ∧ r.size ≤ 16 := by
    intro d r hr
    obtain ⟨w, n, rfl, _, hn⟩ := ruled_nat hr
    dsimp only
    omega
  exact ⟨⟨hs (right_rule h (k := 0) (by decide)), hs (right_rule h (k := 1) (by decide))⟩, ⟨hs (right_rule h (k := 2) (by decide)), hs (right_rule h (k := 3) (by decide))⟩, hs (right_rule h (k := 4) (by decide))⟩
end Go.Proofs.YtngoaapgdfohjaaGreatDoor.T28
