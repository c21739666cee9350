/- Chapter 25 walked: the two parses. -/
import Derived.Test.YtiinipcmghhacaaDoorX22
import Derived.Test.YtiinipcmghhacaaDoorA8
set_option linter.unusedVariables false
set_option linter.unusedSimpArgs false
namespace Go.Proofs.YtiinipcmghhacaaDoor.T10
open Go Go.Proofs.YtiinipcmghhacaaDoor.X
theorem T.a33 : aggSz Tryd.prog 33 = some 2 := by kernel_rfl
theorem T.a71 : aggSz Tryd.prog 71 = some 2 := by kernel_rfl
theorem T.f33_0 : fieldOff Tryd.prog 33 0 = some 0 := by kernel_rfl
theorem T.f33_1 : fieldOff Tryd.prog 33 1 = some 1 := by kernel_rfl
theorem T.f71_0 : fieldOff Tryd.prog 71 0 = some 0 := by kernel_rfl
theorem T.f71_1 : fieldOff Tryd.prog 71 1 = some 1 := by kernel_rfl
theorem T.g103 : goFn Tryd.prog 103 = true := by kernel_rfl
theorem T.g36 : goFn Tryd.prog 36 = true := by kernel_rfl
theorem T.g37 : goFn Tryd.prog 37 = true := by kernel_rfl
theorem T.g38 : goFn Tryd.prog 38 = true := by kernel_rfl
theorem T.g39 : goFn Tryd.prog 39 = true := by kernel_rfl
theorem T.g40 : goFn Tryd.prog 40 = true := by kernel_rfl
theorem T.g70 : goFn Tryd.prog 70 = true := by kernel_rfl
theorem T.g73 : goFn Tryd.prog 73 = true := by kernel_rfl
theorem T.g74 : goFn Tryd.prog 74 = true := by kernel_rfl
theorem T.g75 : goFn Tryd.prog 75 = true := by kernel_rfl
theorem T.g76 : goFn Tryd.prog 76 = true := by kernel_rfl
theorem T.l64 : slOf Tryd.prog 64 = some (71, 2) := by kernel_rfl
theorem T.l66 : slOf Tryd.prog 66 = some (4, 1) := by kernel_rfl
theorem T.p64 : apOf Tryd.prog 64 = some (71, 2, 24) := by kernel_rfl
theorem T.p66 : apOf Tryd.prog 66 = some (4, 1, 1) := by kernel_rfl
theorem T.r75 : arrOf Tryd.prog 75 = some (9, 1) := by kernel_rfl
theorem T.s69 : scal Tryd.prog 69 = true := by kernel_rfl
theorem T.z124 : zeroOf Tryd.prog 124 = some (.nilFunc) := by kernel_rfl
theorem T.z33 : zeroOf Tryd.prog 33 = some (.agg #[.int .i64 0, .int .i64 0]) := by kernel_rfl
theorem T.z4 : zeroOf Tryd.prog 4 = some (.bool false) := by kernel_rfl
theorem T.z71 : zeroOf Tryd.prog 71 = some (.agg #[str [], .nilFunc]) := by kernel_rfl
theorem T.z75 : zeroOf Tryd.prog 75 = some (.agg #[.bool false, .bool false, .bool false, .bool false, .bool false, .bool false, .bool false, .bool false, .bool false]) := by kernel_rfl
def rightB (p : Pol) : Bool :=
  ruledB 0 p.r0 && (ruledB 1 p.r1 && (ruledB 2 p.r2 && (ruledB 3 p.r3 && (ruledB 4 p.r4 && ((decide (p.time = 0) || decide (p.time = 3)) && (decide (p.note = 0) || decide (p.note = 4)))))))

def wordK (k : Nat) : Bs := if k = 5 then [116, 105, 109, 101] else if k = 6 then [110, 111, 116, 101] else if k = 7 then [108, 111, 111, 115, 101] else if k = 8 then [102, 111, 114, 99, 101] else nameS (k : Int)
/-- What lies in a kind: its function. -/
def FunOk (G : Heap) (k : Nat) (f : Nat) (cs : Array Value) : Prop :=
  (k < 5 ∧ f = 103 ∧ ∃ b, cs = #[.pointer (some ⟨b, 0, none⟩)] ∧ CellsAt G b 0 [.int .i64 (k : Int)]) ∨
  (k = 5 ∧ f = 73 ∧ ∃ b, cs = #[.pointer (some ⟨b, 0, none⟩)] ∧ CellsAt G b 0 [.func (.func 71) #[] #[]]) ∨
  (k = 6 ∧ f = 74 ∧ ∃ b, cs = #[.pointer (some ⟨b, 0, none⟩)] ∧ CellsAt G b 0 [.func (.func 71) #[] #[]]) ∨
  (k = 7 ∧ f = 75 ∧ cs = #[]) ∨ (k = 8 ∧ f = 76 ∧ cs = #[])
theorem FunOk.le {G G' : Heap} (h : Heap.le G G') {k f : Nat} {cs : Array Value} (hx : FunOk G k f cs) : FunOk G' k f cs := by
  rcases hx with ⟨h1, h2, b, h3, h4⟩ | ⟨h1, h2, b, h3, h4⟩ | ⟨h1, h2, b, h3, h4⟩ | h | h
  · exact .inl ⟨h1, h2, b, h3, h4.le h⟩
  · exact .inr (.inl ⟨h1, h2, b, h3, h4.le h⟩)
  · exact .inr (.inr (.inl ⟨h1, h2, b, h3, h4.le h⟩))
  · exact .inr (.inr (.inr (.inl h)))
  · exact .inr (.inr (.inr (.inr h)))
def kKind : Knd Nat where
  sz := 2
  R := fun G k cs => ∃ f c, cs = [str (wordK k), .func (.func f) #[] c] ∧ FunOk G k f c
  len := by rintro G k cs ⟨f, c, rfl, _⟩; rfl
  le := by
    rintro G G' k cs h ⟨f, c, rfl, hf⟩
    exact ⟨f, c, rfl, hf.le h⟩
theorem kKind_one : KOne kKind := by rintro G x cs ⟨f, c, rfl, _⟩; rfl
theorem kKind_open {G : Heap} {b o k : Nat} (h : ElAt kKind G b o k) : ∃ f c, FunOk G k f c ∧ CellsAt G b o [str (wordK k), .func (.func f) #[] c] := by
  obtain ⟨cs, ⟨f, c, rfl, hf⟩, hc⟩ := h
  exact ⟨f, c, hf, hc⟩
def P0 : Pol := ⟨⟨0, 0⟩, ⟨0, 0⟩, ⟨0, 0⟩, ⟨0, 0⟩, ⟨0, 0⟩, 0, 0, false, false⟩
def doS (k : Nat) (P : Pol) (l : List Bs) : Pol × Bool := if k = 5 then timeS P l else if k = 6 then noteP P l else if k = 7 then looseS P l else if k = 8 then forceS P l else ruleS (k : Int) P l
set_option maxRecDepth 100000 in
theorem do_calls {G : Heap} {k f : Nat} {cs : Array Value} (h : FunOk G k f cs) (P : Pol) (l : List Bs) (A : Option Addr) (c : Nat) (bp : Nat) {W0 : World} {H0 : Heap} {L0 : List Nat} {M0 : List Chunk} (w0 : World)
    (hS0 : St W0 H0 L0 G w0 ([(bp, Cells 26 (pcE P))] :: M0)) (hR : Rd Knd.s G A l) (hc : l.length ≤ c) (hl : l.length ≤ 4294967281) (hls : ∀ x ∈ l, x.length ≤ 4294967280) (hgw : CellsAt G 1 0 [str [107, 101, 101, 112], str [111, 114, 100, 105, 110, 97, 108], str [107, 101, 121, 101, 100], str [114, 97, 110, 107], str [100, 114, 111, 112]]) :
    goFn Tryd.prog f = true ∧ Calls Tryd.prog f ([Value.pointer (some ⟨bp, 0, none⟩), Value.slice A l.length c] ++ cs.toList).toArray w0 (X.Ends w0 G [bp] (fun v G' C' => v = .bool (doS k P l).2 ∧ C' = [(bp, Cells 26 (pcE (doS k P l).1))]) (fun _ _ _ => False)) := by
  rcases h with ⟨h1, rfl, b, rfl, h4⟩ | ⟨rfl, rfl, b, rfl, h4⟩ | ⟨rfl, rfl, b, rfl, h4⟩ | ⟨rfl, rfl, rfl⟩ | ⟨rfl, rfl, rfl⟩
  · refine ⟨T.g103, ?_⟩
    match k, h1 with
    | 0, _ => exact c_rule0 P l A c bp b w0 G hS0 hR hc hl hls h4 hgw
    | 1, _ => exact c_rule1 P l A c bp b w0 G hS0 hR hc hl hls h4 hgw
    | 2, _ => exact c_rule2 P l A c bp b w0 G hS0 hR hc hl hls h4 hgw
    | 3, _ => exact c_rule3 P l A c bp b w0 G hS0 hR hc hl hls h4 hgw
    | 4, _ => exact c_rule4 P l A c bp b w0 G hS0 hR hc hl hls h4 hgw
  · exact ⟨T.g73, c_kTime P l A c bp b w0 G hS0 hR hc hl hls h4 hgw⟩
  · exact ⟨T.g74, c_kNote P l A c bp b w0 G hS0 hR hc hl hls h4 hgw⟩
  · exact ⟨T.g75, c_kLoose P l A c bp w0 G hS0 hR hc hl hls⟩
  · exact ⟨T.g76, c_kForce P l A c bp w0 G hS0 hR hc hl hls⟩
/-- One kind's turn at a line's words. -/
def stepK (ok : Bool) (ws : List Bs) (k : Nat) (x : Pol × List Bool × Bool) : Pol × List Bool × Bool :=
  if ((ok && (ws.getD 0 [] == wordK k)) && !(x.2.1.getD k false)) = true then ((doS k x.1 (ws.drop 1)).1, x.2.1.set k true, (doS k x.1 (ws.drop 1)).2) else x
def kS (ok : Bool) (ws : List Bs) (P : Pol) (sd : List Bool) : Nat → Pol × List Bool × Bool
  | 0 => (P, sd, false)
  | k + 1 => stepK ok ws k (kS ok ws P sd k)
def lineP (s : Bs) (P : Pol) (sd : List Bool) : Pol × List Bool × Bool := kS (decide ((wordsS s).2 = 0)) (wordsS s).1 P sd 9
def goP : Int → List Bs → Pol → List Bool → Pol × Int
  | _, [], P, _ => (P, 0)
  | i, s :: r, P, sd => if (lineP s P sd).2.2 = true then goP (i + 1) r (lineP s P sd).1 (lineP s P sd).2.1 else (P0, i + 1)
def parseP (t : Bs) : Pol × Int := if (linesS t).2 = 0 then goP 0 (linesS t).1 P0 (List.replicate 9 false) else (P0, (linesS t).2)
def goR : Int → List Bs → Pol → List Bool → Pol × Int
  | _, [], P, _ => (P, 0)
  | i, s :: r, P, sd => if (lineR s P).1 < 0 ∨ sd.getD (lineR s P).1.toNat false = true then (P0, i + 1) else goR (i + 1) r (lineR s P).2 (sd.set (lineR s P).1.toNat true)
def parseR (t : Bs) : Pol × Int := if 0 < (linesS t).2 then (P0, (linesS t).2) else goR 0 (linesS t).1 P0 (List.replicate 9 false)
def failC (n : Int) : Int := if n = 0 then 0 else 6
theorem kS_hit {ok : Bool} {ws : List Bs} {P : Pol} {sd : List Bool} {z : Nat × Pol × List Bool × Bool} (h : kS ok ws P sd z.1 = z.2) (hc : ((ok && (ws.getD 0 [] == wordK z.1)) && !(z.2.2.1.getD z.1 false)) = true) : kS ok ws P sd (z.1 + 1) = ((doS z.1 z.2.1 (ws.drop 1)).1, z.2.2.1.set z.1 true, (doS z.1 z.2.1 (ws.drop 1)).2) := by
  rw [kS, h, stepK, if_pos hc]
theorem kS_miss {ok : Bool} {ws : List Bs} {P : Pol} {sd : List Bool} {z : Nat × Pol × List Bool × Bool} (h : kS ok ws P sd z.1 = z.2) (hc : ((ok && (ws.getD 0 [] == wordK z.1)) && !(z.2.2.1.getD z.1 false)) = false) : kS ok ws P sd (z.1 + 1) = z.2 := by
  rw [kS, h, stepK, if_neg (by rw [hc]; decide)]
theorem said_at {sd : List Bool} {k : Nat} (h : k < sd.length) : (sd.map Value.bool)[0 + ((k : Nat) : Int).toNat * 1]? = some (.bool (sd.getD k false)) := by
  rw [Int.toNat_natCast, Nat.mul_one, Nat.zero_add, List.getElem?_map, List.getElem?_eq_getElem h, List.getD_eq_getElem?_getD, List.getElem?_eq_getElem h]
  rfl
theorem said_set {sd : List Bool} {k : Nat} : (sd.map Value.bool).set (0 + ((k : Nat) : Int).toNat * 1) (.bool true) = (sd.set k true).map Value.bool := by
  rw [Int.toNat_natCast, Nat.mul_one, Nat.zero_add, List.map_set]
theorem said_atI {sd : List Bool} {k : Int} (h0 : 0 ≤ k) (h : k.toNat < sd.length) : (sd.map Value.bool)[0 + k.toNat * 1]? = some (.bool (sd.getD k.toNat false)) := by
  obtain ⟨n, rfl⟩ := Int.eq_ofNat_of_zero_le h0
  exact said_at (by simpa using h)
theorem said_setI {sd : List Bool} {k : Int} : (sd.map Value.bool).set (0 + k.toNat * 1) (.bool true) = (sd.set k.toNat true).map Value.bool := by
  rw [Nat.mul_one, Nat.zero_add, List.map_set]
theorem words_pos {s : Bs} (h : (wordsS s).2 = 0) : (0 : Int).toNat < (wordsS s).1.length := by
  unfold wordsS at h ⊢
  split at h
  · cases h
  · rename_i h2
    rw [if_neg h2]
    exact List.length_pos_iff.2 (splitS_ne 32 s)
theorem goP_step {i : Int} {ls : List Bs} {n : Nat} {x : Bs} {P : Pol} {sd : List Bool} {h : n < ls.length} (ex : ls[n] = x) : goP i (ls.drop n) P sd = if (lineP x P sd).2.2 = true then goP (i + 1) (ls.drop (n + 1)) (lineP x P sd).1 (lineP x P sd).2.1 else (P0, i + 1) := by
  rw [List.drop_eq_getElem_cons h, ex]
  rfl
theorem goR_step {i : Int} {ls : List Bs} {n : Nat} {x : Bs} {P : Pol} {sd : List Bool} {h : n < ls.length} (ex : ls[n] = x) : goR i (ls.drop n) P sd = if (lineR x P).1 < 0 ∨ sd.getD (lineR x P).1.toNat false = true then (P0, i + 1) else goR (i + 1) (ls.drop (n + 1)) (lineR x P).2 (sd.set (lineR x P).1.toNat true) := by
  rw [List.drop_eq_getElem_cons h, ex]
  rfl
theorem lineR_rng (s : Bs) (P : Pol) : -1 ≤ (lineR s P).1 ∧ (lineR s P).1 < 9 := by
  unfold lineR
  cases hf : cands.find? fun c => matchS s c.1 c.2.1 c.2.2 with
  | some c =>
    have h2 := cands_mem.1 (List.mem_of_find?_eq_some hf)
    dsimp only
    omega
  | none =>
    dsimp only
    repeat' split
    all_goals (dsimp only; omega)
theorem splitS_mem {c : UInt8} : ∀ {s x : Bs}, x ∈ splitS c s → x.length ≤ s.length
  | [], x, h => by simp [splitS] at h; subst h; exact Nat.le_refl _
  | b :: r, x, h => by
    unfold splitS at h
    split at h
    · rcases List.mem_cons.1 h with rfl | h
      · exact Nat.zero_le _
      · exact Nat.le_succ_of_le (splitS_mem h)
    · have ih := fun y => splitS_mem (c := c) (s := r) (x := y)
      split at h
      · simp at h; subst h; simp
      · rename_i y z hz
        rw [hz] at ih
        rcases List.mem_cons.1 h with rfl | h
        · simpa using ih y (by simp)
        · exact Nat.le_succ_of_le (ih x (List.mem_cons_of_mem _ h))
theorem words_mem {s x : Bs} (h : x ∈ (wordsS s).1) : x.length ≤ s.length := by
  unfold wordsS at h
  split at h
  · cases h
  · exact splitS_mem h
theorem lines_mem {s x : Bs} (h : x ∈ (linesS s).1) : x.length ≤ s.length := by
  unfold linesS at h
  split at h
  · exact splitS_mem (c := 10) ((List.dropLast_sublist _).subset h)
  · cases h
/-! `incognito/policy.rule` -/
set_option maxRecDepth 100000 in
set_option maxHeartbeats 4000000 in
theorem c_rule25 (d : Int) (w0 : World) (G : Heap) (hG : Sub G w0) :
  Calls Tryd.prog 70 #[.int .i64 d] w0 (Ret w0 G (fun v G' => ∃ b, v = .func (.func 103) #[] #[.pointer (some ⟨b, 0, none⟩)] ∧ CellsAt G' b 0 [.int .i64 d])) := by
 refine enter Tryd.func70 rfl Tryd.ntmps70 rfl ?_
 intro Q hQ a HE
 have HS := St.start0 hG
 refine wp_seq_k (fun K hK => ?_); refine wp_region_lit ?_
 refine o_boxL [(0, _)] HE rfl HS rfl ⟨rfl, trivial⟩ ?_; clear HE HS; intro B1 w a HS HE
 refine o_assign HE rfl rfl ?_; clear HE; intro a HE
 refine hK _ _ ?_; clear hK K
 refine wp_seq_k (fun K hK => ?_); refine wp_region_lit ?_
 obtain ⟨G2, hle4, hC3, HS'⟩ := HS.stillHead (n := 1) rfl; clear HS; have HS := HS'; clear HS'
 skip
 refine o_func HE rfl rfl rfl ?_; clear HE; intro a HE
 refine o_assign HE rfl rfl ?_; clear HE; intro a HE
 refine hK _ _ ?_; clear hK K
 refine wp_ret ?_
 show Q .ret _ _
 refine ret hQ HE rfl (HE.res rfl .nil) ⟨_, _, HS.stop (List.nil_sublist _), rfl, ?_⟩
 exact ⟨_, rfl, by assumption⟩

/-! `incognito/policy.kinds` -/
set_option maxRecDepth 100000 in
set_option maxHeartbeats 4000000 in
theorem c_kinds  (w0 : World) (G : Heap) (hG : Sub G w0) (hgd : CellsAt G 0 0 [str [99, 108, 105, 101, 110, 116], str [111, 98, 106, 101, 99, 116], str [118, 97, 108, 117, 101], str [102, 105, 101, 108, 100], str [111, 114, 100, 101, 114]]):
  Calls Tryd.prog 37 #[] w0 (Ret w0 G (fun v G' => SlV kKind G' v (List.range 9))) := by
 refine enter Tryd.func37 rfl Tryd.ntmps37 rfl ?_
 intro Q hQ a HE
 have HS := St.start0 hG
 refine wp_seq_k (fun K hK => ?_); refine wp_region_lit ?_
 refine o_assign HE rfl rfl ?_; clear HE; intro a HE
 refine hK _ _ ?_; clear hK K
 refine wp_seq_k (fun K hK => ?_); refine wp_region_lit ?_
 refine o_assign HE rfl rfl ?_; clear HE; intro a HE
 refine hK _ _ ?_; clear hK K
 refine wp_seq_k (fun K4 hK3 => ?_)
 refine wp_seq_k (fun K hK => ?_); refine wp_region_lit ?_
 refine o_ldIA HE rfl HS rfl hgd T.a86 ?_; clear HE; intro a HE
 refine o_move HE rfl rfl ?_; clear HE; intro a HE
 refine hK _ _ ?_; clear hK K
 refine wp_block ?_
 refine wp_loop_rounds 6 ?_
 rw [rounds_succ]
 refine wp_seq_k (fun K hK => ?_); refine wp_region_lit ?_
 refine o_lss HE rfl rfl rfl ?_; clear HE; intro a HE
 refine hK _ _ ?_; clear hK K
 refine wp_seq_k (fun K8 hK7 => ?_)
 refine cond HE rfl (fun h9 => ?_) (fun h9 => ?_)
 ·have h9r := h9; try simp only [zz1, zz2, zz3, zz4, zz5, zz6, zz7, zz8, zz9, zza, zzb] at h9
  refine wp_skip ?_
  refine hK7 _ _ ?_; clear hK7
  refine wp_seq_k (fun K11 hK10 => ?_)
  refine wp_block ?_
  refine wp_seq_k (fun K hK => ?_); refine wp_region_lit ?_
  refine o_move HE rfl rfl ?_; clear HE; intro a HE
  refine o_ixV HE rfl rfl rfl T.r86 Tryd.underlying86 (by decide) rfl (.inl ⟨T.s9, rfl⟩) ?_; clear HE; intro a HE
  refine o_assign HE rfl rfl ?_; clear HE; intro a HE
  refine o_assign HE rfl rfl ?_; clear HE; intro a HE
  refine hK _ _ ?_; clear hK K
  refine wp_region_lit ?_
  refine o_move HE rfl rfl ?_; clear HE; intro a HE
  refine o_move HE rfl rfl ?_; clear HE; intro a HE
  refine o_move HE rfl rfl ?_; clear HE; intro a HE
  refine o_call HE rfl HS rfl rfl T.g70 (c_rule25 0 _ _ HS.sub) ?_
  clear HE HS; rintro _ G13 w a HS hle13 ⟨b13, rfl, hC13⟩ HE
  replace hgd := hgd.le hle13
  refine o_build (cs := #[str [99, 108, 105, 101, 110, 116], .func (.func 103) #[] #[.pointer (some ⟨b13, 0, none⟩)]]) HE rfl rfl (by kernel_rfl) ?_; clear HE; intro a HE
  refine o_buildSl (cs := #[str [99, 108, 105, 101, 110, 116], .func (.func 103) #[] #[.pointer (some ⟨b13, 0, none⟩)]]) [(0, _), (1, _)] HE rfl HS rfl T.l64 (by kernel_rfl) ⟨rfl, rfl, trivial⟩ ?_; clear HE HS; intro B15 w a HS HE
  replace HS := HS.nilChunk
  have oH15 : X.Own kKind 71 G13 none 0 ([] : List Nat) [] := X.Own.nil
  refine o_appendL (K := kKind) (ys := [0]) (n := 2) HE rfl HS .here oH15 rfl rfl T.p64 (.there (.here .here)) rfl ⟨⟨_, _, rfl, .inl ⟨by decide, rfl, _, rfl, hC13⟩⟩, rfl⟩ rfl rfl (by first | (simp; done) | (simp; omega)) (by first | (simp; done) | (simp; omega)) ?_
  clear HE HS; intro oA16 oc16 oC16 w a HS oH16 HE
  refine o_assign HE rfl rfl ?_; clear HE; intro a HE
  refine hK10 _ _ ?_; clear hK10
  refine wp_region_lit ?_
  refine o_add HE rfl rfl rfl (by omega) ?_; clear HE; intro a HE
  refine o_move HE rfl rfl ?_; clear HE; intro a HE
  show Code.rounds _ _ _ _ _ _
  replace HE := HE.cut (L' := [(0, .slice none 0 0), (1, .slice oA16 (([] ++ [0]).length) oc16), (5, .agg #[str [99, 108, 105, 101, 110, 116], str [111, 98, 106, 101, 99, 116], str [118, 97, 108, 117, 101], str [102, 105, 101, 108, 100], str [111, 114, 100, 101, 114]]), (6, .int .i64 1)]) ⟨rfl, rfl, rfl, rfl, trivial⟩
  rw [rounds_succ]
  refine wp_seq_k (fun K hK => ?_); refine wp_region_lit ?_
  refine o_lss HE rfl rfl rfl ?_; clear HE; intro a HE
  refine hK _ _ ?_; clear hK K
  refine wp_seq_k (fun K19 hK18 => ?_)
  refine cond HE rfl (fun h20 => ?_) (fun h20 => ?_)
  ·have h20r := h20; try simp only [zz1, zz2, zz3, zz4, zz5, zz6, zz7, zz8, zz9, zza, zzb] at h20
   refine wp_skip ?_
   refine hK18 _ _ ?_; clear hK18
   refine wp_seq_k (fun K22 hK21 => ?_)
   refine wp_block ?_
   refine wp_seq_k (fun K hK => ?_); refine wp_region_lit ?_
   refine o_move HE rfl rfl ?_; clear HE; intro a HE
   refine o_ixV HE rfl rfl rfl T.r86 Tryd.underlying86 (by decide) rfl (.inl ⟨T.s9, rfl⟩) ?_; clear HE; intro a HE
   refine o_assign HE rfl rfl ?_; clear HE; intro a HE
   refine o_assign HE rfl rfl ?_; clear HE; intro a HE
   refine hK _ _ ?_; clear hK K
   refine wp_region_lit ?_
   refine o_move HE rfl rfl ?_; clear HE; intro a HE
   refine o_move HE rfl rfl ?_; clear HE; intro a HE
   refine o_move HE rfl rfl ?_; clear HE; intro a HE
   refine o_call HE rfl HS rfl rfl T.g70 (c_rule25 1 _ _ HS.sub) ?_
   clear HE HS; rintro _ G24 w a HS hle24 ⟨b24, rfl, hC24⟩ HE
   replace hgd := hgd.le hle24
   replace hC13 := hC13.le hle24
   replace oH16 := oH16.le hle24
   refine o_build (cs := #[str [111, 98, 106, 101, 99, 116], .func (.func 103) #[] #[.pointer (some ⟨b24, 0, none⟩)]]) HE rfl rfl (by kernel_rfl) ?_; clear HE; intro a HE
   refine o_buildSl (cs := #[str [111, 98, 106, 101, 99, 116], .func (.func 103) #[] #[.pointer (some ⟨b24, 0, none⟩)]]) [(0, _), (1, _)] HE rfl HS rfl T.l64 (by kernel_rfl) ⟨rfl, rfl, trivial⟩ ?_; clear HE HS; intro B15_25 w a HS HE
   refine o_appendL (K := kKind) (ys := [1]) (n := 2) HE rfl HS (.there .here) oH16 rfl rfl T.p64 (.here .here) rfl ⟨⟨_, _, rfl, .inl ⟨by decide, rfl, _, rfl, hC24⟩⟩, rfl⟩ rfl rfl (by first | (simp; done) | (simp; omega)) (by first | (simp; done) | (simp; omega)) ?_
   clear HE HS; intro oA26 oc26 oC26 w a HS oH26 HE
   refine o_assign HE rfl rfl ?_; clear HE; intro a HE
   refine hK21 _ _ ?_; clear hK21
   refine wp_region_lit ?_
   refine o_add HE rfl rfl rfl (by omega) ?_; clear HE; intro a HE
   refine o_move HE rfl rfl ?_; clear HE; intro a HE
   show Code.rounds _ _ _ _ _ _
   replace HE := HE.cut (L' := [(0, .slice none 0 0), (1, .slice oA26 (([] ++ [0] ++ [1]).length) oc26), (5, .agg #[str [99, 108, 105, 101, 110, 116], str [111, 98, 106, 101, 99, 116], str [118, 97, 108, 117, 101], str [102, 105, 101, 108, 100], str [111, 114, 100, 101, 114]]), (6, .int .i64 2)]) ⟨rfl, rfl, rfl, rfl, trivial⟩
   rw [rounds_succ]
   refine wp_seq_k (fun K hK => ?_); refine wp_region_lit ?_
   refine o_lss HE rfl rfl rfl ?_; clear HE; intro a HE
   refine hK _ _ ?_; clear hK K
   refine wp_seq_k (fun K29 hK28 => ?_)
   refine cond HE rfl (fun h30 => ?_) (fun h30 => ?_)
   ·have h30r := h30; try simp only [zz1, zz2, zz3, zz4, zz5, zz6, zz7, zz8, zz9, zza, zzb] at h30
    refine wp_skip ?_
    refine hK28 _ _ ?_; clear hK28
    refine wp_seq_k (fun K32 hK31 => ?_)
    refine wp_block ?_
    refine wp_seq_k (fun K hK => ?_); refine wp_region_lit ?_
    refine o_move HE rfl rfl ?_; clear HE; intro a HE
    refine o_ixV HE rfl rfl rfl T.r86 Tryd.underlying86 (by decide) rfl (.inl ⟨T.s9, rfl⟩) ?_; clear HE; intro a HE
    refine o_assign HE rfl rfl ?_; clear HE; intro a HE
    refine o_assign HE rfl rfl ?_; clear HE; intro a HE
    refine hK _ _ ?_; clear hK K
    refine wp_region_lit ?_
    refine o_move HE rfl rfl ?_; clear HE; intro a HE
    refine o_move HE rfl rfl ?_; clear HE; intro a HE
    refine o_move HE rfl rfl ?_; clear HE; intro a HE
    refine o_call HE rfl HS rfl rfl T.g70 (c_rule25 2 _ _ HS.sub) ?_
    clear HE HS; rintro _ G34 w a HS hle34 ⟨b34, rfl, hC34⟩ HE
    replace hgd := hgd.le hle34
    replace hC13 := hC13.le hle34
    replace hC24 := hC24.le hle34
    replace oH26 := oH26.le hle34
    refine o_build (cs := #[str [118, 97, 108, 117, 101], .func (.func 103) #[] #[.pointer (some ⟨b34, 0, none⟩)]]) HE rfl rfl (by kernel_rfl) ?_; clear HE; intro a HE
    refine o_buildSl (cs := #[str [118, 97, 108, 117, 101], .func (.func 103) #[] #[.pointer (some ⟨b34, 0, none⟩)]]) [(0, _), (1, _)] HE rfl HS rfl T.l64 (by kernel_rfl) ⟨rfl, rfl, trivial⟩ ?_; clear HE HS; intro B15_35 w a HS HE
    refine o_appendL (K := kKind) (ys := [2]) (n := 2) HE rfl HS (.there .here) oH26 rfl rfl T.p64 (.here .here) rfl ⟨⟨_, _, rfl, .inl ⟨by decide, rfl, _, rfl, hC34⟩⟩, rfl⟩ rfl rfl (by first | (simp; done) | (simp; omega)) (by first | (simp; done) | (simp; omega)) ?_
    clear HE HS; intro oA36 oc36 oC36 w a HS oH36 HE
    refine o_assign HE rfl rfl ?_; clear HE; intro a HE
    refine hK31 _ _ ?_; clear hK31
    refine wp_region_lit ?_
    refine o_add HE rfl rfl rfl (by omega) ?_; clear HE; intro a HE
    refine o_move HE rfl rfl ?_; clear HE; intro a HE
    show Code.rounds _ _ _ _ _ _
    replace HE := HE.cut (L' := [(0, .slice none 0 0), (1, .slice oA36 (([] ++ [0] ++ [1] ++ [2]).length) oc36), (5, .agg #[str [99, 108, 105, 101, 110, 116], str [111, 98, 106, 101, 99, 116], str [118, 97, 108, 117, 101], str [102, 105, 101, 108, 100], str [111, 114, 100, 101, 114]]), (6, .int .i64 3)]) ⟨rfl, rfl, rfl, rfl, trivial⟩
    rw [rounds_succ]
    refine wp_seq_k (fun K hK => ?_); refine wp_region_lit ?_
    refine o_lss HE rfl rfl rfl ?_; clear HE; intro a HE
    refine hK _ _ ?_; clear hK K
    refine wp_seq_k (fun K39 hK38 => ?_)
    refine cond HE rfl (fun h40 => ?_) (fun h40 => ?_)
    ·have h40r := h40; try simp only [zz1, zz2, zz3, zz4, zz5, zz6, zz7, zz8, zz9, zza, zzb] at h40
     refine wp_skip ?_
     refine hK38 _ _ ?_; clear hK38
     refine wp_seq_k (fun K42 hK41 => ?_)
     refine wp_block ?_
     refine wp_seq_k (fun K hK => ?_); refine wp_region_lit ?_
     refine o_move HE rfl rfl ?_; clear HE; intro a HE
     refine o_ixV HE rfl rfl rfl T.r86 Tryd.underlying86 (by decide) rfl (.inl ⟨T.s9, rfl⟩) ?_; clear HE; intro a HE
     refine o_assign HE rfl rfl ?_; clear HE; intro a HE
     refine o_assign HE rfl rfl ?_; clear HE; intro a HE
     refine hK _ _ ?_; clear hK K
     refine wp_region_lit ?_
     refine o_move HE rfl rfl ?_; clear HE; intro a HE
     refine o_move HE rfl rfl ?_; clear HE; intro a HE
     refine o_move HE rfl rfl ?_; clear HE; intro a HE
     refine o_call HE rfl HS rfl rfl T.g70 (c_rule25 3 _ _ HS.sub) ?_
     clear HE HS; rintro _ G44 w a HS hle44 ⟨b44, rfl, hC44⟩ HE
     replace hgd := hgd.le hle44
     replace hC13 := hC13.le hle44
     replace hC24 := hC24.le hle44
     replace hC34 := hC34.le hle44
     replace oH36 := oH36.le hle44
     refine o_build (cs := #[str [102, 105, 101, 108, 100], .func (.func 103) #[] #[.pointer (some ⟨b44, 0, none⟩)]]) HE rfl rfl (by kernel_rfl) ?_; clear HE; intro a HE
     refine o_buildSl (cs := #[str [102, 105, 101, 108, 100], .func (.func 103) #[] #[.pointer (some ⟨b44, 0, none⟩)]]) [(0, _), (1, _)] HE rfl HS rfl T.l64 (by kernel_rfl) ⟨rfl, rfl, trivial⟩ ?_; clear HE HS; intro B15_45 w a HS HE
     refine o_appendL (K := kKind) (ys := [3]) (n := 2) HE rfl HS (.there .here) oH36 rfl rfl T.p64 (.here .here) rfl ⟨⟨_, _, rfl, .inl ⟨by decide, rfl, _, rfl, hC44⟩⟩, rfl⟩ rfl rfl (by first | (simp; done) | (simp; omega)) (by first | (simp; done) | (simp; omega)) ?_
     clear HE HS; intro oA46 oc46 oC46 w a HS oH46 HE
     refine o_assign HE rfl rfl ?_; clear HE; intro a HE
     refine hK41 _ _ ?_; clear hK41
     refine wp_region_lit ?_
     refine o_add HE rfl rfl rfl (by omega) ?_; clear HE; intro a HE
     refine o_move HE rfl rfl ?_; clear HE; intro a HE
     show Code.rounds _ _ _ _ _ _
     replace HE := HE.cut (L' := [(0, .slice none 0 0), (1, .slice oA46 (([] ++ [0] ++ [1] ++ [2] ++ [3]).length) oc46), (5, .agg #[str [99, 108, 105, 101, 110, 116], str [111, 98, 106, 101, 99, 116], str [118, 97, 108, 117, 101], str [102, 105, 101, 108, 100], str [111, 114, 100, 101, 114]]), (6, .int .i64 4)]) ⟨rfl, rfl, rfl, rfl, trivial⟩
     rw [rounds_succ]
     refine wp_seq_k (fun K hK => ?_); refine wp_region_lit ?_
     refine o_lss HE rfl rfl rfl ?_; clear HE; intro a HE
     refine hK _ _ ?_; clear hK K
     refine wp_seq_k (fun K49 hK48 => ?_)
     refine cond HE rfl (fun h50 => ?_) (fun h50 => ?_)
     ·have h50r := h50; try simp only [zz1, zz2, zz3, zz4, zz5, zz6, zz7, zz8, zz9, zza, zzb] at h50
      refine wp_skip ?_
      refine hK48 _ _ ?_; clear hK48
      refine wp_seq_k (fun K52 hK51 => ?_)
      refine wp_block ?_
      refine wp_seq_k (fun K hK => ?_); refine wp_region_lit ?_
      refine o_move HE rfl rfl ?_; clear HE; intro a HE
      refine o_ixV HE rfl rfl rfl T.r86 Tryd.underlying86 (by decide) rfl (.inl ⟨T.s9, rfl⟩) ?_; clear HE; intro a HE
      refine o_assign HE rfl rfl ?_; clear HE; intro a HE
      refine o_assign HE rfl rfl ?_; clear HE; intro a HE
      refine hK _ _ ?_; clear hK K
      refine wp_region_lit ?_
      refine o_move HE rfl rfl ?_; clear HE; intro a HE
      refine o_move HE rfl rfl ?_; clear HE; intro a HE
      refine o_move HE rfl rfl ?_; clear HE; intro a HE
      refine o_call HE rfl HS rfl rfl T.g70 (c_rule25 4 _ _ HS.sub) ?_
      clear HE HS; rintro _ G54 w a HS hle54 ⟨b54, rfl, hC54⟩ HE
      replace hgd := hgd.le hle54
      replace hC13 := hC13.le hle54
      replace hC24 := hC24.le hle54
      replace hC34 := hC34.le hle54
      replace hC44 := hC44.le hle54
      replace oH46 := oH46.le hle54
      refine o_build (cs := #[str [111, 114, 100, 101, 114], .func (.func 103) #[] #[.pointer (some ⟨b54, 0, none⟩)]]) HE rfl rfl (by kernel_rfl) ?_; clear HE; intro a HE
      refine o_buildSl (cs := #[str [111, 114, 100, 101, 114], .func (.func 103) #[] #[.pointer (some ⟨b54, 0, none⟩)]]) [(0, _), (1, _)] HE rfl HS rfl T.l64 (by kernel_rfl) ⟨rfl, rfl, trivial⟩ ?_; clear HE HS; intro B15_55 w a HS HE
      refine o_appendL (K := kKind) (ys := [4]) (n := 2) HE rfl HS (.there .here) oH46 rfl rfl T.p64 (.here .here) rfl ⟨⟨_, _, rfl, .inl ⟨by decide, rfl, _, rfl, hC54⟩⟩, rfl⟩ rfl rfl (by first | (simp; done) | (simp; omega)) (by first | (simp; done) | (simp; omega)) ?_
      clear HE HS; intro oA56 oc56 oC56 w a HS oH56 HE
      refine o_assign HE rfl rfl ?_; clear HE; intro a HE
      refine hK51 _ _ ?_; clear hK51
      refine wp_region_lit ?_
      refine o_add HE rfl rfl rfl (by omega) ?_; clear HE; intro a HE
      refine o_move HE rfl rfl ?_; clear HE; intro a HE
      show Code.rounds _ _ _ _ _ _
      replace HE := HE.cut (L' := [(0, .slice none 0 0), (1, .slice oA56 (([] ++ [0] ++ [1] ++ [2] ++ [3] ++ [4]).length) oc56), (5, .agg #[str [99, 108, 105, 101, 110, 116], str [111, 98, 106, 101, 99, 116], str [118, 97, 108, 117, 101], str [102, 105, 101, 108, 100], str [111, 114, 100, 101, 114]]), (6, .int .i64 5)]) ⟨rfl, rfl, rfl, rfl, trivial⟩
      rw [rounds_succ]
      refine wp_seq_k (fun K hK => ?_); refine wp_region_lit ?_
      refine o_lss HE rfl rfl rfl ?_; clear HE; intro a HE
      refine hK _ _ ?_; clear hK K
      refine wp_seq_k (fun K59 hK58 => ?_)
      refine cond HE rfl (fun h60 => ?_) (fun h60 => ?_)
      ·exact absurd h60 (by decide)
      ·have h60r := h60; try simp only [zz1, zz2, zz3, zz4, zz5, zz6, zz7, zz8, zz9, zza, zzb] at h60
       refine wp_exit ?_
       refine hK3 _ _ ?_; clear hK3
       refine wp_seq_k (fun K hK => ?_); refine wp_region_lit ?_
       refine o_allocL [(0, _)] HE rfl HS T.z124 ⟨rfl, trivial⟩ ?_; clear HE HS; intro B4 w a HS HE
       refine o_st HE HS rfl rfl rfl T.s124 (.here .here) rfl ?_; clear HS; intro w HS
       refine hK _ _ ?_; clear hK K
       refine wp_seq_k (fun K hK => ?_); refine wp_region_lit ?_
       refine o_move HE rfl rfl ?_; clear HE; intro a HE
       obtain ⟨G62, hle64, hC63, HS'⟩ := HS.stillHead (n := 1) rfl; clear HS; have HS := HS'; clear HS'
       replace hgd := hgd.le hle64
       replace hC13 := hC13.le hle64
       replace hC24 := hC24.le hle64
       replace hC34 := hC34.le hle64
       replace hC44 := hC44.le hle64
       replace hC54 := hC54.le hle64
       replace oH56 := oH56.le hle64
       skip
       refine o_func HE rfl rfl rfl ?_; clear HE; intro a HE
       refine o_build (cs := #[str [116, 105, 109, 101], .func (.func 73) #[] #[.pointer (some ⟨B4, 0, none⟩)]]) HE rfl rfl (by kernel_rfl) ?_; clear HE; intro a HE
       refine o_func HE rfl rfl rfl ?_; clear HE; intro a HE
       refine o_build (cs := #[str [110, 111, 116, 101], .func (.func 74) #[] #[.pointer (some ⟨B4, 0, none⟩)]]) HE rfl rfl (by kernel_rfl) ?_; clear HE; intro a HE
       refine o_build (cs := #[str [108, 111, 111, 115, 101], .func (.func 75) #[] #[]]) HE rfl rfl (by kernel_rfl) ?_; clear HE; intro a HE
       refine o_build (cs := #[str [102, 111, 114, 99, 101], .func (.func 76) #[] #[]]) HE rfl rfl (by kernel_rfl) ?_; clear HE; intro a HE
       refine o_buildSl (cs := #[str [116, 105, 109, 101], .func (.func 73) #[] #[.pointer (some ⟨B4, 0, none⟩)], str [110, 111, 116, 101], .func (.func 74) #[] #[.pointer (some ⟨B4, 0, none⟩)], str [108, 111, 111, 115, 101], .func (.func 75) #[] #[], str [102, 111, 114, 99, 101], .func (.func 76) #[] #[]]) [(0, _), (1, _), (2, _), (3, _), (4, _), (5, _), (6, _), (7, _)] HE rfl HS rfl T.l64 (by kernel_rfl) ⟨rfl, rfl, rfl, rfl, rfl, rfl, rfl, rfl, trivial⟩ ?_; clear HE HS; intro B25 w a HS HE
       refine o_appendL (K := kKind) (ys := [5, 6, 7, 8]) (n := 8) HE rfl HS (.there .here) oH56 rfl rfl T.p64 (.here .here) rfl ⟨⟨_, _, rfl, .inr (.inl ⟨rfl, rfl, _, rfl, hC63⟩)⟩, ⟨_, _, rfl, .inr (.inr (.inl ⟨rfl, rfl, _, rfl, hC63⟩))⟩, ⟨_, _, rfl, .inr (.inr (.inr (.inl ⟨rfl, rfl, rfl⟩)))⟩, ⟨_, _, rfl, .inr (.inr (.inr (.inr ⟨rfl, rfl, rfl⟩)))⟩, rfl⟩ rfl rfl (by first | (simp; done) | (simp; omega)) (by first | (simp; done) | (simp; omega)) ?_
       clear HE HS; intro oA65 oc65 oC65 w a HS oH65 HE
       refine o_assign HE rfl rfl ?_; clear HE; intro a HE
       refine hK _ _ ?_; clear hK K
       refine wp_ret ?_
       have hcphR68 := oH65.cap
       obtain ⟨G67, hle69, HS', hR68⟩ := X.Own.still HS .here oH65; clear HS; have HS := HS'; clear HS'
       replace hgd := hgd.le hle69
       replace hC13 := hC13.le hle69
       replace hC24 := hC24.le hle69
       replace hC34 := hC34.le hle69
       replace hC44 := hC44.le hle69
       replace hC54 := hC54.le hle69
       replace hC63 := hC63.le hle69
       show Q .ret _ _
       refine ret hQ HE rfl (HE.res rfl .nil) ⟨_, _, HS.stop (List.nil_sublist _), rfl, ?_⟩
       exact ⟨_, _, rfl, hcphR68, hR68⟩
     ·exact absurd h50 (by decide)
    ·exact absurd h40 (by decide)
   ·exact absurd h30 (by decide)
  ·exact absurd h20 (by decide)
 ·exact absurd h9 (by decide)

/-! `incognito/policy.Parse` -/
set_option maxRecDepth 100000 in
set_option maxHeartbeats 4000000 in
theorem c_Parse25 (s : Bs) (w0 : World) (G : Heap) (hG : Sub G w0) (m8 : Int) (h8 : CellsAt G 8 0 [.int .i64 m8]) (hgw : CellsAt G 1 0 [str [107, 101, 101, 112], str [111, 114, 100, 105, 110, 97, 108], str [107, 101, 121, 101, 100], str [114, 97, 110, 107], str [100, 114, 111, 112]]) (hgd : CellsAt G 0 0 [str [99, 108, 105, 101, 110, 116], str [111, 98, 106, 101, 99, 116], str [118, 97, 108, 117, 101], str [102, 105, 101, 108, 100], str [111, 114, 100, 101, 114]]) (hl : s.length ≤ 4294967280):
  Calls Tryd.prog 17 #[str s] w0 (Ret w0 G (fun v _ => v = .tuple #[.agg (polCells (parseP s).1).toArray, .agg #[.int .i64 (failC (parseP s).2), .int .i64 (parseP s).2]])) := by
 refine enter Tryd.func17 rfl Tryd.ntmps17 rfl ?_
 intro Q hQ a HE
 have HS := St.start0 hG
 refine wp_seq_k (fun K hK => ?_); refine wp_region_lit ?_
 refine o_allocL [(0, _), (1, _), (2, _), (3, _), (4, _), (5, _), (6, _), (7, _), (8, _), (9, _), (10, _), (11, _), (12, _), (13, _)] HE rfl HS T.z26 ⟨rfl, rfl, rfl, rfl, rfl, rfl, rfl, rfl, rfl, rfl, rfl, rfl, rfl, rfl, trivial⟩ ?_; clear HE HS; intro B2 w a HS HE
 refine o_allocL [(0, _), (1, _)] HE rfl HS T.z33 ⟨rfl, rfl, trivial⟩ ?_; clear HE HS; intro B3 w a HS HE
 refine hK _ _ ?_; clear hK K
 refine wp_seq_k (fun K hK => ?_); refine wp_region_lit ?_
 refine o_move HE rfl rfl ?_; clear HE; intro a HE
 refine o_call HE rfl HS rfl rfl T.g36 (c_split s _ _ HS.sub m8 h8 (by first | omega | (simp; done) | (simp; omega) | (have := cutA_len s 59; have := cutB_len s 59; omega))) ?_
 clear HE HS; rintro _ G2 w a HS hle2 ⟨vA2, vc2, rfl, hcp2, hR2⟩ HE
 replace h8 := h8.le hle2
 replace hgw := hgw.le hle2
 replace hgd := hgd.le hle2
 refine o_move HE rfl rfl ?_; clear HE; intro a HE
 refine o_extract HE rfl rfl rfl ?_; clear HE; intro a HE
 refine o_extract HE rfl rfl rfl ?_; clear HE; intro a HE
 refine o_allocL [(0, _), (1, _)] HE rfl HS T.z33 ⟨rfl, rfl, trivial⟩ ?_; clear HE HS; intro B5 w a HS HE
 refine o_assign HE rfl rfl ?_; clear HE; intro a HE
 refine o_stA HE HS rfl rfl rfl T.a33 (.here .here) rfl ?_; clear HS; intro w HS
 refine hK _ _ ?_; clear hK K
 refine wp_seq_k (fun K5 hK4 => ?_)
 refine wp_seq_k (fun K hK => ?_); refine wp_region_lit ?_
 refine o_fld HE rfl rfl T.f33_0 ?_; clear HE; intro a HE
 refine o_ld HE rfl HS rfl T.s31 (.here .here) rfl ?_; clear HE; intro a HE
 refine o_neI HE rfl rfl rfl ?_; clear HE; intro a HE
 refine hK _ _ ?_; clear hK K
 refine cond HE rfl (fun h7 => ?_) (fun h7 => ?_)
 ·have h7r := h7; try simp only [zz1, zz2, zz3, zz4, zz5, zz6, zz7, zz8, zz9, zza, zzb] at h7
  refine wp_seq_k (fun K9 hK8 => ?_)
  replace HS := HS.conv (L2 := [(0, _), (1, _)]) (.here .here) ⟨rfl, rfl, trivial⟩
  replace HE := HE.cut (L' := [(0, str s), (2, .pointer (some ⟨B2, 0, none⟩)), (3, .pointer (some ⟨B3, 0, none⟩)), (4, .slice vA2 ((linesS s).1.length) vc2), (5, .pointer (some ⟨B5, 0, none⟩)), (16, .tuple #[.slice vA2 ((linesS s).1.length) vc2, .agg #[.int .i64 (code8 (linesS s).2), .int .i64 ((linesS s).2)]]), (17, str s), (18, .tuple #[.slice vA2 ((linesS s).1.length) vc2, .agg #[.int .i64 (code8 (linesS s).2), .int .i64 ((linesS s).2)]]), (19, .slice vA2 ((linesS s).1.length) vc2), (20, .agg #[.int .i64 (code8 (linesS s).2), .int .i64 ((linesS s).2)]), (21, .pointer (some ⟨B5, 0, none⟩)), (22, .int .i64 (code8 (linesS s).2)), (23, .bool (!decide ((code8 (linesS s).2) = 0)))]) ⟨rfl, rfl, rfl, rfl, rfl, rfl, rfl, rfl, rfl, rfl, rfl, rfl, rfl, trivial⟩
  refine drawnF (fun f G' w => Heap.le G2 G' ∧ St w0 G [] G' w [[(B5, Cells 33 [(0, .int .i64 (code8 (linesS s).2)), (1, .int .i64 ((linesS s).2))])], [(B3, Cells 33 [(0, bif f 5 then .int .i64 6 else .int .i64 0), (1, bif f 5 then .int .i64 ((linesS s).2) else .int .i64 0)])], [(B2, Cells 26 [(0, bif f 4 then .int .i64 0 else .int .i64 0), (1, bif f 4 then .int .i64 0 else .int .i64 0), (2, bif f 4 then .int .i64 0 else .int .i64 0), (3, bif f 4 then .int .i64 0 else .int .i64 0), (4, bif f 4 then .int .i64 0 else .int .i64 0), (5, bif f 4 then .int .i64 0 else .int .i64 0), (6, bif f 4 then .int .i64 0 else .int .i64 0), (7, bif f 4 then .int .i64 0 else .int .i64 0), (8, bif f 4 then .int .i64 0 else .int .i64 0), (9, bif f 4 then .int .i64 0 else .int .i64 0), (10, bif f 4 then .int .i64 0 else .int .i64 0), (11, bif f 4 then .int .i64 0 else .int .i64 0), (12, bif f 4 then .bool false else .bool false), (13, bif f 4 then .bool false else .bool false)])]]) [fun v _ => v = .agg #[.int .i64 0, .int .i64 0, .int .i64 0, .int .i64 0, .int .i64 0, .int .i64 0, .int .i64 0, .int .i64 0, .int .i64 0, .int .i64 0, .int .i64 0, .int .i64 0, .bool false, .bool false], fun v _ => v = .pointer (some ⟨B5, 1, none⟩), fun v _ => v = .int .i64 ((linesS s).2), fun v _ => v = .agg #[.int .i64 6, .int .i64 ((linesS s).2)], fun _ _ => True, fun _ _ => True] [] T.mix rfl HE ⟨Heap.le.refl _, HS.drew⟩ rfl (by simp) (AllM.get ⟨fun _ _ _ _ h => h, fun _ _ _ _ h => h, fun _ _ _ _ h => h, fun _ _ _ _ h => h, fun _ _ _ _ h => h, fun _ _ _ _ h => h, trivial⟩) ⟨?_, ?_, ?_, ?_, ?_, ?_, trivial⟩ ?_
  ·intro a w G1 f hcl hfi hon hW HE hp hO; obtain ⟨hl, HS⟩ := hW
   refine o_build (cs := #[.int .i64 0, .int .i64 0, .int .i64 0, .int .i64 0, .int .i64 0, .int .i64 0, .int .i64 0, .int .i64 0, .int .i64 0, .int .i64 0, .int .i64 0, .int .i64 0, .bool false, .bool false]) HE rfl rfl (by kernel_rfl) ?_; clear HE; intro a HE
   exact ⟨_, _, Heap.le.refl _, ⟨hl, HS⟩, fun d hd => (by cases hd; exact HE.get _ _ rfl), HE.defers, rfl⟩
  ·intro a w G1 f hcl hfi hon hW HE hp hO; obtain ⟨hl, HS⟩ := hW
   refine o_fld HE rfl rfl T.f33_1 ?_; clear HE; intro a HE
   exact ⟨_, _, Heap.le.refl _, ⟨hl, HS⟩, fun d hd => (by cases hd; exact HE.get _ _ rfl), HE.defers, rfl⟩
  ·intro a w G1 f hcl hfi hon hW HE hp hO; obtain ⟨hl, HS⟩ := hW
   obtain ⟨_, e1, rfl⟩ := hp 1 25 _ (hon 1 rfl) rfl rfl; replace HE := HE.add e1
   refine o_ld HE rfl HS rfl T.s3 (.here .here) rfl ?_; clear HE; intro a HE
   exact ⟨_, _, Heap.le.refl _, ⟨hl, HS⟩, fun d hd => (by cases hd; exact HE.get _ _ rfl), HE.defers, rfl⟩
  ·intro a w G1 f hcl hfi hon hW HE hp hO; obtain ⟨hl, HS⟩ := hW
   obtain ⟨_, e2, rfl⟩ := hp 2 26 _ (hon 2 rfl) rfl rfl; replace HE := HE.add e2
   refine o_build (cs := #[.int .i64 6, .int .i64 ((linesS s).2)]) HE rfl rfl (by kernel_rfl) ?_; clear HE; intro a HE
   exact ⟨_, _, Heap.le.refl _, ⟨hl, HS⟩, fun d hd => (by cases hd; exact HE.get _ _ rfl), HE.defers, rfl⟩
  ·intro a w G1 f hcl hfi hon hW HE hp hO; obtain ⟨hl, HS⟩ := hW
   obtain ⟨_, e0, rfl⟩ := hp 0 24 _ (hon 0 rfl) rfl rfl; replace HE := HE.add e0
   refine o_stA HE HS rfl rfl rfl T.a26 (.there (.there (.here .here))) rfl ?_; clear HS; intro w HS
   replace HS := HS.conv (L2 := [(0, _), (1, _), (2, _), (3, _), (4, _), (5, _), (6, _), (7, _), (8, _), (9, _), (10, _), (11, _), (12, _), (13, _)]) (.there (.there (.here .here))) ⟨rfl, rfl, rfl, rfl, rfl, rfl, rfl, rfl, rfl, rfl, rfl, rfl, rfl, rfl, trivial⟩
   exact ⟨.bool true, _, Heap.le.refl _, ⟨hl, HS⟩, fun d hd => (by cases hd), HE.defers, trivial⟩
  ·intro a w G1 f hcl hfi hon hW HE hp hO; obtain ⟨hl, HS⟩ := hW
   obtain ⟨_, e3, rfl⟩ := hp 3 27 _ (hon 3 rfl) rfl rfl; replace HE := HE.add e3
   refine o_stA HE HS rfl rfl rfl T.a33 (.there (.here .here)) rfl ?_; clear HS; intro w HS
   replace HS := HS.conv (L2 := [(0, _), (1, _)]) (.there (.here .here)) ⟨rfl, rfl, trivial⟩
   exact ⟨.bool true, _, Heap.le.refl _, ⟨hl, HS⟩, fun d hd => (by cases hd), HE.defers, trivial⟩
  clear HE HS; intro a w G10 f hle11 hall HW HE hp; obtain ⟨_, HS⟩ := HW
  have hfw4 := hall 4 (by decide)
  have hfw5 := hall 5 (by decide)
  simp only [hfw4, hfw5, cond_true] at HS
  replace h8 := h8.le hle11
  replace hgw := hgw.le hle11
  replace hgd := hgd.le hle11
  replace hR2 := hR2.le hle11
  clear hp hall
  refine hK8 _ _ ?_; clear hK8
  refine wp_ret ?_
  show Q .ret _ _
  refine ret hQ HE rfl (HE.resA HS rfl T.a26 (.there (.there (.here .here))) rfl (HE.resA HS rfl T.a33 (.there (.here .here)) rfl .nil)) ⟨_, _, HS.stop (List.nil_sublist _), rfl, ?_⟩
  have e : parseP s = (P0, (linesS s).2) := by
   unfold parseP
   rw [if_neg (by intro h0; rw [h0] at h7; exact absurd h7 (by decide))]
  have e2 : failC (linesS s).2 = 6 := if_neg (by intro h0; rw [h0] at h7; exact absurd h7 (by decide))
  show _ = _
  rw [e]
  show _ = Value.tuple #[_, .agg #[.int .i64 (failC (linesS s).2), _]]
  rw [e2]
  rfl
 ·have h7r := h7; try simp only [zz1, zz2, zz3, zz4, zz5, zz6, zz7, zz8, zz9, zza, zzb] at h7
  refine wp_skip ?_
  refine hK4 _ _ ?_; clear hK4
  refine wp_seq_k (fun K hK => ?_); refine wp_region_lit ?_
  refine o_allocL [(0, _), (1, _), (2, _), (3, _), (4, _), (5, _), (6, _), (7, _), (8, _), (9, _), (10, _), (11, _), (12, _), (13, _)] HE rfl HS T.z26 ⟨rfl, rfl, rfl, rfl, rfl, rfl, rfl, rfl, rfl, rfl, rfl, rfl, rfl, rfl, trivial⟩ ?_; clear HE HS; intro B6 w a HS HE
  refine hK _ _ ?_; clear hK K
  refine wp_seq_k (fun K hK => ?_); refine wp_region_lit ?_
  refine o_call HE rfl HS rfl rfl T.g37 (c_kinds _ _ HS.sub hgd) ?_
  clear HE HS; rintro _ G13 w a HS hle13 ⟨vA13, vc13, rfl, hcp13, hR13⟩ HE
  replace h8 := h8.le hle13
  replace hgw := hgw.le hle13
  replace hgd := hgd.le hle13
  replace hR2 := hR2.le hle13
  refine o_assign HE rfl rfl ?_; clear HE; intro a HE
  refine hK _ _ ?_; clear hK K
  refine wp_seq_k (fun K hK => ?_); refine wp_region_lit ?_
  refine o_move HE rfl rfl ?_; clear HE; intro a HE
  refine o_lenL HE rfl rfl Tryd.underlying64 ?_; clear HE; intro a HE
  refine o_make1 (n := 9) HE rfl HS rfl rfl T.p66 T.z4 (by decide) (by decide) ?_; clear HE HS; intro B31 w a HS HE; replace HS := HS.turnP (q := Arr 4 (List.replicate 9 (.bool false))) (.here .here) (fun _ h => h)
  refine o_assign HE rfl rfl ?_; clear HE; intro a HE
  refine hK _ _ ?_; clear hK K
  refine wp_seq_k (fun K17 hK16 => ?_)
  refine wp_seq_k (fun K hK => ?_); refine wp_region_lit ?_
  refine o_move HE rfl rfl ?_; clear HE; intro a HE
  refine o_lenL HE rfl rfl Tryd.underlying29 ?_; clear HE; intro a HE
  refine o_move HE rfl rfl ?_; clear HE; intro a HE
  refine hK _ _ ?_; clear hK K
  refine wp_block ?_
  replace HS := HS.drop (M' := [_, _, _, _]) (sub_keep (sub_keep (sub_drop (sub_keep (sub_keep sub_nil)))))
  refine loop (fun (y : Nat × Pol × List Bool) a' w' => ∃ GL19, Heap.le G13 GL19 ∧ St w0 G [] GL19 w' [[(B31, Arr 4 (y.2.2.map Value.bool))], [(B6, Cells 26 [(0, .int .i64 y.2.1.r0.way), (1, .int .i64 y.2.1.r0.size), (2, .int .i64 y.2.1.r1.way), (3, .int .i64 y.2.1.r1.size), (4, .int .i64 y.2.1.r2.way), (5, .int .i64 y.2.1.r2.size), (6, .int .i64 y.2.1.r3.way), (7, .int .i64 y.2.1.r3.size), (8, .int .i64 y.2.1.r4.way), (9, .int .i64 y.2.1.r4.size), (10, .int .i64 y.2.1.time), (11, .int .i64 y.2.1.note), (12, .bool y.2.1.loose), (13, .bool y.2.1.force)])], [(B3, Cells 33 [(0, .int .i64 0), (1, .int .i64 0)])], [(B2, Cells 26 [(0, .int .i64 0), (1, .int .i64 0), (2, .int .i64 0), (3, .int .i64 0), (4, .int .i64 0), (5, .int .i64 0), (6, .int .i64 0), (7, .int .i64 0), (8, .int .i64 0), (9, .int .i64 0), (10, .int .i64 0), (11, .int .i64 0), (12, .bool false), (13, .bool false)])]] ∧ Env a' 86 [] [(2, .pointer (some ⟨B2, 0, none⟩)), (3, .pointer (some ⟨B3, 0, none⟩)), (4, .slice vA2 ((linesS s).1.length) vc2), (6, .pointer (some ⟨B6, 0, none⟩)), (7, .slice vA13 9 vc13), (8, .slice (some ⟨B31, 0, none⟩) 9 9), (32, .slice vA2 ((linesS s).1.length) vc2), (33, .int .i64 ((linesS s).1.length : Int)), (34, .int .i64 ((y.1 : Nat) : Int))] ∧ (y.1 ≤ (linesS s).1.length ∧ y.2.2.length = 9 ∧ goP 0 (linesS s).1 P0 (List.replicate 9 false) = goP ((y.1 : Nat) : Int) ((linesS s).1.drop y.1) y.2.1 y.2.2)) (fun (y : Nat × Pol × List Bool) => (linesS s).1.length - y.1) (0, P0, List.replicate 9 false) ⟨_, Heap.le.refl _, HS, HE.cut ⟨rfl, rfl, rfl, rfl, rfl, rfl, rfl, rfl, rfl, trivial⟩, ⟨Nat.zero_le _, rfl, rfl⟩⟩ ?_
  clear HE HS; intro y a w ⟨GL19, hle20, HS, HE, ⟨hy1, hy2, hy3⟩⟩
  replace h8 := h8.le hle20
  replace hgw := hgw.le hle20
  replace hgd := hgd.le hle20
  replace hR2 := hR2.le hle20
  replace hR13 := hR13.le hle20
  refine wp_seq_k (fun K hK => ?_); refine wp_region_lit ?_
  refine o_lss HE rfl rfl rfl ?_; clear HE; intro a HE
  refine hK _ _ ?_; clear hK K
  refine wp_seq_k (fun K23 hK22 => ?_)
  refine cond HE rfl (fun h24 => ?_) (fun h24 => ?_)
  ·have h24r := h24; try simp only [zz1, zz2, zz3, zz4, zz5, zz6, zz7, zz8, zz9, zza, zzb] at h24
   refine wp_skip ?_
   refine hK22 _ _ ?_; clear hK22
   refine wp_seq_k (fun K26 hK25 => ?_)
   refine wp_block ?_
   refine wp_seq_k (fun K hK => ?_); refine wp_region_lit ?_
   refine o_move HE rfl rfl ?_; clear HE; intro a HE
   have hi27 : ((y.1 : Nat) : Int).toNat < ((linesS s).1).length := by omega
   obtain ⟨eb27, eo27, hA27, el27⟩ := Rd.at hR2 (List.getElem?_eq_getElem hi27); cases hA27
   obtain ⟨x27, ex27⟩ : ∃ x, ((linesS s).1)[((y.1 : Nat) : Int).toNat] = x := ⟨_, rfl⟩; rw [ex27] at el27
   have el27 := kof_open (enc := fun l => str l) el27
   refine o_ixL HE rfl rfl rfl T.l29 ⟨by omega, by omega⟩ ?_; clear HE; intro a HE
   refine o_ldI HE rfl HS rfl T.s9 el27 (j := 0) rfl rfl ?_; clear HE; intro a HE
   refine o_assign HE rfl rfl ?_; clear HE; intro a HE
   refine o_assign HE rfl rfl ?_; clear HE; intro a HE
   refine hK _ _ ?_; clear hK K
   refine wp_seq_k (fun K hK => ?_); refine wp_region_lit ?_
   have hlsl := linesS_len s
   have hllx27 : x27.length ≤ 4294967280 := by have := lines_mem (s := s) (x := x27) (by rw [← ex27]; exact List.getElem_mem _); omega
   refine o_move HE rfl rfl ?_; clear HE; intro a HE
   refine o_call HE rfl HS rfl rfl T.g38 (c_words x27 _ _ HS.sub m8 h8 (by first | omega | (simp; done) | (simp; omega) | (have := cutA_len s 59; have := cutB_len s 59; omega))) ?_
   clear HE HS; rintro _ G29 w a HS hle29 ⟨vA29, vc29, rfl, hcp29, hR29⟩ HE
   replace h8 := h8.le hle29
   replace hgw := hgw.le hle29
   replace hgd := hgd.le hle29
   replace hR2 := hR2.le hle29
   replace hR13 := hR13.le hle29
   refine o_move HE rfl rfl ?_; clear HE; intro a HE
   refine o_extract HE rfl rfl rfl ?_; clear HE; intro a HE
   refine o_extract HE rfl rfl rfl ?_; clear HE; intro a HE
   refine o_assign HE rfl rfl ?_; clear HE; intro a HE
   refine o_assign HE rfl rfl ?_; clear HE; intro a HE
   refine hK _ _ ?_; clear hK K
   refine wp_seq_k (fun K hK => ?_); refine wp_region_lit ?_
   refine o_assign HE rfl rfl ?_; clear HE; intro a HE
   refine hK _ _ ?_; clear hK K
   refine wp_seq_k (fun K33 hK32 => ?_)
   refine wp_seq_k (fun K hK => ?_); refine wp_region_lit ?_
   refine o_move HE rfl rfl ?_; clear HE; intro a HE
   refine o_lenL HE rfl rfl Tryd.underlying64 ?_; clear HE; intro a HE
   refine o_move HE rfl rfl ?_; clear HE; intro a HE
   refine hK _ _ ?_; clear hK K
   refine wp_block ?_
   refine loop (fun (z : Nat × Pol × List Bool × Bool) a' w' => ∃ GL35, Heap.le G29 GL35 ∧ St w0 G [] GL35 w' [[(B31, Arr 4 (z.2.2.1.map Value.bool))], [(B6, Cells 26 [(0, .int .i64 z.2.1.r0.way), (1, .int .i64 z.2.1.r0.size), (2, .int .i64 z.2.1.r1.way), (3, .int .i64 z.2.1.r1.size), (4, .int .i64 z.2.1.r2.way), (5, .int .i64 z.2.1.r2.size), (6, .int .i64 z.2.1.r3.way), (7, .int .i64 z.2.1.r3.size), (8, .int .i64 z.2.1.r4.way), (9, .int .i64 z.2.1.r4.size), (10, .int .i64 z.2.1.time), (11, .int .i64 z.2.1.note), (12, .bool z.2.1.loose), (13, .bool z.2.1.force)])], [(B3, Cells 33 [(0, .int .i64 0), (1, .int .i64 0)])], [(B2, Cells 26 [(0, .int .i64 0), (1, .int .i64 0), (2, .int .i64 0), (3, .int .i64 0), (4, .int .i64 0), (5, .int .i64 0), (6, .int .i64 0), (7, .int .i64 0), (8, .int .i64 0), (9, .int .i64 0), (10, .int .i64 0), (11, .int .i64 0), (12, .bool false), (13, .bool false)])]] ∧ Env a' 86 [] [(2, .pointer (some ⟨B2, 0, none⟩)), (3, .pointer (some ⟨B3, 0, none⟩)), (4, .slice (some ⟨eb27, eo27, none⟩) ((linesS s).1.length) vc2), (6, .pointer (some ⟨B6, 0, none⟩)), (7, .slice vA13 9 vc13), (8, .slice (some ⟨B31, 0, none⟩) 9 9), (9, .int .i64 ((y.1 : Nat) : Int)), (11, .slice vA29 ((wordsS x27).1.length) vc29), (12, .int .i64 ((wordsS x27).2)), (13, .bool z.2.2.2), (32, .slice (some ⟨eb27, eo27, none⟩) ((linesS s).1.length) vc2), (33, .int .i64 ((linesS s).1.length : Int)), (34, .int .i64 ((y.1 : Nat) : Int)), (44, .slice vA13 9 vc13), (45, .int .i64 9), (46, .int .i64 ((z.1 : Nat) : Int))] ∧ (z.1 ≤ 9 ∧ z.2.2.1.length = 9 ∧ kS (decide ((wordsS x27).2 = 0)) (wordsS x27).1 y.2.1 y.2.2 z.1 = z.2)) (fun (z : Nat × Pol × List Bool × Bool) => 9 - z.1) (0, y.2.1, y.2.2, false) ⟨_, Heap.le.refl _, HS, HE.cut ⟨rfl, rfl, rfl, rfl, rfl, rfl, rfl, rfl, rfl, rfl, rfl, rfl, rfl, rfl, rfl, rfl, trivial⟩, ⟨Nat.zero_le _, hy2, rfl⟩⟩ ?_
   clear HE HS; intro z a w ⟨GL35, hle36, HS, HE, ⟨hz1, hz2, hz3⟩⟩
   replace h8 := h8.le hle36
   replace hgw := hgw.le hle36
   replace hgd := hgd.le hle36
   replace hR2 := hR2.le hle36
   replace hR13 := hR13.le hle36
   replace hR29 := hR29.le hle36
   refine wp_seq_k (fun K hK => ?_); refine wp_region_lit ?_
   refine o_lss HE rfl rfl rfl ?_; clear HE; intro a HE
   refine hK _ _ ?_; clear hK K
   refine wp_seq_k (fun K39 hK38 => ?_)
   refine cond HE rfl (fun h40 => ?_) (fun h40 => ?_)
   ·have h40r := h40; try simp only [zz1, zz2, zz3, zz4, zz5, zz6, zz7, zz8, zz9, zza, zzb] at h40
    refine wp_skip ?_
    refine hK38 _ _ ?_; clear hK38
    refine wp_seq_k (fun K42 hK41 => ?_)
    refine wp_block ?_
    refine wp_seq_k (fun K hK => ?_); refine wp_region_lit ?_
    refine o_move HE rfl rfl ?_; clear HE; intro a HE
    have hi43 : ((z.1 : Nat) : Int).toNat < (List.range 9).length := by (simp; omega)
    obtain ⟨eb43, eo43, hA43, el43⟩ := Rd.at hR13 (List.getElem?_eq_getElem hi43); cases hA43
    obtain ⟨x43, ex43⟩ : ∃ x, (List.range 9)[((z.1 : Nat) : Int).toNat] = x := ⟨_, rfl⟩; rw [ex43] at el43
    obtain ⟨fK43, cK43, hFo43, el43⟩ := kKind_open el43
    refine o_ixL HE rfl rfl rfl T.l64 ⟨by omega, by omega⟩ ?_; clear HE; intro a HE
    refine o_ldIA HE rfl HS rfl el43 T.a71 ?_; clear HE; intro a HE
    have hxk43 : x43 = z.1 := by rw [← ex43]; simp
    refine o_allocL [(0, _), (1, _)] HE rfl HS T.z71 ⟨rfl, rfl, trivial⟩ ?_; clear HE HS; intro B15 w a HS HE
    refine o_assign HE rfl rfl ?_; clear HE; intro a HE
    refine o_stA HE HS rfl rfl rfl T.a71 (.here .here) rfl ?_; clear HS; intro w HS
    refine hK _ _ ?_; clear hK K
    refine wp_seq_k (fun K46 hK45 => ?_)
    replace HS := HS.conv (L2 := [(0, _), (1, _)]) (.here .here) ⟨rfl, rfl, trivial⟩
    obtain ⟨eb47, eo47, x47, hc47⟩ : ∃ eb eo x, ((decide (((wordsS x27).2) = 0)) = true → vA29 = some ⟨eb, eo, none⟩ ∧ ElAt Knd.s GL35 eb (eo + (0 : Int).toNat * 1) x ∧ ∃ h : (0 : Int).toNat < ((wordsS x27).1).length, ((wordsS x27).1)[(0 : Int).toNat] = x) := by
     by_cases hg : (decide (((wordsS x27).2) = 0)) = true
     ·have hg2 := hg; simp only [decide_eq_true_eq, decide_eq_false_iff_not] at hg2; have hi : (0 : Int).toNat < ((wordsS x27).1).length := by exact words_pos hg2
      obtain ⟨eb, eo, hA, el⟩ := Rd.at hR29 (List.getElem?_eq_getElem hi)
      exact ⟨eb, eo, _, fun _ => ⟨hA, el, hi, rfl⟩⟩
     ·exact ⟨0, 0, default, fun h => absurd h hg⟩
    replace HE := HE.cut (L' := [(2, .pointer (some ⟨B2, 0, none⟩)), (3, .pointer (some ⟨B3, 0, none⟩)), (4, .slice (some ⟨eb27, eo27, none⟩) ((linesS s).1.length) vc2), (6, .pointer (some ⟨B6, 0, none⟩)), (7, .slice (some ⟨eb43, eo43, none⟩) 9 vc13), (8, .slice (some ⟨B31, 0, none⟩) 9 9), (9, .int .i64 ((y.1 : Nat) : Int)), (11, .slice vA29 ((wordsS x27).1.length) vc29), (12, .int .i64 ((wordsS x27).2)), (13, .bool z.2.2.2), (14, .int .i64 ((z.1 : Nat) : Int)), (15, .pointer (some ⟨B15, 0, none⟩)), (32, .slice (some ⟨eb27, eo27, none⟩) ((linesS s).1.length) vc2), (33, .int .i64 ((linesS s).1.length : Int)), (34, .int .i64 ((y.1 : Nat) : Int)), (44, .slice (some ⟨eb43, eo43, none⟩) 9 vc13), (45, .int .i64 9), (46, .int .i64 ((z.1 : Nat) : Int)), (47, .bool (decide (((z.1 : Nat) : Int) < 9))), (48, .int .i64 ((z.1 : Nat) : Int)), (49, .pointer (some ⟨eb43, eo43 + ((z.1 : Nat) : Int).toNat * 2, none⟩)), (50, .agg #[str (wordK x43), .func (.func fK43) #[] cK43])]) ⟨rfl, rfl, rfl, rfl, rfl, rfl, rfl, rfl, rfl, rfl, rfl, rfl, rfl, rfl, rfl, rfl, rfl, rfl, rfl, rfl, rfl, rfl, trivial⟩
    refine drawnP [fun v => v = .int .i64 ((wordsS x27).2), fun v => v = .bool (decide (((wordsS x27).2) = 0)), fun v => v = .bool (decide (((wordsS x27).2) = 0)), fun v => (decide (((wordsS x27).2) = 0)) = true → v = .slice vA29 ((wordsS x27).1.length) vc29, fun v => (decide (((wordsS x27).2) = 0)) = true → v = .pointer (some ⟨eb47, eo47 + (0 : Int).toNat * 1, none⟩), fun v => (decide (((wordsS x27).2) = 0)) = true → v = str x47, fun v => (decide (((wordsS x27).2) = 0)) = true → v = .pointer (some ⟨B15, 0, none⟩), fun v => (decide (((wordsS x27).2) = 0)) = true → v = str (wordK x43), fun v => (decide (((wordsS x27).2) = 0)) = true → v = .bool (x47 == (wordK x43)), fun v => v = .bool ((decide (((wordsS x27).2) = 0)) && (x47 == (wordK x43))), fun v => v = .bool ((decide (((wordsS x27).2) = 0)) && (x47 == (wordK x43))), fun v => ((decide (((wordsS x27).2) = 0)) && (x47 == (wordK x43))) = true → v = .slice (some ⟨B31, 0, none⟩) 9 9, fun v => ((decide (((wordsS x27).2) = 0)) && (x47 == (wordK x43))) = true → v = .int .i64 ((z.1 : Nat) : Int), fun v => ((decide (((wordsS x27).2) = 0)) && (x47 == (wordK x43))) = true → v = .pointer (some ⟨B31, 0 + (((z.1 : Nat) : Int)).toNat * 1, none⟩), fun v => ((decide (((wordsS x27).2) = 0)) && (x47 == (wordK x43))) = true → v = .bool (z.2.2.1.getD z.1 false), fun v => ((decide (((wordsS x27).2) = 0)) && (x47 == (wordK x43))) = true → v = .bool (!(z.2.2.1.getD z.1 false)), fun v => v = .bool (((decide (((wordsS x27).2) = 0)) && (x47 == (wordK x43))) && (!(z.2.2.1.getD z.1 false)))] T.mix rfl HE HS rfl ⟨?_, ?_, ?_, ?_, ?_, ?_, ?_, ?_, ?_, ?_, ?_, ?_, ?_, ?_, ?_, ?_, ?_, trivial⟩ ?_
    ·intro a w G1 hl HS HE hp
     refine o_move HE rfl rfl ?_; clear HE; intro a HE
     exact ⟨_, _, HS, rfl, HE.get _ _ rfl, HE.defers, rfl⟩
    ·intro a w G1 hl HS HE hp
     obtain ⟨_, e0, rfl⟩ := hp 0 51 _ rfl rfl rfl; replace HE := HE.add e0
     refine o_eqI HE rfl rfl rfl ?_; clear HE; intro a HE
     exact ⟨_, _, HS, rfl, HE.get _ _ rfl, HE.defers, rfl⟩
    ·intro a w G1 hl HS HE hp
     obtain ⟨_, e1, rfl⟩ := hp 1 52 _ rfl rfl rfl; replace HE := HE.add e1
     refine o_move HE rfl rfl ?_; clear HE; intro a HE
     exact ⟨_, _, HS, rfl, HE.get _ _ rfl, HE.defers, rfl⟩
    ·intro a w G1 hl HS HE hp
     obtain ⟨_, eg, rfl⟩ := hp 2 53 _ rfl rfl rfl; replace HE := HE.add eg
     refine (Bool.eq_false_or_eq_true (decide (((wordsS x27).2) = 0))).elim (fun hb => ?_) (fun hb => ?_)
     ·skip
      refine op_on HE rfl rfl hb ?_
      refine o_move HE rfl rfl ?_; clear HE; intro a HE
      exact ⟨_, _, HS, rfl, HE.get _ _ rfl, HE.defers, fun _ => rfl⟩
     ·skip
      refine g_off HE rfl rfl rfl hb ?_; clear HE; intro a HE
      exact ⟨_, _, HS, rfl, HE.get _ _ rfl, HE.defers, fun h => absurd (hb.symm.trans h) (by decide)⟩
    ·intro a w G1 hl HS HE hp
     obtain ⟨_, eg, rfl⟩ := hp 2 53 _ rfl rfl rfl; replace HE := HE.add eg
     refine (Bool.eq_false_or_eq_true (decide (((wordsS x27).2) = 0))).elim (fun hb => ?_) (fun hb => ?_)
     ·skip
      obtain ⟨_, e3, h3v⟩ := hp 3 54 _ rfl rfl rfl; cases h3v hb; replace HE := HE.add e3
      refine op_on HE rfl rfl hb ?_
      have hbk := hb; simp only [decide_eq_true_eq, decide_eq_false_iff_not] at hbk
      obtain ⟨hA47, el47, hi47, ex47⟩ := hc47 hb; cases hA47
      refine o_ixL HE rfl rfl rfl T.l29 ⟨by omega, by omega⟩ ?_; clear HE; intro a HE
      exact ⟨_, _, HS, rfl, HE.get _ _ rfl, HE.defers, fun _ => rfl⟩
     ·skip
      refine g_off HE rfl rfl rfl hb ?_; clear HE; intro a HE
      exact ⟨_, _, HS, rfl, HE.get _ _ rfl, HE.defers, fun h => absurd (hb.symm.trans h) (by decide)⟩
    ·intro a w G1 hl HS HE hp
     obtain ⟨_, eg, rfl⟩ := hp 2 53 _ rfl rfl rfl; replace HE := HE.add eg
     refine (Bool.eq_false_or_eq_true (decide (((wordsS x27).2) = 0))).elim (fun hb => ?_) (fun hb => ?_)
     ·skip
      obtain ⟨_, e4, h4v⟩ := hp 4 55 _ rfl rfl rfl; cases h4v hb; replace HE := HE.add e4
      refine op_on HE rfl rfl hb ?_
      obtain ⟨_, el47, _, _⟩ := hc47 hb
      have el47 := kof_open (enc := fun l => str l) el47
      refine o_ldI HE rfl HS rfl T.s9 (el47.le hl) (j := 0) rfl rfl ?_; clear HE; intro a HE
      exact ⟨_, _, HS, rfl, HE.get _ _ rfl, HE.defers, fun _ => rfl⟩
     ·skip
      refine g_off HE rfl rfl rfl hb ?_; clear HE; intro a HE
      exact ⟨_, _, HS, rfl, HE.get _ _ rfl, HE.defers, fun h => absurd (hb.symm.trans h) (by decide)⟩
    ·intro a w G1 hl HS HE hp
     obtain ⟨_, eg, rfl⟩ := hp 2 53 _ rfl rfl rfl; replace HE := HE.add eg
     refine (Bool.eq_false_or_eq_true (decide (((wordsS x27).2) = 0))).elim (fun hb => ?_) (fun hb => ?_)
     ·skip
      refine op_on HE rfl rfl hb ?_
      refine o_fld HE rfl rfl T.f71_0 ?_; clear HE; intro a HE
      exact ⟨_, _, HS, rfl, HE.get _ _ rfl, HE.defers, fun _ => rfl⟩
     ·skip
      refine g_off HE rfl rfl rfl hb ?_; clear HE; intro a HE
      exact ⟨_, _, HS, rfl, HE.get _ _ rfl, HE.defers, fun h => absurd (hb.symm.trans h) (by decide)⟩
    ·intro a w G1 hl HS HE hp
     obtain ⟨_, eg, rfl⟩ := hp 2 53 _ rfl rfl rfl; replace HE := HE.add eg
     refine (Bool.eq_false_or_eq_true (decide (((wordsS x27).2) = 0))).elim (fun hb => ?_) (fun hb => ?_)
     ·skip
      obtain ⟨_, e6, h6v⟩ := hp 6 57 _ rfl rfl rfl; cases h6v hb; replace HE := HE.add e6
      refine op_on HE rfl rfl hb ?_
      refine o_ld HE rfl HS rfl T.s9 (.here .here) rfl ?_; clear HE; intro a HE
      exact ⟨_, _, HS, rfl, HE.get _ _ rfl, HE.defers, fun _ => rfl⟩
     ·skip
      refine g_off HE rfl rfl rfl hb ?_; clear HE; intro a HE
      exact ⟨_, _, HS, rfl, HE.get _ _ rfl, HE.defers, fun h => absurd (hb.symm.trans h) (by decide)⟩
    ·intro a w G1 hl HS HE hp
     obtain ⟨_, eg, rfl⟩ := hp 2 53 _ rfl rfl rfl; replace HE := HE.add eg
     refine (Bool.eq_false_or_eq_true (decide (((wordsS x27).2) = 0))).elim (fun hb => ?_) (fun hb => ?_)
     ·skip
      obtain ⟨_, e5, h5v⟩ := hp 5 56 _ rfl rfl rfl; cases h5v hb; replace HE := HE.add e5
      obtain ⟨_, e7, h7v⟩ := hp 7 58 _ rfl rfl rfl; cases h7v hb; replace HE := HE.add e7
      refine op_on HE rfl rfl hb ?_
      refine o_eqS HE rfl rfl rfl ?_; clear HE; intro a HE
      exact ⟨_, _, HS, rfl, HE.get _ _ rfl, HE.defers, fun _ => rfl⟩
     ·skip
      refine g_off HE rfl rfl rfl hb ?_; clear HE; intro a HE
      exact ⟨_, _, HS, rfl, HE.get _ _ rfl, HE.defers, fun h => absurd (hb.symm.trans h) (by decide)⟩
    ·intro a w G1 hl HS HE hp
     obtain ⟨_, e2, rfl⟩ := hp 2 53 _ rfl rfl rfl; replace HE := HE.add e2
     refine (Bool.eq_false_or_eq_true (decide (((wordsS x27).2) = 0))).elim (fun hb => ?_) (fun hb => ?_)
     ·skip
      obtain ⟨_, e8, h8v⟩ := hp 8 59 _ rfl rfl rfl; cases h8v hb; replace HE := HE.add e8
      refine o_pick_t HE rfl rfl hb rfl ?_; clear HE; intro a HE
      exact ⟨_, _, HS, rfl, HE.get _ _ rfl, HE.defers, by rw [hb]; rfl⟩
     ·skip
      refine o_pick_f HE rfl rfl hb rfl ?_; clear HE; intro a HE
      exact ⟨_, _, HS, rfl, HE.get _ _ rfl, HE.defers, by rw [hb]; rfl⟩
    ·intro a w G1 hl HS HE hp
     obtain ⟨_, e9, rfl⟩ := hp 9 60 _ rfl rfl rfl; replace HE := HE.add e9
     refine o_move HE rfl rfl ?_; clear HE; intro a HE
     exact ⟨_, _, HS, rfl, HE.get _ _ rfl, HE.defers, rfl⟩
    ·intro a w G1 hl HS HE hp
     obtain ⟨_, eg, rfl⟩ := hp 10 61 _ rfl rfl rfl; replace HE := HE.add eg
     refine (Bool.eq_false_or_eq_true ((decide (((wordsS x27).2) = 0)) && (x47 == (wordK x43)))).elim (fun hb => ?_) (fun hb => ?_)
     ·skip
      refine op_on HE rfl rfl hb ?_
      refine o_move HE rfl rfl ?_; clear HE; intro a HE
      exact ⟨_, _, HS, rfl, HE.get _ _ rfl, HE.defers, fun _ => rfl⟩
     ·skip
      refine g_off HE rfl rfl rfl hb ?_; clear HE; intro a HE
      exact ⟨_, _, HS, rfl, HE.get _ _ rfl, HE.defers, fun h => absurd (hb.symm.trans h) (by decide)⟩
    ·intro a w G1 hl HS HE hp
     obtain ⟨_, eg, rfl⟩ := hp 10 61 _ rfl rfl rfl; replace HE := HE.add eg
     refine (Bool.eq_false_or_eq_true ((decide (((wordsS x27).2) = 0)) && (x47 == (wordK x43)))).elim (fun hb => ?_) (fun hb => ?_)
     ·skip
      refine op_on HE rfl rfl hb ?_
      refine o_move HE rfl rfl ?_; clear HE; intro a HE
      exact ⟨_, _, HS, rfl, HE.get _ _ rfl, HE.defers, fun _ => rfl⟩
     ·skip
      refine g_off HE rfl rfl rfl hb ?_; clear HE; intro a HE
      exact ⟨_, _, HS, rfl, HE.get _ _ rfl, HE.defers, fun h => absurd (hb.symm.trans h) (by decide)⟩
    ·intro a w G1 hl HS HE hp
     obtain ⟨_, eg, rfl⟩ := hp 10 61 _ rfl rfl rfl; replace HE := HE.add eg
     refine (Bool.eq_false_or_eq_true ((decide (((wordsS x27).2) = 0)) && (x47 == (wordK x43)))).elim (fun hb => ?_) (fun hb => ?_)
     ·skip
      obtain ⟨_, e11, h11v⟩ := hp 11 62 _ rfl rfl rfl; cases h11v hb; replace HE := HE.add e11
      obtain ⟨_, e12, h12v⟩ := hp 12 63 _ rfl rfl rfl; cases h12v hb; replace HE := HE.add e12
      refine op_on HE rfl rfl hb ?_
      refine o_ixL HE rfl rfl rfl T.l66 (by omega) ?_; clear HE; intro a HE
      exact ⟨_, _, HS, rfl, HE.get _ _ rfl, HE.defers, fun _ => rfl⟩
     ·skip
      refine g_off HE rfl rfl rfl hb ?_; clear HE; intro a HE
      exact ⟨_, _, HS, rfl, HE.get _ _ rfl, HE.defers, fun h => absurd (hb.symm.trans h) (by decide)⟩
    ·intro a w G1 hl HS HE hp
     obtain ⟨_, eg, rfl⟩ := hp 10 61 _ rfl rfl rfl; replace HE := HE.add eg
     refine (Bool.eq_false_or_eq_true ((decide (((wordsS x27).2) = 0)) && (x47 == (wordK x43)))).elim (fun hb => ?_) (fun hb => ?_)
     ·skip
      obtain ⟨_, e13, h13v⟩ := hp 13 64 _ rfl rfl rfl; cases h13v hb; replace HE := HE.add e13
      refine op_on HE rfl rfl hb ?_
      refine o_ldR HE rfl HS rfl T.s4 (.there (.here .here)) (said_at (by omega)) ?_; clear HE; intro a HE
      exact ⟨_, _, HS, rfl, HE.get _ _ rfl, HE.defers, fun _ => rfl⟩
     ·skip
      refine g_off HE rfl rfl rfl hb ?_; clear HE; intro a HE
      exact ⟨_, _, HS, rfl, HE.get _ _ rfl, HE.defers, fun h => absurd (hb.symm.trans h) (by decide)⟩
    ·intro a w G1 hl HS HE hp
     obtain ⟨_, eg, rfl⟩ := hp 10 61 _ rfl rfl rfl; replace HE := HE.add eg
     refine (Bool.eq_false_or_eq_true ((decide (((wordsS x27).2) = 0)) && (x47 == (wordK x43)))).elim (fun hb => ?_) (fun hb => ?_)
     ·skip
      obtain ⟨_, e14, h14v⟩ := hp 14 65 _ rfl rfl rfl; cases h14v hb; replace HE := HE.add e14
      refine op_on HE rfl rfl hb ?_
      refine o_not HE rfl rfl ?_; clear HE; intro a HE
      exact ⟨_, _, HS, rfl, HE.get _ _ rfl, HE.defers, fun _ => rfl⟩
     ·skip
      refine g_off HE rfl rfl rfl hb ?_; clear HE; intro a HE
      exact ⟨_, _, HS, rfl, HE.get _ _ rfl, HE.defers, fun h => absurd (hb.symm.trans h) (by decide)⟩
    ·intro a w G1 hl HS HE hp
     obtain ⟨_, e10, rfl⟩ := hp 10 61 _ rfl rfl rfl; replace HE := HE.add e10
     refine (Bool.eq_false_or_eq_true ((decide (((wordsS x27).2) = 0)) && (x47 == (wordK x43)))).elim (fun hb => ?_) (fun hb => ?_)
     ·skip
      obtain ⟨_, e15, h15v⟩ := hp 15 66 _ rfl rfl rfl; cases h15v hb; replace HE := HE.add e15
      refine o_pick_t HE rfl rfl hb rfl ?_; clear HE; intro a HE
      exact ⟨_, _, HS, rfl, HE.get _ _ rfl, HE.defers, by rw [hb]; rfl⟩
     ·skip
      refine o_pick_f HE rfl rfl hb rfl ?_; clear HE; intro a HE
      exact ⟨_, _, HS, rfl, HE.get _ _ rfl, HE.defers, by rw [hb]; rfl⟩
    clear HE HS; intro a w HS HE hp
    obtain ⟨_, e16, rfl⟩ := hp 16 67 _ rfl rfl; replace HE := HE.add e16
    clear hp
    refine hK45 _ _ ?_; clear hK45
    refine cond HE rfl (fun h48 => ?_) (fun h48 => ?_)
    ·have h48r := h48; try simp only [zz1, zz2, zz3, zz4, zz5, zz6, zz7, zz8, zz9, zza, zzb] at h48
     refine wp_seq_k (fun K hK => ?_); refine wp_region_lit ?_
     refine o_move HE rfl rfl ?_; clear HE; intro a HE
     refine o_move HE rfl rfl ?_; clear HE; intro a HE
     refine o_ixL HE rfl rfl rfl T.l66 (by omega) ?_; clear HE; intro a HE
     refine o_stR HE HS rfl rfl rfl T.s4 (.there (.here .here)) (by simp; omega) ?_; clear HS; intro w HS
     refine hK _ _ ?_; clear hK K
     have hmx43 : (((wordsS x27).1).drop (1 : Int).toNat).length ≤ 4294967281 := by have := wordsS_len x27; rw [List.length_drop]; omega
     have hms43 : ∀ x ∈ (((wordsS x27).1).drop (1 : Int).toNat), x.length ≤ 4294967280 := fun x hx => by have := words_mem (List.mem_of_mem_drop hx); omega
     replace HE := HE.cut (L' := [(2, .pointer (some ⟨B2, 0, none⟩)), (3, .pointer (some ⟨B3, 0, none⟩)), (4, .slice (some ⟨eb27, eo27, none⟩) ((linesS s).1.length) vc2), (6, .pointer (some ⟨B6, 0, none⟩)), (7, .slice (some ⟨eb43, eo43, none⟩) 9 vc13), (8, .slice (some ⟨B31, 0, none⟩) 9 9), (9, .int .i64 ((y.1 : Nat) : Int)), (11, .slice vA29 ((wordsS x27).1.length) vc29), (12, .int .i64 ((wordsS x27).2)), (14, .int .i64 ((z.1 : Nat) : Int)), (15, .pointer (some ⟨B15, 0, none⟩)), (32, .slice (some ⟨eb27, eo27, none⟩) ((linesS s).1.length) vc2), (33, .int .i64 ((linesS s).1.length : Int)), (34, .int .i64 ((y.1 : Nat) : Int)), (44, .slice (some ⟨eb43, eo43, none⟩) 9 vc13), (45, .int .i64 9), (46, .int .i64 ((z.1 : Nat) : Int)), (47, .bool (decide (((z.1 : Nat) : Int) < 9))), (48, .int .i64 ((z.1 : Nat) : Int)), (49, .pointer (some ⟨eb43, eo43 + ((z.1 : Nat) : Int).toNat * 2, none⟩)), (50, .agg #[str (wordK x43), .func (.func fK43) #[] cK43]), (67, .bool (((decide (((wordsS x27).2) = 0)) && (x47 == (wordK x43))) && (!(z.2.2.1.getD z.1 false)))), (68, .slice (some ⟨B31, 0, none⟩) 9 9), (69, .int .i64 ((z.1 : Nat) : Int)), (70, .pointer (some ⟨B31, 0 + (((z.1 : Nat) : Int)).toNat * 1, none⟩))]) ⟨rfl, rfl, rfl, rfl, rfl, rfl, rfl, rfl, rfl, rfl, rfl, rfl, rfl, rfl, rfl, rfl, rfl, rfl, rfl, rfl, rfl, rfl, rfl, rfl, rfl, trivial⟩
     refine drawnF (fun f G' w => Heap.le GL35 G' ∧ St w0 G [] G' w (bif f 4 then [[(B15, Cells 71 [(0, str (wordK x43)), (1, .func (.func fK43) #[] cK43)])], [(B31, Arr 4 (((z.2.2.1.map Value.bool)).set (0 + (((z.1 : Nat) : Int)).toNat * 1) (.bool true)))], [(B6, Cells 26 [(0, .int .i64 ((doS x43 z.2.1 (((wordsS x27).1).drop (1 : Int).toNat)).1.r0.way)), (1, .int .i64 ((doS x43 z.2.1 (((wordsS x27).1).drop (1 : Int).toNat)).1.r0.size)), (2, .int .i64 ((doS x43 z.2.1 (((wordsS x27).1).drop (1 : Int).toNat)).1.r1.way)), (3, .int .i64 ((doS x43 z.2.1 (((wordsS x27).1).drop (1 : Int).toNat)).1.r1.size)), (4, .int .i64 ((doS x43 z.2.1 (((wordsS x27).1).drop (1 : Int).toNat)).1.r2.way)), (5, .int .i64 ((doS x43 z.2.1 (((wordsS x27).1).drop (1 : Int).toNat)).1.r2.size)), (6, .int .i64 ((doS x43 z.2.1 (((wordsS x27).1).drop (1 : Int).toNat)).1.r3.way)), (7, .int .i64 ((doS x43 z.2.1 (((wordsS x27).1).drop (1 : Int).toNat)).1.r3.size)), (8, .int .i64 ((doS x43 z.2.1 (((wordsS x27).1).drop (1 : Int).toNat)).1.r4.way)), (9, .int .i64 ((doS x43 z.2.1 (((wordsS x27).1).drop (1 : Int).toNat)).1.r4.size)), (10, .int .i64 ((doS x43 z.2.1 (((wordsS x27).1).drop (1 : Int).toNat)).1.time)), (11, .int .i64 ((doS x43 z.2.1 (((wordsS x27).1).drop (1 : Int).toNat)).1.note)), (12, .bool ((doS x43 z.2.1 (((wordsS x27).1).drop (1 : Int).toNat)).1.loose)), (13, .bool ((doS x43 z.2.1 (((wordsS x27).1).drop (1 : Int).toNat)).1.force))])], [(B3, Cells 33 [(0, .int .i64 0), (1, .int .i64 0)])], [(B2, Cells 26 [(0, .int .i64 0), (1, .int .i64 0), (2, .int .i64 0), (3, .int .i64 0), (4, .int .i64 0), (5, .int .i64 0), (6, .int .i64 0), (7, .int .i64 0), (8, .int .i64 0), (9, .int .i64 0), (10, .int .i64 0), (11, .int .i64 0), (12, .bool false), (13, .bool false)])]] else [[(B15, Cells 71 [(0, str (wordK x43)), (1, .func (.func fK43) #[] cK43)])], [(B31, Arr 4 (((z.2.2.1.map Value.bool)).set (0 + (((z.1 : Nat) : Int)).toNat * 1) (.bool true)))], [(B6, Cells 26 [(0, .int .i64 z.2.1.r0.way), (1, .int .i64 z.2.1.r0.size), (2, .int .i64 z.2.1.r1.way), (3, .int .i64 z.2.1.r1.size), (4, .int .i64 z.2.1.r2.way), (5, .int .i64 z.2.1.r2.size), (6, .int .i64 z.2.1.r3.way), (7, .int .i64 z.2.1.r3.size), (8, .int .i64 z.2.1.r4.way), (9, .int .i64 z.2.1.r4.size), (10, .int .i64 z.2.1.time), (11, .int .i64 z.2.1.note), (12, .bool z.2.1.loose), (13, .bool z.2.1.force)])], [(B3, Cells 33 [(0, .int .i64 0), (1, .int .i64 0)])], [(B2, Cells 26 [(0, .int .i64 0), (1, .int .i64 0), (2, .int .i64 0), (3, .int .i64 0), (4, .int .i64 0), (5, .int .i64 0), (6, .int .i64 0), (7, .int .i64 0), (8, .int .i64 0), (9, .int .i64 0), (10, .int .i64 0), (11, .int .i64 0), (12, .bool false), (13, .bool false)])]])) [fun v _ => v = .pointer (some ⟨B15, 0 + 1, none⟩), fun v _ => v = .func (.func fK43) #[] cK43, fun v _ => v = .slice vA29 ((wordsS x27).1.length) vc29, fun v G' => ∃ Ad c, v = .slice Ad (((wordsS x27).1).drop (1 : Int).toNat).length c ∧ (((wordsS x27).1).drop (1 : Int).toNat).length ≤ c ∧ Rd Knd.s G' Ad (((wordsS x27).1).drop (1 : Int).toNat), fun v _ => v = .bool (doS x43 z.2.1 (((wordsS x27).1).drop (1 : Int).toNat)).2, fun v _ => v = .bool (doS x43 z.2.1 (((wordsS x27).1).drop (1 : Int).toNat)).2] [] T.mix rfl HE ⟨Heap.le.refl _, HS.drew⟩ rfl (by simp) (AllM.get ⟨fun _ _ _ _ h => h, fun _ _ _ _ h => h, fun _ _ _ _ h => h, fun _ _ _ h hx => SlV.mono h hx, fun _ _ _ _ h => h, fun _ _ _ _ h => h, trivial⟩) ⟨?_, ?_, ?_, ?_, ?_, ?_, trivial⟩ ?_
     
     ·intro a w G1 f hcl hfi hon hW HE hp hO; obtain ⟨hl, HS⟩ := hW
      refine o_fld HE rfl rfl T.f71_1 ?_; clear HE; intro a HE
      exact ⟨_, _, Heap.le.refl _, ⟨hl, HS⟩, fun d hd => (by cases hd; exact HE.get _ _ rfl), HE.defers, rfl⟩
     ·intro a w G1 f hcl hfi hon hW HE hp hO; obtain ⟨hl, HS⟩ := hW
      obtain ⟨_, e0, rfl⟩ := hp 0 71 _ (hon 0 rfl) rfl rfl; replace HE := HE.add e0
      have hI : InM (bif f 4 then [[(B15, Cells 71 [(0, str (wordK x43)), (1, .func (.func fK43) #[] cK43)])], [(B31, Arr 4 (((z.2.2.1.map Value.bool)).set (0 + (((z.1 : Nat) : Int)).toNat * 1) (.bool true)))], [(B6, Cells 26 [(0, .int .i64 ((doS x43 z.2.1 (((wordsS x27).1).drop (1 : Int).toNat)).1.r0.way)), (1, .int .i64 ((doS x43 z.2.1 (((wordsS x27).1).drop (1 : Int).toNat)).1.r0.size)), (2, .int .i64 ((doS x43 z.2.1 (((wordsS x27).1).drop (1 : Int).toNat)).1.r1.way)), (3, .int .i64 ((doS x43 z.2.1 (((wordsS x27).1).drop (1 : Int).toNat)).1.r1.size)), (4, .int .i64 ((doS x43 z.2.1 (((wordsS x27).1).drop (1 : Int).toNat)).1.r2.way)), (5, .int .i64 ((doS x43 z.2.1 (((wordsS x27).1).drop (1 : Int).toNat)).1.r2.size)), (6, .int .i64 ((doS x43 z.2.1 (((wordsS x27).1).drop (1 : Int).toNat)).1.r3.way)), (7, .int .i64 ((doS x43 z.2.1 (((wordsS x27).1).drop (1 : Int).toNat)).1.r3.size)), (8, .int .i64 ((doS x43 z.2.1 (((wordsS x27).1).drop (1 : Int).toNat)).1.r4.way)), (9, .int .i64 ((doS x43 z.2.1 (((wordsS x27).1).drop (1 : Int).toNat)).1.r4.size)), (10, .int .i64 ((doS x43 z.2.1 (((wordsS x27).1).drop (1 : Int).toNat)).1.time)), (11, .int .i64 ((doS x43 z.2.1 (((wordsS x27).1).drop (1 : Int).toNat)).1.note)), (12, .bool ((doS x43 z.2.1 (((wordsS x27).1).drop (1 : Int).toNat)).1.loose)), (13, .bool ((doS x43 z.2.1 (((wordsS x27).1).drop (1 : Int).toNat)).1.force))])], [(B3, Cells 33 [(0, .int .i64 0), (1, .int .i64 0)])], [(B2, Cells 26 [(0, .int .i64 0), (1, .int .i64 0), (2, .int .i64 0), (3, .int .i64 0), (4, .int .i64 0), (5, .int .i64 0), (6, .int .i64 0), (7, .int .i64 0), (8, .int .i64 0), (9, .int .i64 0), (10, .int .i64 0), (11, .int .i64 0), (12, .bool false), (13, .bool false)])]] else [[(B15, Cells 71 [(0, str (wordK x43)), (1, .func (.func fK43) #[] cK43)])], [(B31, Arr 4 (((z.2.2.1.map Value.bool)).set (0 + (((z.1 : Nat) : Int)).toNat * 1) (.bool true)))], [(B6, Cells 26 [(0, .int .i64 z.2.1.r0.way), (1, .int .i64 z.2.1.r0.size), (2, .int .i64 z.2.1.r1.way), (3, .int .i64 z.2.1.r1.size), (4, .int .i64 z.2.1.r2.way), (5, .int .i64 z.2.1.r2.size), (6, .int .i64 z.2.1.r3.way), (7, .int .i64 z.2.1.r3.size), (8, .int .i64 z.2.1.r4.way), (9, .int .i64 z.2.1.r4.size), (10, .int .i64 z.2.1.time), (11, .int .i64 z.2.1.note), (12, .bool z.2.1.loose), (13, .bool z.2.1.force)])], [(B3, Cells 33 [(0, .int .i64 0), (1, .int .i64 0)])], [(B2, Cells 26 [(0, .int .i64 0), (1, .int .i64 0), (2, .int .i64 0), (3, .int .i64 0), (4, .int .i64 0), (5, .int .i64 0), (6, .int .i64 0), (7, .int .i64 0), (8, .int .i64 0), (9, .int .i64 0), (10, .int .i64 0), (11, .int .i64 0), (12, .bool false), (13, .bool false)])]]) B15 (Cells 71 [(0, str (wordK x43)), (1, .func (.func fK43) #[] cK43)]) := by cases f 4 <;> exact .here .here
      refine o_ld HE rfl HS rfl T.s69 hI rfl ?_; clear HE; intro a HE
      exact ⟨_, _, Heap.le.refl _, ⟨hl, HS⟩, fun d hd => (by cases hd; exact HE.get _ _ rfl), HE.defers, rfl⟩
     ·intro a w G1 f hcl hfi hon hW HE hp hO; obtain ⟨hl, HS⟩ := hW
      refine o_move HE rfl rfl ?_; clear HE; intro a HE
      exact ⟨_, _, Heap.le.refl _, ⟨hl, HS⟩, fun d hd => (by cases hd; exact HE.get _ _ rfl), HE.defers, rfl⟩
     ·intro a w G1 f hcl hfi hon hW HE hp hO; obtain ⟨hl, HS⟩ := hW
      obtain ⟨_, e2, rfl⟩ := hp 2 73 _ (hon 2 rfl) rfl rfl; replace HE := HE.add e2
      refine o_sliceRLo (K := Knd.s) (k := 1) HE rfl rfl rfl T.l29 rfl (hR29.le hl) rfl hcp29 ⟨by omega, by have := words_pos (s := x27) (by omega); simp only [Int.toNat_zero] at this; omega⟩ ?_; clear HE; intro A2 c2 a hR2 hc2 HE
      exact ⟨_, _, Heap.le.refl _, ⟨hl, HS⟩, fun d hd => (by cases hd; exact HE.get _ _ rfl), HE.defers, ⟨_, _, rfl, hc2, hR2⟩⟩
     ·intro a w G1 f hcl hfi hon hW HE hp hO; obtain ⟨hl, HS⟩ := hW
      obtain ⟨_, e1, rfl⟩ := hp 1 72 _ (hon 1 rfl) rfl rfl; replace HE := HE.add e1
      obtain ⟨_, e3, A3, c3, rfl, hc3, hR3⟩ := hp 3 74 _ (hon 3 rfl) rfl rfl; replace HE := HE.add e3
      rw [hfi] at HS; replace HS : St w0 G [] G1 w ([[(B15, Cells 71 [(0, str (wordK x43)), (1, .func (.func fK43) #[] cK43)])], [(B31, Arr 4 (((z.2.2.1.map Value.bool)).set (0 + (((z.1 : Nat) : Int)).toNat * 1) (.bool true)))]] ++ [(B6, Cells 26 (pcE z.2.1))] :: [[(B3, Cells 33 [(0, .int .i64 0), (1, .int .i64 0)])], [(B2, Cells 26 [(0, .int .i64 0), (1, .int .i64 0), (2, .int .i64 0), (3, .int .i64 0), (4, .int .i64 0), (5, .int .i64 0), (6, .int .i64 0), (7, .int .i64 0), (8, .int .i64 0), (9, .int .i64 0), (10, .int .i64 0), (11, .int .i64 0), (12, .bool false), (13, .bool false)])]]) := HS
      have hdo := do_calls (hFo43.le hl) z.2.1 (((wordsS x27).1).drop (1 : Int).toNat) A3 c3 B6 w (HS.front (.there (.there .here))) hR3 hc3 hmx43 hms43 (hgw.le hl)
      refine o_callM HE rfl HS rfl rfl hdo.1 hdo.2 ?_ (fun _ _ _ _ _ _ h => h.elim)
      clear HE HS; rintro _ G2 _ w a HS hle2 ⟨rfl, rfl⟩ HE
      exact ⟨_, _, hle2, ⟨hl.trans hle2, HS⟩, fun d hd => (by cases hd; exact HE.get _ _ rfl), HE.defers, rfl⟩
     ·intro a w G1 f hcl hfi hon hW HE hp hO; obtain ⟨hl, HS⟩ := hW
      obtain ⟨_, e4, rfl⟩ := hp 4 75 _ (hon 4 rfl) rfl rfl; replace HE := HE.add e4
      refine o_assign HE rfl rfl ?_; clear HE; intro a HE
      exact ⟨_, _, Heap.le.refl _, ⟨hl, HS⟩, fun d hd => (by cases hd; exact HE.get _ _ rfl), HE.defers, rfl⟩
     clear HE HS; intro a w G50 f hle51 hall HW HE hp; obtain ⟨_, HS⟩ := HW
     rw [hall 4 (by decide)] at HS; simp only [cond_true] at HS
     replace h8 := h8.le hle51
     replace hgw := hgw.le hle51
     replace hgd := hgd.le hle51
     replace hR2 := hR2.le hle51
     replace hR13 := hR13.le hle51
     replace hR29 := hR29.le hle51
     obtain ⟨_, e5, rfl⟩ := hp 5 13 _ rfl rfl; replace HE := HE.add e5; clear hp hall
     refine hK41 _ _ ?_; clear hK41
     refine wp_region_lit ?_
     refine o_add HE rfl rfl rfl (by omega) ?_; clear HE; intro a HE
     refine o_move HE rfl rfl ?_; clear HE; intro a HE
     replace HS := HS.drop (M' := [_, _, _, _]) (sub_drop (sub_keep (sub_keep (sub_keep (sub_keep sub_nil)))))
     have hcd : (((decide ((wordsS x27).2 = 0)) && (((wordsS x27).1.getD 0 []) == wordK z.1)) && !(z.2.2.1.getD z.1 false)) = true := by
      have hh := h48r
      rw [hxk43] at hh
      cases hok : (decide ((wordsS x27).2 = 0)) with
      | false => rw [hok] at hh; simp at hh
      | true =>
       obtain ⟨_, _, hi0, ex0⟩ := hc47 hok
       rw [get0 ex0]
       rw [hok] at hh
       exact hh
     have hk2 := kS_hit hz3 hcd
     rw [said_set] at HS
     rw [hxk43] at HS HE
     exact ⟨(z.1 + 1, (doS z.1 z.2.1 ((wordsS x27).1.drop 1)).1, z.2.2.1.set z.1 true, (doS z.1 z.2.1 ((wordsS x27).1.drop 1)).2), ⟨_, (hle36.trans hle51), HS, HE.cut ⟨rfl, rfl, rfl, rfl, rfl, rfl, rfl, rfl, rfl, rfl, rfl, rfl, rfl, rfl, rfl, rfl, trivial⟩, ⟨by show z.1 + 1 ≤ 9; omega, by simpa using hz2, hk2⟩⟩, by show 9 - (z.1 + 1) < _; omega⟩
    ·have h48r := h48; try simp only [zz1, zz2, zz3, zz4, zz5, zz6, zz7, zz8, zz9, zza, zzb] at h48
     refine wp_skip ?_
     refine hK41 _ _ ?_; clear hK41
     refine wp_region_lit ?_
     refine o_add HE rfl rfl rfl (by omega) ?_; clear HE; intro a HE
     refine o_move HE rfl rfl ?_; clear HE; intro a HE
     replace HS := HS.drop (M' := [_, _, _, _]) (sub_drop (sub_keep (sub_keep (sub_keep (sub_keep sub_nil)))))
     have hcd : (((decide ((wordsS x27).2 = 0)) && (((wordsS x27).1.getD 0 []) == wordK z.1)) && !(z.2.2.1.getD z.1 false)) = false := by
      have hh := h48r
      rw [hxk43] at hh
      cases hok : (decide ((wordsS x27).2 = 0)) with
      | false => simp
      | true =>
       obtain ⟨_, _, hi0, ex0⟩ := hc47 hok
       rw [get0 ex0]
       rw [hok] at hh
       exact hh
     have hk2 := kS_miss hz3 hcd
     exact ⟨(z.1 + 1, z.2), ⟨_, hle36, HS, HE.cut ⟨rfl, rfl, rfl, rfl, rfl, rfl, rfl, rfl, rfl, rfl, rfl, rfl, rfl, rfl, rfl, rfl, trivial⟩, ⟨by show z.1 + 1 ≤ 9; omega, by simpa using hz2, hk2⟩⟩, by show 9 - (z.1 + 1) < _; omega⟩
   ·have h40r := h40; try simp only [zz1, zz2, zz3, zz4, zz5, zz6, zz7, zz8, zz9, zza, zzb] at h40
    refine wp_exit ?_
    refine hK32 _ _ ?_; clear hK32
    refine wp_seq_k (fun K hK => ?_); refine wp_region_lit ?_
    refine o_move HE rfl rfl ?_; clear HE; intro a HE
    refine o_not HE rfl rfl ?_; clear HE; intro a HE
    refine hK _ _ ?_; clear hK K
    refine cond HE rfl (fun h53 => ?_) (fun h53 => ?_)
    ·have h53r := h53; try simp only [zz1, zz2, zz3, zz4, zz5, zz6, zz7, zz8, zz9, zza, zzb] at h53
     refine wp_seq_k (fun K hK => ?_); refine wp_region_lit ?_
     refine o_build (cs := #[.int .i64 0, .int .i64 0, .int .i64 0, .int .i64 0, .int .i64 0, .int .i64 0, .int .i64 0, .int .i64 0, .int .i64 0, .int .i64 0, .int .i64 0, .int .i64 0, .bool false, .bool false]) HE rfl rfl (by kernel_rfl) ?_; clear HE; intro a HE
     refine o_move HE rfl rfl ?_; clear HE; intro a HE
     refine o_add HE rfl rfl rfl (by omega) ?_; clear HE; intro a HE
     refine o_build (cs := #[.int .i64 6, .int .i64 (((y.1 : Nat) : Int) + 1)]) HE rfl rfl (by kernel_rfl) ?_; clear HE; intro a HE
     refine o_stA HE HS rfl rfl rfl T.a26 (.there (.there (.there (.here .here)))) rfl ?_; clear HS; intro w HS
     refine o_stA HE HS rfl rfl rfl T.a33 (.there (.there (.here .here))) rfl ?_; clear HS; intro w HS
     refine hK _ _ ?_; clear hK K
     refine wp_ret ?_
     show Q .ret _ _
     refine ret hQ HE rfl (HE.resA HS rfl T.a26 (.there (.there (.there (.here .here)))) rfl (HE.resA HS rfl T.a33 (.there (.there (.here .here))) rfl .nil)) ⟨_, _, HS.stop (List.nil_sublist _), rfl, ?_⟩
     have hl0 : (linesS s).2 = 0 := by
      unfold code8 at h7
      by_cases h0 : (linesS s).2 = 0
      ·exact h0
      ·rw [if_neg h0] at h7; exact absurd h7 (by decide)
     have hz9 : z.1 = 9 := by omega
     rw [hz9] at hz3
     have hgo : ¬ z.2.2.2 = true := by simpa using h53r
     have e : parseP s = (P0, ((y.1 : Nat) : Int) + 1) := by
      unfold parseP
      rw [if_pos hl0, hy3, goP_step (n := y.1) (x := x27) (by simpa using ex27)]
      unfold lineP
      rw [hz3, if_neg hgo]
     have e2 : failC (((y.1 : Nat) : Int) + 1) = 6 := if_neg (by omega)
     show _ = _
     rw [e]
     show _ = Value.tuple #[_, .agg #[.int .i64 (failC (((y.1 : Nat) : Int) + 1)), _]]
     rw [e2]
     rfl
    ·have h53r := h53; try simp only [zz1, zz2, zz3, zz4, zz5, zz6, zz7, zz8, zz9, zza, zzb] at h53
     refine wp_skip ?_
     refine hK25 _ _ ?_; clear hK25
     refine wp_region_lit ?_
     refine o_add HE rfl rfl rfl (by omega) ?_; clear HE; intro a HE
     refine o_move HE rfl rfl ?_; clear HE; intro a HE
     have hz9 : z.1 = 9 := by omega
     rw [hz9] at hz3
     have hgo : z.2.2.2 = true := by simpa using h53r
     have hnx : goP 0 (linesS s).1 P0 (List.replicate 9 false) = goP ((y.1 + 1 : Nat) : Int) ((linesS s).1.drop (y.1 + 1)) z.2.1 z.2.2.1 := by
      rw [hy3, goP_step (n := y.1) (x := x27) (by simpa using ex27)]
      unfold lineP
      rw [hz3, if_pos hgo]
      rfl
     exact ⟨(y.1 + 1, z.2.1, z.2.2.1), ⟨_, ((hle20.trans hle29).trans hle36), HS, HE.cut ⟨rfl, rfl, rfl, rfl, rfl, rfl, rfl, rfl, rfl, trivial⟩, ⟨by omega, hz2, hnx⟩⟩, by show (linesS s).1.length - (y.1 + 1) < _; omega⟩
  ·have h24r := h24; try simp only [zz1, zz2, zz3, zz4, zz5, zz6, zz7, zz8, zz9, zza, zzb] at h24
   refine wp_exit ?_
   refine hK16 _ _ ?_; clear hK16
   refine wp_seq_k (fun K hK => ?_); refine wp_region_lit ?_
   refine o_ldA HE rfl HS rfl T.a26 (.there (.here .here)) rfl ?_; clear HE; intro a HE
   refine o_build (cs := #[.int .i64 0, .int .i64 0]) HE rfl rfl (by kernel_rfl) ?_; clear HE; intro a HE
   refine o_stA HE HS rfl rfl rfl T.a26 (.there (.there (.there (.here .here)))) rfl ?_; clear HS; intro w HS
   refine o_stA HE HS rfl rfl rfl T.a33 (.there (.there (.here .here))) rfl ?_; clear HS; intro w HS
   refine hK _ _ ?_; clear hK K
   refine wp_ret ?_
   show Q .ret _ _
   refine ret hQ HE rfl (HE.resA HS rfl T.a26 (.there (.there (.there (.here .here)))) rfl (HE.resA HS rfl T.a33 (.there (.there (.here .here))) rfl .nil)) ⟨_, _, HS.stop (List.nil_sublist _), rfl, ?_⟩
   have hl0 : (linesS s).2 = 0 := by
    unfold code8 at h7
    by_cases h0 : (linesS s).2 = 0
    ·exact h0
    ·rw [if_neg h0] at h7; exact absurd h7 (by decide)
   have e : parseP s = (y.2.1, 0) := by
    unfold parseP
    rw [if_pos hl0, hy3, List.drop_of_length_le (by omega)]
    rfl
   show _ = _
   rw [e]
   rfl

end Go.Proofs.YtiinipcmghhacaaDoor.T10
