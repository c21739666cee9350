/- Histories read. -/
import Derived.Test.YtiinipcmghhacaaGreatDoorZD6
set_option linter.unusedVariables false
set_option linter.unusedSimpArgs false
namespace Go.Proofs.YtiinipcmghhacaaGreatDoor.T10
open Go Go.Proofs.YtiinipcmghhacaaGreatDoor.X
instance : UN Tryz.prog 30 (.slice 26) := ⟨Tryz.underlying30⟩
instance : LZ Tryz.prog 36 [(0, .int .i64 0), (1, .int .i64 0)] := ⟨⟨.agg #[.int .i64 0, .int .i64 0], by kernel_rfl, ⟨rfl, rfl, trivial⟩⟩⟩
theorem T.a36 : aggSz Tryz.prog 36 = some 2 := by kernel_rfl
instance : AG Tryz.prog 36 2 := ⟨T.a36⟩
theorem T.f36_0 : fieldOff Tryz.prog 36 0 = some 0 := by kernel_rfl
instance : FO Tryz.prog 36 0 0 := ⟨T.f36_0⟩
theorem T.g38 : goFn Tryz.prog 38 = true := by kernel_rfl
theorem T.g39 : goFn Tryz.prog 39 = true := by kernel_rfl
theorem T.l30 : slOf Tryz.prog 30 = some (26, 14) := by kernel_rfl
theorem T.p30 : apOf Tryz.prog 30 = some (26, 14, 168) := by kernel_rfl

theorem kEvt_mk {G : Heap} (x : Evt) {A1 c1 A2 c2} (h1 : x.args.length ≤ c1) (h2 : Rd kVal G A1 x.args) (h3 : x.out.length ≤ c2) (h4 : Rd kVal G A2 x.out) : kEvt.R G x (evtCells x A1 c1 A2 c2) := ⟨A1, c1, A2, c2, rfl, h1, h2, h3, h4⟩
/-- The code of a line at its place. -/
def codeH (s : Bs) (i : Int) : Int := if i = 4096 then 5 else (parseE s).2
/-- The events of lines, one by one, or the first fault and its line. -/
def histG : List Bs → Int → List Evt → List Evt × Int × Int
  | [], _, acc => (acc, 0, 0)
  | s :: r, i, acc => if codeH s i = 0 then histG r (i + 1) (acc ++ [(parseE s).1]) else ([], codeH s i, i + 1)
def histP (t : Bs) : List Evt × Int × Int := if (linesS t).2 = 0 then histG (linesS t).1 0 [] else ([], 2, (linesS t).2)
theorem histG_hit {l : List Bs} {i : Nat} {x : Bs} {acc : List Evt} (h : l[i]? = some x) (hc : codeH x (i : Int) = 0) : histG (l.drop i) (i : Int) acc = histG (l.drop (i + 1)) ((i + 1 : Nat) : Int) (acc ++ [(parseE x).1]) := by
  rw [drop_at h]
  show (if codeH x (i : Int) = 0 then _ else _) = _
  rw [if_pos hc]
  rfl
theorem histG_bad {l : List Bs} {i : Nat} {x : Bs} {acc : List Evt} {c : Int} (h : l[i]? = some x) (hc : codeH x (i : Int) = c) (h0 : ¬ c = 0) : histG (l.drop i) (i : Int) acc = ([], c, (i : Int) + 1) := by
  rw [drop_at h]
  show (if codeH x (i : Int) = 0 then _ else ([], codeH x (i : Int), _)) = _
  rw [hc, if_neg h0]
theorem codeH_many {x : Bs} {i : Int} (h : i = 4096) : codeH x i = 5 := if_pos h
theorem codeH_few {x : Bs} {i : Int} (h : ¬ i = 4096) : codeH x i = (parseE x).2 := if_neg h
def EvSm (x : Evt) : Prop := x.args.length ≤ 9223372036854775807 ∧ x.out.length ≤ 9223372036854775807
theorem histG_sm : ∀ (l : List Bs) (i : Int) (acc : List Evt), (∀ x ∈ l, x.length ≤ 9223372036854775806) → (∀ e ∈ acc, EvSm e) → ∀ e ∈ (histG l i acc).1, EvSm e
  | [], _, _, _, ha => ha
  | s :: r, i, acc, hl, ha => by
    unfold histG
    split
    · refine histG_sm r _ _ (fun x hx => hl x (List.mem_cons_of_mem _ hx)) fun e he => ?_
      rcases List.mem_append.1 he with h | h
      · exact ha e h
      · rw [List.mem_singleton] at h; subst h
        exact ⟨parse_args (hl s List.mem_cons_self), parse_out (hl s List.mem_cons_self)⟩
    · intro e he; cases he
theorem histP_sm {t : Bs} (h : t.length ≤ 9223372036854775806) : ∀ e ∈ (histP t).1, EvSm e := by
  unfold histP
  split
  · exact histG_sm _ _ _ (fun x hx => by have := lines_mem hx; omega) (fun e he => by cases he)
  · intro e he; cases he
theorem histG_len : ∀ (l : List Bs) (i : Int) (acc : List Evt), (histG l i acc).1.length ≤ acc.length + l.length
  | [], _, acc => Nat.le_refl _
  | s :: r, i, acc => by
    unfold histG
    split
    · have := histG_len r (i + 1) (acc ++ [(parseE s).1])
      simp only [List.length_append, List.length_cons, List.length_nil] at this ⊢
      omega
    · exact Nat.zero_le _
theorem histP_len (t : Bs) : (histP t).1.length ≤ t.length := by
  unfold histP
  split
  · have h1 := histG_len (linesS t).1 0 []
    have h2 := linesS_len t
    simp only [List.length_nil, Nat.zero_add] at h1
    omega
  · exact Nat.zero_le _

theorem hist_bad {t : Bs} (h : ¬ (linesS t).2 = 0) : histP t = ([], 2, (linesS t).2) := if_neg h
theorem code8_ne {n : Int} (h : ¬ code8 n = 0) : ¬ n = 0 := by intro e; subst e; exact h rfl
theorem code8_two {n : Int} (h : ¬ n = 0) : code8 n = 2 := by unfold code8; rw [if_neg h]
theorem code8_zero {n : Int} (h : code8 n = 0) : n = 0 := by
  by_cases e : n = 0
  · exact e
  · rw [code8_two e] at h; cases h
theorem lines_pos {t : Bs} : 0 ≤ (linesS t).2 := by
  unfold linesS
  split
  · exact Int.le_refl _
  · show (0 : Int) ≤ ((pcs 10 t).length : Int) + 1; omega
/-! `incognito/hist.Parse` -/
set_option maxRecDepth 100000 in
set_option maxHeartbeats 4000000 in
theorem c_ParseH (t : Bs) (w0 : World) (G : Heap) (hG : Sub G w0) (m8 : Int) (h8 : CellsAt G 5 0 [.int .i64 m8]) (hg0 : CellsAt G 1 0 [.int .i64 3, .int .i64 1, str []]) (hg1 : CellsAt G 2 0 [.int .i64 3, .int .i64 0, str []]) (hgm : CellsAt G 3 0 [str [], str [114, 101, 103], str [99, 97, 115], str [115, 101, 116], str [109, 97, 112], str [102, 105, 102, 111], str [115, 116, 97, 99, 107], str [108, 111, 99, 107], str [99, 111, 117, 110, 116], str [109, 97, 120], str [111, 109, 97, 112]]) (hgo : CellsAt G 4 0 [str [], str [119, 114, 105, 116, 101], str [114, 101, 97, 100], str [115, 119, 97, 112], str [97, 100, 100], str [100, 101, 108], str [104, 97, 115], str [112, 117, 116], str [103, 101, 116], str [112, 117, 115, 104], str [112, 111, 112], str [116, 97, 107, 101], str [102, 114, 101, 101], str [115, 99, 97, 110]]) (hgn : CellsAt G 0 0 [str [], str [105, 110, 118, 111, 107, 101], str [111, 107], str [102, 97, 105, 108], str [105, 110, 102, 111]]) (hl : t.length ≤ 4294967280):
  Calls Tryz.prog 15 #[str t] w0 (Ret w0 G (fun v G' => ∃ A c, v = .tuple #[.slice A (histP t).1.length c, .agg #[.int .i64 (histP t).2.1, .int .i64 (histP t).2.2]] ∧ (histP t).1.length ≤ c ∧ Rd kEvt G' A (histP t).1)) := by
 refine enter Tryz.func15 rfl Tryz.ntmps15 rfl ?_
 intro Q hQ a HE
 have HS := St.start0 hG
 refine sr fun K hK => ?_
 refine rn 1 HE HS ?_; clear HE HS; intro a w HE HS
 refine o_allocZ HE rfl HS ?_; clear HE HS; intro B3 w a HS HE
 apply hK; clear hK K
 refine wp_scope_straight ?_
 refine sr fun K hK => ?_
 refine rn 1 HE HS ?_; clear HE HS; intro a w HE HS
 refine o_call HE rfl HS rfl rfl T.g38 (c_split t _ _ HS.sub m8 h8 (by first | omega | (simp; done) | (simp; omega) | (have := cutA_len s 59; have := cutB_len s 59; omega))) ?_
 clear HE HS; rintro _ G2 w a HS hle2 ⟨vA2, vc2, rfl, hcp2, hR2⟩ HE
 replace h8 := h8.le hle2
 replace hg0 := hg0.le hle2
 replace hg1 := hg1.le hle2
 replace hgm := hgm.le hle2
 replace hgo := hgo.le hle2
 replace hgn := hgn.le hle2
 refine rn 3 HE HS ?_; clear HE HS; intro a w HE HS
 refine o_allocZ HE rfl HS ?_; clear HE HS; intro B5 w a HS HE
 refine rn 2 HE HS ?_; clear HE HS; intro a w HE HS
 apply hK; clear hK K
 refine wp_seq_k (fun K5 hK4 => ?_)
 refine sr fun K hK => ?_
 refine rn 3 HE HS ?_; clear HE HS; intro a w HE HS
 apply hK; clear hK K
 refine cond HE rfl (fun h7r => ?_) (fun h7r => ?_)
 ·have h7 := nm h7r
  refine wp_seq_k (fun K9 hK8 => ?_)
  replace HE := HE.cut (L' := [(0, str t), (3, .pointer (some ⟨B3, 0, none⟩)), (4, .slice vA2 ((linesS t).1.length) vc2), (5, .pointer (some ⟨B5, 0, none⟩)), (11, .tuple #[.slice vA2 ((linesS t).1.length) vc2, .agg #[.int .i64 (code8 (linesS t).2), .int .i64 ((linesS t).2)]]), (12, str t), (13, .tuple #[.slice vA2 ((linesS t).1.length) vc2, .agg #[.int .i64 (code8 (linesS t).2), .int .i64 ((linesS t).2)]]), (14, .slice vA2 ((linesS t).1.length) vc2), (15, .agg #[.int .i64 (code8 (linesS t).2), .int .i64 ((linesS t).2)]), (16, .pointer (some ⟨B5, 0, none⟩)), (17, .int .i64 (code8 (linesS t).2)), (18, .bool (!decide ((code8 (linesS t).2) = 0)))]) ⟨rfl, rfl, rfl, rfl, rfl, rfl, rfl, rfl, rfl, rfl, rfl, rfl, trivial⟩
  refine drawnF (fun f G' w => Heap.le G2 G' ∧ St w0 G [] G' w [[(B5, Cells 36 [(0, .int .i64 (code8 (linesS t).2)), (1, .int .i64 ((linesS t).2))])], [(B3, Cells 36 [(0, bif f 2 then .int .i64 (code8 (linesS t).2) else .int .i64 0), (1, bif f 2 then .int .i64 ((linesS t).2) else .int .i64 0)])]]) [fun v _ => v = .agg #[.int .i64 (code8 (linesS t).2), .int .i64 ((linesS t).2)], fun v _ => v = .slice none 0 0, fun _ _ => True] [] T.mix rfl HE ⟨Heap.le.refl _, HS.drew⟩ rfl (by simp) (AllM.get ⟨fun _ _ _ _ h => h, fun _ _ _ _ h => h, fun _ _ _ _ h => h, trivial⟩) ⟨?_, ?_, ?_, trivial⟩ ?_
  ·intro a w G1 f hcl hfi hon hW HE hp hO; obtain ⟨hl, HS⟩ := hW
   refine o_ldA HE rfl HS rfl T.a36 (.here .here) rfl ?_; clear HE; intro a HE
   exact ⟨_, _, Heap.le.refl _, ⟨hl, HS⟩, fun d hd => (by cases hd; exact HE.get _ _ rfl), HE.defers, rfl⟩
  ·intro a w G1 f hcl hfi hon hW HE hp hO; obtain ⟨hl, HS⟩ := hW
   refine o_assign HE rfl rfl ?_; clear HE; intro a HE
   exact ⟨_, _, Heap.le.refl _, ⟨hl, HS⟩, fun d hd => (by cases hd; exact HE.get _ _ rfl), HE.defers, rfl⟩
  ·intro a w G1 f hcl hfi hon hW HE hp hO; obtain ⟨hl, HS⟩ := hW
   obtain ⟨_, e0, rfl⟩ := hp 0 19 _ (hon 0 rfl) rfl rfl; replace HE := HE.add e0
   refine o_stA HE HS rfl rfl rfl T.a36 (.there (.here .here)) rfl ?_; clear HS; intro w HS
   replace HS := HS.conv (L2 := [(0, _), (1, _)]) (.there (.here .here)) ⟨rfl, rfl, trivial⟩
   exact ⟨.bool true, _, Heap.le.refl _, ⟨hl, HS⟩, fun d hd => (by cases hd), HE.defers, trivial⟩
  clear HE HS; intro a w G10 f hle11 hall HW HE hp; obtain ⟨_, HS⟩ := HW
  have hfw2 := hall 2 (by decide)
  simp only [hfw2, cond_true] at HS
  replace h8 := h8.le hle11
  replace hg0 := hg0.le hle11
  replace hg1 := hg1.le hle11
  replace hgm := hgm.le hle11
  replace hgo := hgo.le hle11
  replace hgn := hgn.le hle11
  replace hR2 := hR2.le hle11
  obtain ⟨_, e1, rfl⟩ := hp 1 2 _ rfl rfl; replace HE := HE.add e1
  clear hp hall
  refine hK8 _ _ ?_; clear hK8
  refine rt hQ HE HS ?_
  have hl0 := code8_ne h7
  have he := hist_bad hl0
  rw [he, code8_two hl0]
  exact ⟨_, _, rfl, Nat.le_refl _, .nil⟩
 ·have h7 := nm h7r
  refine wp_skip ?_
  refine hK4 _ _ ?_; clear hK4
  refine sr fun K hK => ?_
  refine rn 1 HE HS ?_; clear HE HS; intro a w HE HS
  apply hK; clear hK K
  refine wp_seq_k (fun K14 hK13 => ?_)
  refine wp_label ?_
  refine hK13 _ _ ?_; clear hK13
  refine wp_seq_k (fun K16 hK15 => ?_)
  refine sr fun K hK => ?_
  refine rn 1 HE HS ?_; clear HE HS; intro a w HE HS
  have hln := linesS_len t
  refine rn 2 HE HS ?_; clear HE HS; intro a w HE HS
  apply hK; clear hK K
  refine wp_block ?_
  replace HS := HS.nilChunk
  have oH19 : X.Own kEvt 26 G2 none 0 ([] : List Evt) [] := X.Own.nil
  refine loop (fun (p : Nat × List Evt) a' w' => ∃ (oA6_1 : Option Addr) (oc6_1 : Nat) (oC6_1 : Chunk), ∃ GL20, Heap.le G2 GL20 ∧ St w0 G [] GL20 w' [oC6_1, [(B5, Cells 36 [(0, .int .i64 (code8 (linesS t).2)), (1, .int .i64 ((linesS t).2))])], [(B3, Cells 36 [(0, .int .i64 0), (1, .int .i64 0)])]] ∧ Env a' 51 [] [(2, .slice none 0 0), (3, .pointer (some ⟨B3, 0, none⟩)), (5, .pointer (some ⟨B5, 0, none⟩)), (6, .slice oA6_1 ((p.2).length) oc6_1), (20, .slice vA2 ((linesS t).1.length) vc2), (21, .int .i64 ((linesS t).1.length : Int)), (22, .int .i64 ((p.1 : Nat) : Int))] ∧ X.Own kEvt 26 GL20 oA6_1 oc6_1 (p.2) oC6_1 ∧ (p.1 ≤ (linesS t).1.length ∧ p.2.length ≤ p.1 ∧ histG (linesS t).1 0 [] = histG ((linesS t).1.drop p.1) ((p.1 : Nat) : Int) p.2)) (fun (p : Nat × List Evt) => (linesS t).1.length - p.1) (0, []) ⟨_, _, _, _, Heap.le.refl _, HS, HE.cut ⟨rfl, rfl, rfl, rfl, rfl, rfl, rfl, trivial⟩, X.Own.nil (K := kEvt), ⟨Nat.zero_le _, Nat.le_refl _, rfl⟩⟩ ?_
  clear HE HS; intro p a w ⟨oA6_1, oc6_1, oC6_1, GL20, hle21, HS, HE, oH6_1, ⟨hp1, hp2, hp3⟩⟩
  replace h8 := h8.le hle21
  replace hg0 := hg0.le hle21
  replace hg1 := hg1.le hle21
  replace hgm := hgm.le hle21
  replace hgo := hgo.le hle21
  replace hgn := hgn.le hle21
  replace hR2 := hR2.le hle21
  refine sr fun K hK => ?_
  refine rn 1 HE HS ?_; clear HE HS; intro a w HE HS
  apply hK; clear hK K
  refine wp_seq_k (fun K24 hK23 => ?_)
  refine cond HE rfl (fun h25r => ?_) (fun h25r => ?_)
  ·have h25 := nm h25r
   refine wp_skip ?_
   refine hK23 _ _ ?_; clear hK23
   refine wp_seq_k (fun K27 hK26 => ?_)
   refine wp_block ?_
   refine sr fun K hK => ?_
   refine rn 1 HE HS ?_; clear HE HS; intro a w HE HS
   have hi28 : ((p.1 : Nat) : Int).toNat < ((linesS t).1).length := by omega
   obtain ⟨eb28, eo28, hA28, el28⟩ := Rd.at hR2 (List.getElem?_eq_getElem hi28); cases hA28
   rw [show ((linesS t).1)[((p.1 : Nat) : Int).toNat] = (((linesS t).1).getD p.1 []) from getD_get (i := p.1) hi28 _] at el28
   have el28 := kof_open (enc := fun l => str l) el28
   refine o_ixL HE rfl rfl rfl T.l53 ⟨by omega, by omega⟩ ?_; clear HE; intro a HE
   refine o_ldI HE rfl HS rfl T.s9 el28 (j := 0) rfl rfl ?_; clear HE; intro a HE
   refine rn 2 HE HS ?_; clear HE HS; intro a w HE HS
   apply hK; clear hK K
   refine sr fun K hK => ?_
   have hbx := lines_mem (getD_mem (l := (linesS t).1) (i := p.1) (by omega))
   have hln := linesS_len t
   refine rn 1 HE HS ?_; clear HE HS; intro a w HE HS
   refine o_call HE rfl HS rfl rfl T.g17 (c_Parse10 (((linesS t).1).getD p.1 []) _ _ HS.sub m8 h8 hg0 hg1 hgm hgo hgn (by first | omega | (simp; done) | (simp; omega) | (have := note_len s; omega))) ?_
   clear HE HS; rintro _ G30 w a HS hle30 ⟨vA30, vc30, vB30, vd30, rfl, hap30, hA30, hbp30, hB30⟩ HE
   replace h8 := h8.le hle30
   replace hg0 := hg0.le hle30
   replace hg1 := hg1.le hle30
   replace hgm := hgm.le hle30
   replace hgo := hgo.le hle30
   replace hgn := hgn.le hle30
   replace hR2 := hR2.le hle30
   replace oH6_1 := oH6_1.le hle30
   refine rn 3 HE HS ?_; clear HE HS; intro a w HE HS
   refine o_allocZ HE rfl HS ?_; clear HE HS; intro B9 w a HS HE
   refine rn 2 HE HS ?_; clear HE HS; intro a w HE HS
   apply hK; clear hK K
   refine wp_seq_k (fun K33 hK32 => ?_)
   refine sr fun K hK => ?_
   have hsm9 := parseE_len ((linesS t).1.getD p.1 [])
   refine rn 2 HE HS ?_; clear HE HS; intro a w HE HS
   apply hK; clear hK K
   refine cond HE rfl (fun h35r => ?_) (fun h35r => ?_)
   ·have h35 := nm h35r
    refine wp_region_lit ?_
    refine rn 1 HE HS ?_; clear HE HS; intro a w HE HS
    refine hK32 _ _ ?_; clear hK32
    refine wp_seq_k (fun K37 hK36 => ?_)
    refine sr fun K hK => ?_
    refine rn 2 HE HS ?_; clear HE HS; intro a w HE HS
    apply hK; clear hK K
    refine cond HE rfl (fun h39r => ?_) (fun h39r => ?_)
    ·have h39 := nm h39r
     refine sr fun K hK => ?_
     refine rn 3 HE HS ?_; clear HE HS; intro a w HE HS
     refine o_build (cs := #[.int .i64 5, .int .i64 (((p.1 : Nat) : Int) + 1)]) HE rfl rfl (by kernel_rfl) ?_; clear HE; intro a HE
     refine rn 1 HE HS ?_; clear HE HS; intro a w HE HS
     apply hK; clear hK K
     refine wp_exit ?_
     refine hK15 _ _ ?_; clear hK15
     refine wp_seq_k (fun K42 hK41 => ?_)
     refine sr fun K hK => ?_
     refine rn 3 HE HS ?_; clear HE HS; intro a w HE HS
     apply hK; clear hK K
     refine cond HE rfl (fun h44r => ?_) (fun h44r => ?_)
     ·have h44 := nm h44r
      refine wp_seq_k (fun K46 hK45 => ?_)
      have hcphR48 := oH6_1.cap
      obtain ⟨G47, hle49, HS', hR48⟩ := X.Own.still HS (.there .here) oH6_1; clear HS; have HS := HS'; clear HS'
      replace h8 := h8.le hle49
      replace hg0 := hg0.le hle49
      replace hg1 := hg1.le hle49
      replace hgm := hgm.le hle49
      replace hgo := hgo.le hle49
      replace hgn := hgn.le hle49
      replace hR2 := hR2.le hle49
      replace hA30 := hA30.le hle49
      replace hB30 := hB30.le hle49
      replace HE := HE.cut (L' := [(3, .pointer (some ⟨B3, 0, none⟩)), (5, .pointer (some ⟨B5, 0, none⟩)), (6, .slice oA6_1 ((p.2).length) oc6_1), (7, .int .i64 ((p.1 : Nat) : Int)), (8, str (((linesS t).1).getD p.1 [])), (9, .pointer (some ⟨B9, 0, none⟩)), (10, .int .i64 5), (20, .slice (some ⟨eb28, eo28, none⟩) ((linesS t).1.length) vc2), (21, .int .i64 ((linesS t).1.length : Int)), (22, .int .i64 ((p.1 : Nat) : Int)), (23, .bool (decide (((p.1 : Nat) : Int) < ((linesS t).1.length : Int)))), (24, .int .i64 ((p.1 : Nat) : Int)), (25, .pointer (some ⟨eb28, eo28 + ((p.1 : Nat) : Int).toNat * 1, none⟩)), (26, str (((linesS t).1).getD p.1 [])), (27, .tuple #[.agg #[.int .i64 ((parseE (((linesS t).1).getD p.1 [])).1.time), .int .i64 ((parseE (((linesS t).1).getD p.1 [])).1.client.k), .int .i64 ((parseE (((linesS t).1).getD p.1 [])).1.client.n), str ((parseE (((linesS t).1).getD p.1 [])).1.client.s), .int .i64 ((parseE (((linesS t).1).getD p.1 [])).1.type), .int .i64 ((parseE (((linesS t).1).getD p.1 [])).1.model), .int .i64 ((parseE (((linesS t).1).getD p.1 [])).1.key.k), .int .i64 ((parseE (((linesS t).1).getD p.1 [])).1.key.n), str ((parseE (((linesS t).1).getD p.1 [])).1.key.s), .int .i64 ((parseE (((linesS t).1).getD p.1 [])).1.op), .slice vA30 ((parseE (((linesS t).1).getD p.1 [])).1.args.length) vc30, .slice vB30 ((parseE (((linesS t).1).getD p.1 [])).1.out.length) vd30, .bool ((parseE (((linesS t).1).getD p.1 [])).1.noted), str ((parseE (((linesS t).1).getD p.1 [])).1.note)], .int .i64 ((parseE (((linesS t).1).getD p.1 [])).2)]), (28, str (((linesS t).1).getD p.1 [])), (29, .tuple #[.agg #[.int .i64 ((parseE (((linesS t).1).getD p.1 [])).1.time), .int .i64 ((parseE (((linesS t).1).getD p.1 [])).1.client.k), .int .i64 ((parseE (((linesS t).1).getD p.1 [])).1.client.n), str ((parseE (((linesS t).1).getD p.1 [])).1.client.s), .int .i64 ((parseE (((linesS t).1).getD p.1 [])).1.type), .int .i64 ((parseE (((linesS t).1).getD p.1 [])).1.model), .int .i64 ((parseE (((linesS t).1).getD p.1 [])).1.key.k), .int .i64 ((parseE (((linesS t).1).getD p.1 [])).1.key.n), str ((parseE (((linesS t).1).getD p.1 [])).1.key.s), .int .i64 ((parseE (((linesS t).1).getD p.1 [])).1.op), .slice vA30 ((parseE (((linesS t).1).getD p.1 [])).1.args.length) vc30, .slice vB30 ((parseE (((linesS t).1).getD p.1 [])).1.out.length) vd30, .bool ((parseE (((linesS t).1).getD p.1 [])).1.noted), str ((parseE (((linesS t).1).getD p.1 [])).1.note)], .int .i64 ((parseE (((linesS t).1).getD p.1 [])).2)]), (30, .agg #[.int .i64 ((parseE (((linesS t).1).getD p.1 [])).1.time), .int .i64 ((parseE (((linesS t).1).getD p.1 [])).1.client.k), .int .i64 ((parseE (((linesS t).1).getD p.1 [])).1.client.n), str ((parseE (((linesS t).1).getD p.1 [])).1.client.s), .int .i64 ((parseE (((linesS t).1).getD p.1 [])).1.type), .int .i64 ((parseE (((linesS t).1).getD p.1 [])).1.model), .int .i64 ((parseE (((linesS t).1).getD p.1 [])).1.key.k), .int .i64 ((parseE (((linesS t).1).getD p.1 [])).1.key.n), str ((parseE (((linesS t).1).getD p.1 [])).1.key.s), .int .i64 ((parseE (((linesS t).1).getD p.1 [])).1.op), .slice vA30 ((parseE (((linesS t).1).getD p.1 [])).1.args.length) vc30, .slice vB30 ((parseE (((linesS t).1).getD p.1 [])).1.out.length) vd30, .bool ((parseE (((linesS t).1).getD p.1 [])).1.noted), str ((parseE (((linesS t).1).getD p.1 [])).1.note)]), (31, .int .i64 ((parseE (((linesS t).1).getD p.1 [])).2)), (32, .int .i64 ((p.1 : Nat) : Int)), (33, .bool (decide (((p.1 : Nat) : Int) = 4096))), (34, .int .i64 5), (35, .bool (!decide ((5 : Int) = 0))), (36, .int .i64 5), (37, .int .i64 ((p.1 : Nat) : Int)), (38, .int .i64 (((p.1 : Nat) : Int) + 1)), (39, .agg #[.int .i64 5, .int .i64 (((p.1 : Nat) : Int) + 1)]), (45, .pointer (some ⟨B5, 0, none⟩)), (46, .int .i64 5), (47, .bool (!decide ((5 : Int) = 0)))]) ⟨rfl, rfl, rfl, rfl, rfl, rfl, rfl, rfl, rfl, rfl, rfl, rfl, rfl, rfl, rfl, rfl, rfl, rfl, rfl, rfl, rfl, rfl, rfl, rfl, rfl, rfl, rfl, rfl, rfl, rfl, trivial⟩
      refine drawnF (fun f G' w => Heap.le G47 G' ∧ St w0 G [] G' w [[(B9, Cells 26 [(0, .int .i64 ((parseE (((linesS t).1).getD p.1 [])).1.time)), (1, .int .i64 ((parseE (((linesS t).1).getD p.1 [])).1.client.k)), (2, .int .i64 ((parseE (((linesS t).1).getD p.1 [])).1.client.n)), (3, str ((parseE (((linesS t).1).getD p.1 [])).1.client.s)), (4, .int .i64 ((parseE (((linesS t).1).getD p.1 [])).1.type)), (5, .int .i64 ((parseE (((linesS t).1).getD p.1 [])).1.model)), (6, .int .i64 ((parseE (((linesS t).1).getD p.1 [])).1.key.k)), (7, .int .i64 ((parseE (((linesS t).1).getD p.1 [])).1.key.n)), (8, str ((parseE (((linesS t).1).getD p.1 [])).1.key.s)), (9, .int .i64 ((parseE (((linesS t).1).getD p.1 [])).1.op)), (10, .slice vA30 ((parseE (((linesS t).1).getD p.1 [])).1.args.length) vc30), (11, .slice vB30 ((parseE (((linesS t).1).getD p.1 [])).1.out.length) vd30), (12, .bool ((parseE (((linesS t).1).getD p.1 [])).1.noted)), (13, str ((parseE (((linesS t).1).getD p.1 [])).1.note))])], [(B5, Cells 36 [(0, .int .i64 5), (1, .int .i64 (((p.1 : Nat) : Int) + 1))])], [(B3, Cells 36 [(0, bif f 2 then .int .i64 5 else .int .i64 0), (1, bif f 2 then .int .i64 (((p.1 : Nat) : Int) + 1) else .int .i64 0)])]]) [fun v _ => v = .agg #[.int .i64 5, .int .i64 (((p.1 : Nat) : Int) + 1)], fun v _ => v = .slice none 0 0, fun _ _ => True] [] T.mix rfl HE ⟨Heap.le.refl _, HS.drew⟩ rfl (by simp) (AllM.get ⟨fun _ _ _ _ h => h, fun _ _ _ _ h => h, fun _ _ _ _ h => h, trivial⟩) ⟨?_, ?_, ?_, trivial⟩ ?_
      ·intro a w G1 f hcl hfi hon hW HE hp hO; obtain ⟨hl, HS⟩ := hW
       refine o_ldA HE rfl HS rfl T.a36 (.there (.here .here)) rfl ?_; clear HE; intro a HE
       exact ⟨_, _, Heap.le.refl _, ⟨hl, HS⟩, fun d hd => (by cases hd; exact HE.get _ _ rfl), HE.defers, rfl⟩
      ·intro a w G1 f hcl hfi hon hW HE hp hO; obtain ⟨hl, HS⟩ := hW
       refine o_assign HE rfl rfl ?_; clear HE; intro a HE
       exact ⟨_, _, Heap.le.refl _, ⟨hl, HS⟩, fun d hd => (by cases hd; exact HE.get _ _ rfl), HE.defers, rfl⟩
      ·intro a w G1 f hcl hfi hon hW HE hp hO; obtain ⟨hl, HS⟩ := hW
       obtain ⟨_, e0, rfl⟩ := hp 0 48 _ (hon 0 rfl) rfl rfl; replace HE := HE.add e0
       refine o_stA HE HS rfl rfl rfl T.a36 (.there (.there (.here .here))) rfl ?_; clear HS; intro w HS
       replace HS := HS.conv (L2 := [(0, _), (1, _)]) (.there (.there (.here .here))) ⟨rfl, rfl, trivial⟩
       exact ⟨.bool true, _, Heap.le.refl _, ⟨hl, HS⟩, fun d hd => (by cases hd), HE.defers, trivial⟩
      clear HE HS; intro a w G50 f hle51 hall HW HE hp; obtain ⟨_, HS⟩ := HW
      have hfw2 := hall 2 (by decide)
      simp only [hfw2, cond_true] at HS
      replace h8 := h8.le hle51
      replace hg0 := hg0.le hle51
      replace hg1 := hg1.le hle51
      replace hgm := hgm.le hle51
      replace hgo := hgo.le hle51
      replace hgn := hgn.le hle51
      replace hR2 := hR2.le hle51
      replace hA30 := hA30.le hle51
      replace hB30 := hB30.le hle51
      replace hR48 := hR48.le hle51
      obtain ⟨_, e1, rfl⟩ := hp 1 2 _ rfl rfl; replace HE := HE.add e1
      clear hp hall
      refine hK45 _ _ ?_; clear hK45
      refine rt hQ HE HS ?_
      have hz := code8_zero (n := (linesS t).2) (by simpa using h7)
      have hh : histP t = histG (linesS t).1 0 [] := if_pos hz
      have gx := getD_at (l := (linesS t).1) (i := p.1) (by omega)
      have he : histP t = ([], 5, ((p.1 : Nat) : Int) + 1) := hh.trans (hp3.trans (histG_bad gx (codeH_many (by omega)) (by decide)))
      rw [he]
      exact ⟨_, _, rfl, Nat.le_refl _, .nil⟩
     ·exact absurd h44r (by decide)
    ·exact absurd h39r (by decide)
   ·have h35 := nm h35r
    refine wp_skip ?_
    refine hK32 _ _ ?_; clear hK32
    refine wp_seq_k (fun K53 hK52 => ?_)
    refine sr fun K hK => ?_
    refine rn 2 HE HS ?_; clear HE HS; intro a w HE HS
    apply hK; clear hK K
    refine cond HE rfl (fun h55r => ?_) (fun h55r => ?_)
    ·have h55 := nm h55r
     refine sr fun K hK => ?_
     refine rn 3 HE HS ?_; clear HE HS; intro a w HE HS
     refine o_build (cs := #[.int .i64 ((parseE (((linesS t).1).getD p.1 [])).2), .int .i64 (((p.1 : Nat) : Int) + 1)]) HE rfl rfl (by kernel_rfl) ?_; clear HE; intro a HE
     refine rn 1 HE HS ?_; clear HE HS; intro a w HE HS
     apply hK; clear hK K
     refine wp_exit ?_
     refine hK15 _ _ ?_; clear hK15
     refine wp_seq_k (fun K58 hK57 => ?_)
     refine sr fun K hK => ?_
     refine rn 3 HE HS ?_; clear HE HS; intro a w HE HS
     apply hK; clear hK K
     refine cond HE rfl (fun h60r => ?_) (fun h60r => ?_)
     ·have h60 := nm h60r
      refine wp_seq_k (fun K62 hK61 => ?_)
      have hcphR64 := oH6_1.cap
      obtain ⟨G63, hle65, HS', hR64⟩ := X.Own.still HS (.there .here) oH6_1; clear HS; have HS := HS'; clear HS'
      replace h8 := h8.le hle65
      replace hg0 := hg0.le hle65
      replace hg1 := hg1.le hle65
      replace hgm := hgm.le hle65
      replace hgo := hgo.le hle65
      replace hgn := hgn.le hle65
      replace hR2 := hR2.le hle65
      replace hA30 := hA30.le hle65
      replace hB30 := hB30.le hle65
      replace HE := HE.cut (L' := [(3, .pointer (some ⟨B3, 0, none⟩)), (5, .pointer (some ⟨B5, 0, none⟩)), (6, .slice oA6_1 ((p.2).length) oc6_1), (7, .int .i64 ((p.1 : Nat) : Int)), (8, str (((linesS t).1).getD p.1 [])), (9, .pointer (some ⟨B9, 0, none⟩)), (10, .int .i64 ((parseE (((linesS t).1).getD p.1 [])).2)), (20, .slice (some ⟨eb28, eo28, none⟩) ((linesS t).1.length) vc2), (21, .int .i64 ((linesS t).1.length : Int)), (22, .int .i64 ((p.1 : Nat) : Int)), (23, .bool (decide (((p.1 : Nat) : Int) < ((linesS t).1.length : Int)))), (24, .int .i64 ((p.1 : Nat) : Int)), (25, .pointer (some ⟨eb28, eo28 + ((p.1 : Nat) : Int).toNat * 1, none⟩)), (26, str (((linesS t).1).getD p.1 [])), (27, .tuple #[.agg #[.int .i64 ((parseE (((linesS t).1).getD p.1 [])).1.time), .int .i64 ((parseE (((linesS t).1).getD p.1 [])).1.client.k), .int .i64 ((parseE (((linesS t).1).getD p.1 [])).1.client.n), str ((parseE (((linesS t).1).getD p.1 [])).1.client.s), .int .i64 ((parseE (((linesS t).1).getD p.1 [])).1.type), .int .i64 ((parseE (((linesS t).1).getD p.1 [])).1.model), .int .i64 ((parseE (((linesS t).1).getD p.1 [])).1.key.k), .int .i64 ((parseE (((linesS t).1).getD p.1 [])).1.key.n), str ((parseE (((linesS t).1).getD p.1 [])).1.key.s), .int .i64 ((parseE (((linesS t).1).getD p.1 [])).1.op), .slice vA30 ((parseE (((linesS t).1).getD p.1 [])).1.args.length) vc30, .slice vB30 ((parseE (((linesS t).1).getD p.1 [])).1.out.length) vd30, .bool ((parseE (((linesS t).1).getD p.1 [])).1.noted), str ((parseE (((linesS t).1).getD p.1 [])).1.note)], .int .i64 ((parseE (((linesS t).1).getD p.1 [])).2)]), (28, str (((linesS t).1).getD p.1 [])), (29, .tuple #[.agg #[.int .i64 ((parseE (((linesS t).1).getD p.1 [])).1.time), .int .i64 ((parseE (((linesS t).1).getD p.1 [])).1.client.k), .int .i64 ((parseE (((linesS t).1).getD p.1 [])).1.client.n), str ((parseE (((linesS t).1).getD p.1 [])).1.client.s), .int .i64 ((parseE (((linesS t).1).getD p.1 [])).1.type), .int .i64 ((parseE (((linesS t).1).getD p.1 [])).1.model), .int .i64 ((parseE (((linesS t).1).getD p.1 [])).1.key.k), .int .i64 ((parseE (((linesS t).1).getD p.1 [])).1.key.n), str ((parseE (((linesS t).1).getD p.1 [])).1.key.s), .int .i64 ((parseE (((linesS t).1).getD p.1 [])).1.op), .slice vA30 ((parseE (((linesS t).1).getD p.1 [])).1.args.length) vc30, .slice vB30 ((parseE (((linesS t).1).getD p.1 [])).1.out.length) vd30, .bool ((parseE (((linesS t).1).getD p.1 [])).1.noted), str ((parseE (((linesS t).1).getD p.1 [])).1.note)], .int .i64 ((parseE (((linesS t).1).getD p.1 [])).2)]), (30, .agg #[.int .i64 ((parseE (((linesS t).1).getD p.1 [])).1.time), .int .i64 ((parseE (((linesS t).1).getD p.1 [])).1.client.k), .int .i64 ((parseE (((linesS t).1).getD p.1 [])).1.client.n), str ((parseE (((linesS t).1).getD p.1 [])).1.client.s), .int .i64 ((parseE (((linesS t).1).getD p.1 [])).1.type), .int .i64 ((parseE (((linesS t).1).getD p.1 [])).1.model), .int .i64 ((parseE (((linesS t).1).getD p.1 [])).1.key.k), .int .i64 ((parseE (((linesS t).1).getD p.1 [])).1.key.n), str ((parseE (((linesS t).1).getD p.1 [])).1.key.s), .int .i64 ((parseE (((linesS t).1).getD p.1 [])).1.op), .slice vA30 ((parseE (((linesS t).1).getD p.1 [])).1.args.length) vc30, .slice vB30 ((parseE (((linesS t).1).getD p.1 [])).1.out.length) vd30, .bool ((parseE (((linesS t).1).getD p.1 [])).1.noted), str ((parseE (((linesS t).1).getD p.1 [])).1.note)]), (31, .int .i64 ((parseE (((linesS t).1).getD p.1 [])).2)), (32, .int .i64 ((p.1 : Nat) : Int)), (33, .bool (decide (((p.1 : Nat) : Int) = 4096))), (34, .int .i64 ((parseE (((linesS t).1).getD p.1 [])).2)), (35, .bool (!decide (((parseE (((linesS t).1).getD p.1 [])).2) = 0))), (36, .int .i64 ((parseE (((linesS t).1).getD p.1 [])).2)), (37, .int .i64 ((p.1 : Nat) : Int)), (38, .int .i64 (((p.1 : Nat) : Int) + 1)), (39, .agg #[.int .i64 ((parseE (((linesS t).1).getD p.1 [])).2), .int .i64 (((p.1 : Nat) : Int) + 1)]), (45, .pointer (some ⟨B5, 0, none⟩)), (46, .int .i64 ((parseE (((linesS t).1).getD p.1 [])).2)), (47, .bool (!decide (((parseE (((linesS t).1).getD p.1 [])).2) = 0)))]) ⟨rfl, rfl, rfl, rfl, rfl, rfl, rfl, rfl, rfl, rfl, rfl, rfl, rfl, rfl, rfl, rfl, rfl, rfl, rfl, rfl, rfl, rfl, rfl, rfl, rfl, rfl, rfl, rfl, rfl, rfl, trivial⟩
      refine drawnF (fun f G' w => Heap.le G63 G' ∧ St w0 G [] G' w [[(B9, Cells 26 [(0, .int .i64 ((parseE (((linesS t).1).getD p.1 [])).1.time)), (1, .int .i64 ((parseE (((linesS t).1).getD p.1 [])).1.client.k)), (2, .int .i64 ((parseE (((linesS t).1).getD p.1 [])).1.client.n)), (3, str ((parseE (((linesS t).1).getD p.1 [])).1.client.s)), (4, .int .i64 ((parseE (((linesS t).1).getD p.1 [])).1.type)), (5, .int .i64 ((parseE (((linesS t).1).getD p.1 [])).1.model)), (6, .int .i64 ((parseE (((linesS t).1).getD p.1 [])).1.key.k)), (7, .int .i64 ((parseE (((linesS t).1).getD p.1 [])).1.key.n)), (8, str ((parseE (((linesS t).1).getD p.1 [])).1.key.s)), (9, .int .i64 ((parseE (((linesS t).1).getD p.1 [])).1.op)), (10, .slice vA30 ((parseE (((linesS t).1).getD p.1 [])).1.args.length) vc30), (11, .slice vB30 ((parseE (((linesS t).1).getD p.1 [])).1.out.length) vd30), (12, .bool ((parseE (((linesS t).1).getD p.1 [])).1.noted)), (13, str ((parseE (((linesS t).1).getD p.1 [])).1.note))])], [(B5, Cells 36 [(0, .int .i64 ((parseE (((linesS t).1).getD p.1 [])).2)), (1, .int .i64 (((p.1 : Nat) : Int) + 1))])], [(B3, Cells 36 [(0, bif f 2 then .int .i64 ((parseE (((linesS t).1).getD p.1 [])).2) else .int .i64 0), (1, bif f 2 then .int .i64 (((p.1 : Nat) : Int) + 1) else .int .i64 0)])]]) [fun v _ => v = .agg #[.int .i64 ((parseE (((linesS t).1).getD p.1 [])).2), .int .i64 (((p.1 : Nat) : Int) + 1)], fun v _ => v = .slice none 0 0, fun _ _ => True] [] T.mix rfl HE ⟨Heap.le.refl _, HS.drew⟩ rfl (by simp) (AllM.get ⟨fun _ _ _ _ h => h, fun _ _ _ _ h => h, fun _ _ _ _ h => h, trivial⟩) ⟨?_, ?_, ?_, trivial⟩ ?_
      ·intro a w G1 f hcl hfi hon hW HE hp hO; obtain ⟨hl, HS⟩ := hW
       refine o_ldA HE rfl HS rfl T.a36 (.there (.here .here)) rfl ?_; clear HE; intro a HE
       exact ⟨_, _, Heap.le.refl _, ⟨hl, HS⟩, fun d hd => (by cases hd; exact HE.get _ _ rfl), HE.defers, rfl⟩
      ·intro a w G1 f hcl hfi hon hW HE hp hO; obtain ⟨hl, HS⟩ := hW
       refine o_assign HE rfl rfl ?_; clear HE; intro a HE
       exact ⟨_, _, Heap.le.refl _, ⟨hl, HS⟩, fun d hd => (by cases hd; exact HE.get _ _ rfl), HE.defers, rfl⟩
      ·intro a w G1 f hcl hfi hon hW HE hp hO; obtain ⟨hl, HS⟩ := hW
       obtain ⟨_, e0, rfl⟩ := hp 0 48 _ (hon 0 rfl) rfl rfl; replace HE := HE.add e0
       refine o_stA HE HS rfl rfl rfl T.a36 (.there (.there (.here .here))) rfl ?_; clear HS; intro w HS
       replace HS := HS.conv (L2 := [(0, _), (1, _)]) (.there (.there (.here .here))) ⟨rfl, rfl, trivial⟩
       exact ⟨.bool true, _, Heap.le.refl _, ⟨hl, HS⟩, fun d hd => (by cases hd), HE.defers, trivial⟩
      clear HE HS; intro a w G66 f hle67 hall HW HE hp; obtain ⟨_, HS⟩ := HW
      have hfw2 := hall 2 (by decide)
      simp only [hfw2, cond_true] at HS
      replace h8 := h8.le hle67
      replace hg0 := hg0.le hle67
      replace hg1 := hg1.le hle67
      replace hgm := hgm.le hle67
      replace hgo := hgo.le hle67
      replace hgn := hgn.le hle67
      replace hR2 := hR2.le hle67
      replace hA30 := hA30.le hle67
      replace hB30 := hB30.le hle67
      replace hR64 := hR64.le hle67
      obtain ⟨_, e1, rfl⟩ := hp 1 2 _ rfl rfl; replace HE := HE.add e1
      clear hp hall
      refine hK61 _ _ ?_; clear hK61
      refine rt hQ HE HS ?_
      have hz := code8_zero (n := (linesS t).2) (by simpa using h7)
      have hh : histP t = histG (linesS t).1 0 [] := if_pos hz
      have gx := getD_at (l := (linesS t).1) (i := p.1) (by omega)
      have he : histP t = ([], (parseE ((linesS t).1.getD p.1 [])).2, ((p.1 : Nat) : Int) + 1) := hh.trans (hp3.trans (histG_bad gx (codeH_few (by omega)) (h60)))
      rw [he]
      exact ⟨_, _, rfl, Nat.le_refl _, .nil⟩
     ·exact absurd (h55r.symm.trans h60r) (by decide)
    ·have h55 := nm h55r
     refine wp_skip ?_
     refine hK52 _ _ ?_; clear hK52
     refine wp_region_lit ?_
     refine rn 2 HE HS ?_; clear HE HS; intro a w HE HS
     refine o_buildSl (cs := #[.int .i64 ((parseE (((linesS t).1).getD p.1 [])).1.time), .int .i64 ((parseE (((linesS t).1).getD p.1 [])).1.client.k), .int .i64 ((parseE (((linesS t).1).getD p.1 [])).1.client.n), str ((parseE (((linesS t).1).getD p.1 [])).1.client.s), .int .i64 ((parseE (((linesS t).1).getD p.1 [])).1.type), .int .i64 ((parseE (((linesS t).1).getD p.1 [])).1.model), .int .i64 ((parseE (((linesS t).1).getD p.1 [])).1.key.k), .int .i64 ((parseE (((linesS t).1).getD p.1 [])).1.key.n), str ((parseE (((linesS t).1).getD p.1 [])).1.key.s), .int .i64 ((parseE (((linesS t).1).getD p.1 [])).1.op), .slice vA30 ((parseE (((linesS t).1).getD p.1 [])).1.args.length) vc30, .slice vB30 ((parseE (((linesS t).1).getD p.1 [])).1.out.length) vd30, .bool ((parseE (((linesS t).1).getD p.1 [])).1.noted), str ((parseE (((linesS t).1).getD p.1 [])).1.note)]) [(0, _), (1, _), (2, _), (3, _), (4, _), (5, _), (6, _), (7, _), (8, _), (9, _), (10, _), (11, _), (12, _), (13, _)] HE rfl HS rfl T.l30 (by kernel_rfl) ⟨rfl, rfl, rfl, rfl, rfl, rfl, rfl, rfl, rfl, rfl, rfl, rfl, rfl, rfl, trivial⟩ ?_; clear HE HS; intro B42 w a HS HE
     refine o_appendL (K := kEvt) (ys := [((parseE (((linesS t).1).getD p.1 [])).1)]) (n := 14) HE rfl HS (.there (.there .here)) oH6_1 rfl rfl T.p30 (.here .here) rfl ⟨kEvt_mk ((parseE (((linesS t).1).getD p.1 [])).1) hap30 hA30 hbp30 hB30, rfl⟩ rfl rfl (by (simp; omega)) (by (simp; omega)) ?_
     clear HE HS; intro oA68 oc68 oC68 w a HS oH68 HE
     refine rn 1 HE HS ?_; clear HE HS; intro a w HE HS
     refine hK26 _ _ ?_; clear hK26
     refine wp_region_lit ?_
     refine rn 2 HE HS ?_; clear HE HS; intro a w HE HS
     replace HS := HS.drop (M' := [_, _, _]) (sub_keep (sub_drop (sub_drop (sub_keep (sub_keep sub_nil)))))
     have gx := getD_at (l := (linesS t).1) (i := p.1) (by omega)
     have hnx := hp3.trans (histG_hit gx (by rw [codeH_few (by omega)]; omega))
     exact ⟨(p.1 + 1, p.2 ++ [((parseE (((linesS t).1).getD p.1 [])).1)]), ⟨_, _, _, _, (hle21.trans hle30), HS, HE.cut ⟨rfl, rfl, rfl, rfl, rfl, rfl, rfl, trivial⟩, oH68, ⟨by dsimp only; omega, by simp; omega, hnx⟩⟩, by show (linesS t).1.length - (p.1 + 1) < _; omega⟩
  ·have h25 := nm h25r
   refine wp_exit ?_
   refine hK15 _ _ ?_; clear hK15
   refine wp_seq_k (fun K70 hK69 => ?_)
   refine sr fun K hK => ?_
   refine rn 3 HE HS ?_; clear HE HS; intro a w HE HS
   apply hK; clear hK K
   refine cond HE rfl (fun h72r => ?_) (fun h72r => ?_)
   ·have h72 := nm h72r
    refine wp_seq_k (fun K74 hK73 => ?_)
    have hcphR76 := oH6_1.cap
    obtain ⟨G75, hle77, HS', hR76⟩ := X.Own.still HS .here oH6_1; clear HS; have HS := HS'; clear HS'
    replace h8 := h8.le hle77
    replace hg0 := hg0.le hle77
    replace hg1 := hg1.le hle77
    replace hgm := hgm.le hle77
    replace hgo := hgo.le hle77
    replace hgn := hgn.le hle77
    replace hR2 := hR2.le hle77
    replace HE := HE.cut (L' := [(3, .pointer (some ⟨B3, 0, none⟩)), (5, .pointer (some ⟨B5, 0, none⟩)), (6, .slice oA6_1 ((p.2).length) oc6_1), (20, .slice vA2 ((linesS t).1.length) vc2), (21, .int .i64 ((linesS t).1.length : Int)), (22, .int .i64 ((p.1 : Nat) : Int)), (23, .bool (decide (((p.1 : Nat) : Int) < ((linesS t).1.length : Int)))), (45, .pointer (some ⟨B5, 0, none⟩)), (46, .int .i64 (code8 (linesS t).2)), (47, .bool (!decide ((code8 (linesS t).2) = 0)))]) ⟨rfl, rfl, rfl, rfl, rfl, rfl, rfl, rfl, rfl, rfl, trivial⟩
    refine drawnF (fun f G' w => Heap.le G75 G' ∧ St w0 G [] G' w [[(B5, Cells 36 [(0, .int .i64 (code8 (linesS t).2)), (1, .int .i64 ((linesS t).2))])], [(B3, Cells 36 [(0, bif f 2 then .int .i64 (code8 (linesS t).2) else .int .i64 0), (1, bif f 2 then .int .i64 ((linesS t).2) else .int .i64 0)])]]) [fun v _ => v = .agg #[.int .i64 (code8 (linesS t).2), .int .i64 ((linesS t).2)], fun v _ => v = .slice none 0 0, fun _ _ => True] [] T.mix rfl HE ⟨Heap.le.refl _, HS.drew⟩ rfl (by simp) (AllM.get ⟨fun _ _ _ _ h => h, fun _ _ _ _ h => h, fun _ _ _ _ h => h, trivial⟩) ⟨?_, ?_, ?_, trivial⟩ ?_
    ·intro a w G1 f hcl hfi hon hW HE hp hO; obtain ⟨hl, HS⟩ := hW
     refine o_ldA HE rfl HS rfl T.a36 (.here .here) rfl ?_; clear HE; intro a HE
     exact ⟨_, _, Heap.le.refl _, ⟨hl, HS⟩, fun d hd => (by cases hd; exact HE.get _ _ rfl), HE.defers, rfl⟩
    ·intro a w G1 f hcl hfi hon hW HE hp hO; obtain ⟨hl, HS⟩ := hW
     refine o_assign HE rfl rfl ?_; clear HE; intro a HE
     exact ⟨_, _, Heap.le.refl _, ⟨hl, HS⟩, fun d hd => (by cases hd; exact HE.get _ _ rfl), HE.defers, rfl⟩
    ·intro a w G1 f hcl hfi hon hW HE hp hO; obtain ⟨hl, HS⟩ := hW
     obtain ⟨_, e0, rfl⟩ := hp 0 48 _ (hon 0 rfl) rfl rfl; replace HE := HE.add e0
     refine o_stA HE HS rfl rfl rfl T.a36 (.there (.here .here)) rfl ?_; clear HS; intro w HS
     replace HS := HS.conv (L2 := [(0, _), (1, _)]) (.there (.here .here)) ⟨rfl, rfl, trivial⟩
     exact ⟨.bool true, _, Heap.le.refl _, ⟨hl, HS⟩, fun d hd => (by cases hd), HE.defers, trivial⟩
    clear HE HS; intro a w G78 f hle79 hall HW HE hp; obtain ⟨_, HS⟩ := HW
    have hfw2 := hall 2 (by decide)
    simp only [hfw2, cond_true] at HS
    replace h8 := h8.le hle79
    replace hg0 := hg0.le hle79
    replace hg1 := hg1.le hle79
    replace hgm := hgm.le hle79
    replace hgo := hgo.le hle79
    replace hgn := hgn.le hle79
    replace hR2 := hR2.le hle79
    replace hR76 := hR76.le hle79
    obtain ⟨_, e1, rfl⟩ := hp 1 2 _ rfl rfl; replace HE := HE.add e1
    clear hp hall
    refine hK73 _ _ ?_; clear hK73
    refine rt hQ HE HS ?_
    exact absurd (code8_zero (n := (linesS t).2) (by simpa using h7)) (code8_ne h72)
   ·have h72 := nm h72r
    refine wp_skip ?_
    refine hK69 _ _ ?_; clear hK69
    refine wp_seq_k (fun K81 hK80 => ?_)
    have hcphR83 := oH6_1.cap
    obtain ⟨G82, hle84, HS', hR83⟩ := X.Own.still HS .here oH6_1; clear HS; have HS := HS'; clear HS'
    replace h8 := h8.le hle84
    replace hg0 := hg0.le hle84
    replace hg1 := hg1.le hle84
    replace hgm := hgm.le hle84
    replace hgo := hgo.le hle84
    replace hgn := hgn.le hle84
    replace hR2 := hR2.le hle84
    replace HE := HE.cut (L' := [(3, .pointer (some ⟨B3, 0, none⟩)), (5, .pointer (some ⟨B5, 0, none⟩)), (6, .slice oA6_1 ((p.2).length) oc6_1), (20, .slice vA2 ((linesS t).1.length) vc2), (21, .int .i64 ((linesS t).1.length : Int)), (22, .int .i64 ((p.1 : Nat) : Int)), (23, .bool (decide (((p.1 : Nat) : Int) < ((linesS t).1.length : Int)))), (45, .pointer (some ⟨B5, 0, none⟩)), (46, .int .i64 (code8 (linesS t).2)), (47, .bool (!decide ((code8 (linesS t).2) = 0)))]) ⟨rfl, rfl, rfl, rfl, rfl, rfl, rfl, rfl, rfl, rfl, trivial⟩
    refine drawnF (fun f G' w => Heap.le G82 G' ∧ St w0 G [] G' w [[(B5, Cells 36 [(0, .int .i64 (code8 (linesS t).2)), (1, .int .i64 ((linesS t).2))])], [(B3, Cells 36 [(0, bif f 3 then .int .i64 (code8 (linesS t).2) else .int .i64 0), (1, bif f 3 then .int .i64 ((linesS t).2) else .int .i64 0)])]]) [fun v _ => v = .slice oA6_1 ((p.2).length) oc6_1, fun v _ => v = .agg #[.int .i64 (code8 (linesS t).2), .int .i64 ((linesS t).2)], fun v _ => v = .slice oA6_1 ((p.2).length) oc6_1, fun _ _ => True] [] T.mix rfl HE ⟨Heap.le.refl _, HS.drew⟩ rfl (by simp) (AllM.get ⟨fun _ _ _ _ h => h, fun _ _ _ _ h => h, fun _ _ _ _ h => h, fun _ _ _ _ h => h, trivial⟩) ⟨?_, ?_, ?_, ?_, trivial⟩ ?_
    ·intro a w G1 f hcl hfi hon hW HE hp hO; obtain ⟨hl, HS⟩ := hW
     refine o_move HE rfl rfl ?_; clear HE; intro a HE
     exact ⟨_, _, Heap.le.refl _, ⟨hl, HS⟩, fun d hd => (by cases hd; exact HE.get _ _ rfl), HE.defers, rfl⟩
    ·intro a w G1 f hcl hfi hon hW HE hp hO; obtain ⟨hl, HS⟩ := hW
     refine o_ldA HE rfl HS rfl T.a36 (.here .here) rfl ?_; clear HE; intro a HE
     exact ⟨_, _, Heap.le.refl _, ⟨hl, HS⟩, fun d hd => (by cases hd; exact HE.get _ _ rfl), HE.defers, rfl⟩
    ·intro a w G1 f hcl hfi hon hW HE hp hO; obtain ⟨hl, HS⟩ := hW
     obtain ⟨_, e0, rfl⟩ := hp 0 49 _ (hon 0 rfl) rfl rfl; replace HE := HE.add e0
     refine o_assign HE rfl rfl ?_; clear HE; intro a HE
     exact ⟨_, _, Heap.le.refl _, ⟨hl, HS⟩, fun d hd => (by cases hd; exact HE.get _ _ rfl), HE.defers, rfl⟩
    ·intro a w G1 f hcl hfi hon hW HE hp hO; obtain ⟨hl, HS⟩ := hW
     obtain ⟨_, e1, rfl⟩ := hp 1 50 _ (hon 1 rfl) rfl rfl; replace HE := HE.add e1
     refine o_stA HE HS rfl rfl rfl T.a36 (.there (.here .here)) rfl ?_; clear HS; intro w HS
     replace HS := HS.conv (L2 := [(0, _), (1, _)]) (.there (.here .here)) ⟨rfl, rfl, trivial⟩
     exact ⟨.bool true, _, Heap.le.refl _, ⟨hl, HS⟩, fun d hd => (by cases hd), HE.defers, trivial⟩
    clear HE HS; intro a w G85 f hle86 hall HW HE hp; obtain ⟨_, HS⟩ := HW
    have hfw3 := hall 3 (by decide)
    simp only [hfw3, cond_true] at HS
    replace h8 := h8.le hle86
    replace hg0 := hg0.le hle86
    replace hg1 := hg1.le hle86
    replace hgm := hgm.le hle86
    replace hgo := hgo.le hle86
    replace hgn := hgn.le hle86
    replace hR2 := hR2.le hle86
    replace hR83 := hR83.le hle86
    obtain ⟨_, e2, rfl⟩ := hp 2 2 _ rfl rfl; replace HE := HE.add e2
    clear hp hall
    refine hK80 _ _ ?_; clear hK80
    refine rt hQ HE HS ?_
    have hz := code8_zero (n := (linesS t).2) (by simpa using h7)
    have hh : histP t = histG (linesS t).1 0 [] := if_pos hz
    rw [List.drop_of_length_le (by omega)] at hp3
    have he : histP t = (p.2, 0, 0) := hh.trans hp3
    rw [he, hz]
    exact ⟨_, _, rfl, hcphR83, hR83⟩

/-! `incognito/incognitoref11.Same` -/
set_option maxRecDepth 100000 in
set_option maxHeartbeats 4000000 in
theorem c_Same11 (xa : List Evt) (Aa : Option Addr) (ca : Nat) (xb : List Evt) (Ab : Option Addr) (cb : Nat) (w0 : World) (G : Heap) (hG : Sub G w0) (hRxa : Rd kEvt G Aa xa) (hlxa : xa.length ≤ 9223372036854775807) (hsxa : ∀ e ∈ xa, EvSm e) (hRxb : Rd kEvt G Ab xb) (hlxb : xb.length ≤ 9223372036854775807) (hsxb : ∀ e ∈ xb, EvSm e):
  Calls Tryz.prog 16 #[.slice Aa xa.length ca, .slice Ab xb.length cb] w0 (Ret w0 G (fun v _ => v = .bool (decide (xa = xb)))) := by
 refine enter Tryz.func16 rfl Tryz.ntmps16 rfl ?_
 intro Q hQ a HE
 have HS := St.start0 hG
 refine sr fun K hK => ?_
 refine rn 1 HE HS ?_; clear HE HS; intro a w HE HS
 apply hK; clear hK K
 refine wp_seq_k (fun K3 hK2 => ?_)
 refine sr fun K hK => ?_
 refine rn 5 HE HS ?_; clear HE HS; intro a w HE HS
 apply hK; clear hK K
 refine cond HE rfl (fun h5r => ?_) (fun h5r => ?_)
 ·have h5 := nm h5r
  refine sr fun K hK => ?_
  refine rn 1 HE HS ?_; clear HE HS; intro a w HE HS
  apply hK; clear hK K
  refine rt hQ HE HS ?_
  show _ = _
  simp only [packed, Value.bool.injEq]
  exact (decide_eq_false fun e => by subst e; omega).symm
 ·have h5 := nm h5r
  refine wp_skip ?_
  refine hK2 _ _ ?_; clear hK2
  refine wp_seq_k (fun K8 hK7 => ?_)
  refine sr fun K hK => ?_
  refine rn 1 HE HS ?_; clear HE HS; intro a w HE HS
  apply hK; clear hK K
  refine wp_block ?_
  refine loop (fun (i : Nat) a' w' => St w0 G [] G w' [] ∧ Env a' 27 [] [(0, .slice Aa xa.length ca), (1, .slice Ab xb.length cb), (4, .bool false), (5, .int .i64 ((i : Nat) : Int))] ∧ (i ≤ xa.length ∧ xa.take i = xb.take i)) (fun (i : Nat) => xa.length - i) 0 ⟨HS, HE.cut ⟨rfl, rfl, rfl, rfl, trivial⟩, ⟨Nat.zero_le _, rfl⟩⟩ ?_
  clear HE HS; intro i a w ⟨HS, HE, ⟨hi, ht⟩⟩
  refine wp_seq_k (fun K12 hK11 => ?_)
  refine sr fun K hK => ?_
  refine rn 4 HE HS ?_; clear HE HS; intro a w HE HS
  apply hK; clear hK K
  refine cond HE rfl (fun h14r => ?_) (fun h14r => ?_)
  ·have h14 := nm h14r
   refine wp_skip ?_
   refine hK11 _ _ ?_; clear hK11
   refine wp_seq_k (fun K16 hK15 => ?_)
   refine wp_block ?_
   refine wp_seq_k (fun K18 hK17 => ?_)
   have hmxa : EvSm (xa.getD i E0) := hsxa _ (by rw [← getD_get (i := i) (xs := xa) (by omega) E0]; exact List.getElem_mem _)
   have hmxb : EvSm (xb.getD i E0) := hsxb _ (by rw [← getD_get (i := i) (xs := xb) (by omega) E0]; exact List.getElem_mem _)
   have hi19 : ((i : Nat) : Int).toNat < xa.length := by omega
   obtain ⟨eb19, eo19, hA19, el19⟩ := Rd.at hRxa (List.getElem?_eq_getElem hi19); cases hA19
   rw [show xa[((i : Nat) : Int).toNat] = (xa.getD i E0) from getD_get (i := i) hi19 _] at el19
   obtain ⟨A1_19, c1_19, A2_19, c2_19, el19, ha1_19, hr1_19, ha2_19, hr2_19⟩ := kEvt_open el19
   have hi20 : ((i : Nat) : Int).toNat < xb.length := by omega
   obtain ⟨eb20, eo20, hA20, el20⟩ := Rd.at hRxb (List.getElem?_eq_getElem hi20); cases hA20
   rw [show xb[((i : Nat) : Int).toNat] = (xb.getD i E0) from getD_get (i := i) hi20 _] at el20
   obtain ⟨A1_20, c1_20, A2_20, c2_20, el20, ha1_20, hr1_20, ha2_20, hr2_20⟩ := kEvt_open el20
   refine drawnP [fun v => v = .slice (some ⟨eb19, eo19, none⟩) xa.length ca, fun v => v = .int .i64 ((i : Nat) : Int), fun v => v = .pointer (some ⟨eb19, eo19 + ((i : Nat) : Int).toNat * 14, none⟩), fun v => v = .agg #[.int .i64 ((xa.getD i E0).time), .int .i64 ((xa.getD i E0).client.k), .int .i64 ((xa.getD i E0).client.n), str ((xa.getD i E0).client.s), .int .i64 ((xa.getD i E0).type), .int .i64 ((xa.getD i E0).model), .int .i64 ((xa.getD i E0).key.k), .int .i64 ((xa.getD i E0).key.n), str ((xa.getD i E0).key.s), .int .i64 ((xa.getD i E0).op), .slice A1_19 ((xa.getD i E0).args.length) c1_19, .slice A2_19 ((xa.getD i E0).out.length) c2_19, .bool ((xa.getD i E0).noted), str ((xa.getD i E0).note)], fun v => v = .slice (some ⟨eb20, eo20, none⟩) xb.length cb, fun v => v = .int .i64 ((i : Nat) : Int), fun v => v = .pointer (some ⟨eb20, eo20 + ((i : Nat) : Int).toNat * 14, none⟩), fun v => v = .agg #[.int .i64 ((xb.getD i E0).time), .int .i64 ((xb.getD i E0).client.k), .int .i64 ((xb.getD i E0).client.n), str ((xb.getD i E0).client.s), .int .i64 ((xb.getD i E0).type), .int .i64 ((xb.getD i E0).model), .int .i64 ((xb.getD i E0).key.k), .int .i64 ((xb.getD i E0).key.n), str ((xb.getD i E0).key.s), .int .i64 ((xb.getD i E0).op), .slice A1_20 ((xb.getD i E0).args.length) c1_20, .slice A2_20 ((xb.getD i E0).out.length) c2_20, .bool ((xb.getD i E0).noted), str ((xb.getD i E0).note)], fun v => v = .bool (decide ((xa.getD i E0) = (xb.getD i E0))), fun v => v = .bool (!(decide ((xa.getD i E0) = (xb.getD i E0))))] T.mix rfl HE HS rfl ⟨?_, ?_, ?_, ?_, ?_, ?_, ?_, ?_, ?_, ?_, trivial⟩ ?_
   ·intro a w G1 hl HS HE hp
    refine o_move HE rfl rfl ?_; clear HE; intro a HE
    exact ⟨_, _, HS, rfl, HE.get _ _ rfl, HE.defers, rfl⟩
   ·intro a w G1 hl HS HE hp
    refine o_move HE rfl rfl ?_; clear HE; intro a HE
    exact ⟨_, _, HS, rfl, HE.get _ _ rfl, HE.defers, rfl⟩
   ·intro a w G1 hl HS HE hp
    obtain ⟨_, e0, rfl⟩ := hp 0 17 _ rfl rfl rfl; replace HE := HE.add e0
    obtain ⟨_, e1, rfl⟩ := hp 1 18 _ rfl rfl rfl; replace HE := HE.add e1
    refine o_ixL HE rfl rfl rfl T.l30 ⟨by omega, by omega⟩ ?_; clear HE; intro a HE
    exact ⟨_, _, HS, rfl, HE.get _ _ rfl, HE.defers, rfl⟩
   ·intro a w G1 hl HS HE hp
    obtain ⟨_, e2, rfl⟩ := hp 2 19 _ rfl rfl rfl; replace HE := HE.add e2
    refine o_ldIA HE rfl HS rfl (el19.le hl) T.a26 ?_; clear HE; intro a HE
    exact ⟨_, _, HS, rfl, HE.get _ _ rfl, HE.defers, rfl⟩
   ·intro a w G1 hl HS HE hp
    refine o_move HE rfl rfl ?_; clear HE; intro a HE
    exact ⟨_, _, HS, rfl, HE.get _ _ rfl, HE.defers, rfl⟩
   ·intro a w G1 hl HS HE hp
    refine o_move HE rfl rfl ?_; clear HE; intro a HE
    exact ⟨_, _, HS, rfl, HE.get _ _ rfl, HE.defers, rfl⟩
   ·intro a w G1 hl HS HE hp
    obtain ⟨_, e4, rfl⟩ := hp 4 21 _ rfl rfl rfl; replace HE := HE.add e4
    obtain ⟨_, e5, rfl⟩ := hp 5 22 _ rfl rfl rfl; replace HE := HE.add e5
    refine o_ixL HE rfl rfl rfl T.l30 ⟨by omega, by omega⟩ ?_; clear HE; intro a HE
    exact ⟨_, _, HS, rfl, HE.get _ _ rfl, HE.defers, rfl⟩
   ·intro a w G1 hl HS HE hp
    obtain ⟨_, e6, rfl⟩ := hp 6 23 _ rfl rfl rfl; replace HE := HE.add e6
    refine o_ldIA HE rfl HS rfl (el20.le hl) T.a26 ?_; clear HE; intro a HE
    exact ⟨_, _, HS, rfl, HE.get _ _ rfl, HE.defers, rfl⟩
   ·intro a w G1 hl HS HE hp
    obtain ⟨_, e3, rfl⟩ := hp 3 20 _ rfl rfl rfl; replace HE := HE.add e3
    obtain ⟨_, e7, rfl⟩ := hp 7 24 _ rfl rfl rfl; replace HE := HE.add e7
    refine o_callP HE rfl HS rfl rfl T.g39 (c_SameE (xa.getD i E0) (xb.getD i E0) _ _ _ _ _ _ _ _ _ _ HS.sub (hr1_19.le hl) (hr2_19.le hl) (by first | omega | exact hmxa.1 | exact hmxa.2 | exact hmxb.1 | exact hmxb.2 | (simp; done) | exact parse_args (by first | omega | (simp; omega)) | exact parse_out (by first | omega | (simp; omega))) (by first | omega | exact hmxa.1 | exact hmxa.2 | exact hmxb.1 | exact hmxb.2 | (simp; done) | exact parse_args (by first | omega | (simp; omega)) | exact parse_out (by first | omega | (simp; omega))) (hr1_20.le hl) (hr2_20.le hl) (by first | omega | exact hmxa.1 | exact hmxa.2 | exact hmxb.1 | exact hmxb.2 | (simp; done) | exact parse_args (by first | omega | (simp; omega)) | exact parse_out (by first | omega | (simp; omega))) (by first | omega | exact hmxa.1 | exact hmxa.2 | exact hmxb.1 | exact hmxb.2 | (simp; done) | exact parse_args (by first | omega | (simp; omega)) | exact parse_out (by first | omega | (simp; omega)))) ?_
    clear HE HS; rintro _ w a HS rfl HE
    exact ⟨_, _, HS, rfl, HE.get _ _ rfl, HE.defers, rfl⟩
   ·intro a w G1 hl HS HE hp
    obtain ⟨_, e8, rfl⟩ := hp 8 25 _ rfl rfl rfl; replace HE := HE.add e8
    refine o_not HE rfl rfl ?_; clear HE; intro a HE
    exact ⟨_, _, HS, rfl, HE.get _ _ rfl, HE.defers, rfl⟩
   clear HE HS; intro a w HS HE hp
   obtain ⟨_, e9, rfl⟩ := hp 9 26 _ rfl rfl; replace HE := HE.add e9
   clear hp
   refine hK17 _ _ ?_; clear hK17
   refine cond HE rfl (fun h21r => ?_) (fun h21r => ?_)
   ·have h21 := nm h21r
    refine sr fun K hK => ?_
    refine rn 1 HE HS ?_; clear HE HS; intro a w HE HS
    apply hK; clear hK K
    refine rt hQ HE HS ?_
    show _ = _
    simp only [packed, Value.bool.injEq]
    exact (decide_eq_false fun e => by subst e; simp at h21).symm
   ·have h21 := nm h21r
    refine wp_skip ?_
    refine hK15 _ _ ?_; clear hK15
    refine wp_region_lit ?_
    refine rn 3 HE HS ?_; clear HE HS; intro a w HE HS
    have hq : xa.getD i E0 = xb.getD i E0 := by simpa using h21
    have ht2 : xa.take (i + 1) = xb.take (i + 1) := take_snoc_eq7 ht (by omega) (by omega) (by rw [getD_get (xs := xa) (i := i) (by omega) E0, getD_get (xs := xb) (i := i) (by omega) E0]; exact hq)
    exact ⟨i + 1, ⟨HS, HE.cut ⟨rfl, rfl, rfl, rfl, trivial⟩, ⟨by omega, ht2⟩⟩, by omega⟩
  ·have h14 := nm h14r
   refine wp_exit ?_
   refine hK7 _ _ ?_; clear hK7
   refine sr fun K hK => ?_
   refine rn 1 HE HS ?_; clear HE HS; intro a w HE HS
   apply hK; clear hK K
   refine rt hQ HE HS ?_
   show _ = _
   simp only [packed, Value.bool.injEq]
   exact (decide_eq_true (by rwa [List.take_of_length_le (by omega), List.take_of_length_le (by omega)] at ht)).symm
end Go.Proofs.YtiinipcmghhacaaGreatDoor.T10
