/- Own text. -/
import Derived.Test.YtngoaapgdfohjaaDoorG5
import Derived.Test.YtngoaapgdfohjaaDoorH4
set_option linter.unusedVariables false
set_option linter.unusedSimpArgs false
namespace Go.Proofs.YtngoaapgdfohjaaDoor.T27K
open Go Go.Proofs.YtngoaapgdfohjaaDoor.X Go.Proofs Go.Proofs.YtngoaapgdfohjaaDoor.T27
def entN (ky : List Int) (r : Rul) (d : Int) (l : List Val) (i : Nat) : Ent := ⟨d, nameN ky r d l i, l.getD i ⟨0, 0, []⟩⟩
def entsN (ky : List Int) (r : Rul) (d : Int) (l : List Val) (n : Nat) : List Ent := (List.range n).map (entN ky r d l)
def namesN (ky : List Int) (r : Rul) (d : Int) (l : List Val) (n : Nat) : List Val := (List.range n).map (nameN ky r d l)
def buildN (ky : List Int) (r : Rul) (d : Int) (xs : List Val) : List Ent × Int :=
  if mayB r d = false then ([], 1) else if r.way = 0 then ([], 0) else if (namesN ky r d (unlikeL d xs) (unlikeL d xs).length).Nodup then (entsN ky r d (unlikeL d xs) (unlikeL d xs).length, 0) else ([], 8)
theorem entsN_step {ky : List Int} {r : Rul} {d : Int} {l : List Val} {n : Nat} : entsN ky r d l n ++ [entN ky r d l n] = entsN ky r d l (n + 1) := by unfold entsN; rw [List.range_succ, List.map_append]; rfl
theorem namesN_step {ky : List Int} {r : Rul} {d : Int} {l : List Val} {n : Nat} : namesN ky r d l n ++ [nameN ky r d l n] = namesN ky r d l (n + 1) := by unfold namesN; rw [List.range_succ, List.map_append]; rfl
theorem namesN_len {ky : List Int} {r : Rul} {d : Int} {l : List Val} {n : Nat} : (namesN ky r d l n).length = n := by simp [namesN]
theorem entsN_len {ky : List Int} {r : Rul} {d : Int} {l : List Val} {n : Nat} : (entsN ky r d l n).length = n := by simp [entsN]
theorem names_bad {ky : List Int} {r : Rul} {d : Int} {l : List Val} {i n : Nat} (hi : i < n) (h : nameN ky r d l i ∈ namesN ky r d l i) : ¬ (namesN ky r d l n).Nodup := by
  intro hn
  have h2 : (namesN ky r d l (i + 1)).Sublist (namesN ky r d l n) := by
    unfold namesN
    exact (List.range_sublist.2 (by omega)).map _
  have h3 := hn.sublist h2
  rw [← namesN_step, List.nodup_append] at h3
  exact h3.2.2 _ h _ (by simp) rfl
theorem nodup_step {ky : List Int} {r : Rul} {d : Int} {l : List Val} {i : Nat} (hn : (namesN ky r d l i).Nodup) (h : ¬ nameN ky r d l i ∈ namesN ky r d l i) : (namesN ky r d l (i + 1)).Nodup := by
  rw [← namesN_step, List.nodup_append]
  refine ⟨hn, by simp, fun a ha b hb e => ?_⟩
  rw [List.mem_singleton] at hb
  subst hb e
  exact h ha
theorem name_wf {ky : List Int} {r : Rul} {d : Int} {l : List Val} {i : Nat} (hl : l.length ≤ 1000000) (hi : i < l.length) : (nameN ky r d l i).Wf := by
  unfold nameN
  split
  · have h1 := letter_len d
    have h2 := Lib.itoa_length_le ((i : Int) + 1) (by omega) (by omega)
    exact ⟨by show I64 2; unfold I64; omega, by show I64 0; unfold I64; omega, by simp; omega⟩
  · split
    · have h1 := letter_len d
      have h2 := TK.of_len ky (letterS d) r.size (printV (l.getD i ⟨0, 0, []⟩))
      exact ⟨by show I64 2; unfold I64; omega, by show I64 0; unfold I64; omega, by simp only [List.length_append]; omega⟩
    · have h1 := clV_rng l (l.getD i ⟨0, 0, []⟩)
      refine ⟨by show I64 1; unfold I64; omega, ?_, by simp⟩
      show I64 (_ + 1)
      unfold I64
      omega
set_option maxRecDepth 100000 in
set_option maxHeartbeats 4000000 in
theorem c_buildN (r : Rul) (d : Int) (Ak : Option Addr) (kn kc : Nat) (xs : List Val) (A : Option Addr) (c : Nat) (w0 : World) (G : Heap) (hG : Sub G w0) (hg0 : CellsAt G 0 0 [.int .i64 3, .int .i64 1, str []]) (hg1 : CellsAt G 1 0 [.int .i64 3, .int .i64 0, str []]) (hT : TabG G 3 .u64 Lib.pow10Tab) (hR : Rd kVal G A xs) (hl : xs.length ≤ 1000000) (hw : ∀ v ∈ xs, v.Wf) (hdr : I64 d) (hKs : CellsAt G 4 0 (TK.ks.map (Value.int .u32))) (ky : List Int) (hRk : Rd (Knd.int .u8) G Ak ky) (hkn : kn = ky.length) (hkc : ky.length ≤ kc) (hkl : ky.length ≤ 1000000) (hpr : ∀ v ∈ xs, (printV v).length ≤ 10000000):
    Calls Tryd.prog 7 #[.agg #[.int .i64 r.way, .int .i64 r.size], .int .i64 d, .slice Ak kn kc, .slice A xs.length c] w0 (Ret w0 G (fun v G' => ∃ A c, v = .tuple #[.slice A (buildN ky r d xs).1.length c, .int .i64 (buildN ky r d xs).2] ∧ (buildN ky r d xs).1.length ≤ c ∧ Rd kEnt G' A (buildN ky r d xs).1)) := by
  subst hkn
  refine enter Tryd.func7 rfl Tryd.ntmps7 rfl ?_
  intro Q hQ a HE
  have HS := St.start0 hG
  refine sr fun K hK => ?_
  refine o_bx2 HE rfl HS rfl ?_; clear HE HS; intro B4 w a HS HE
  refine rn 2 HE HS ?_; clear HE HS; intro a w HE HS
  apply hK; clear hK K
  refine wp_seq_k (fun K3 hK2 => ?_)
  refine sr fun K hK => ?_
  refine rn 2 HE HS ?_; clear HE HS; intro a w HE HS
  refine o_callP HE rfl HS rfl rfl T.g11 (c_mayD r d _ _ HS.sub (by first | assumption | decide)) ?_
  clear HE HS; rintro _ w a HS rfl HE
  refine rn 1 HE HS ?_; clear HE HS; intro a w HE HS
  apply hK; clear hK K
  refine cond HE rfl (fun h5r => ?_) (fun h5r => ?_)
  · have h5 := nm h5r
    refine sr fun K hK => ?_
    refine rn 2 HE HS ?_; clear HE HS; intro a w HE HS
    apply hK; clear hK K
    refine rt hQ HE HS ?_
    have he : buildN ky r d xs = ([], 1) := by unfold buildN; rw [if_pos (by simpa using h5)]
    rw [he]
    exact ⟨_, _, rfl, Nat.le_refl _, .nil⟩
  · have h5 := nm h5r
    refine wp_skip ?_
    refine hK2 _ _ ?_; clear hK2
    refine wp_seq_k (fun K8 hK7 => ?_)
    refine sr fun K hK => ?_
    refine rn 3 HE HS ?_; clear HE HS; intro a w HE HS
    apply hK; clear hK K
    refine cond HE rfl (fun h10r => ?_) (fun h10r => ?_)
    · have h10 := nm h10r
      refine sr fun K hK => ?_
      refine rn 2 HE HS ?_; clear HE HS; intro a w HE HS
      apply hK; clear hK K
      refine rt hQ HE HS ?_
      have he : buildN ky r d xs = ([], 0) := by unfold buildN; rw [if_neg (by simpa using h5), if_pos (by simpa using h10)]
      rw [he]
      exact ⟨_, _, rfl, Nat.le_refl _, .nil⟩
    · have h10 := nm h10r
      refine wp_skip ?_
      refine hK7 _ _ ?_; clear hK7
      refine sr fun K hK => ?_
      refine rn 2 HE HS ?_; clear HE HS; intro a w HE HS
      refine o_call HE rfl HS rfl rfl T.g12 (c_unlike d xs _ _ _ _ HS.sub hg0 hg1 hR (by omega) hw) ?_
      clear HE HS; rintro _ G12 w a HS hle12 ⟨vA12, vc12, rfl, hcp12, hR12⟩ HE
      replace hg0 := hg0.le hle12
      replace hg1 := hg1.le hle12
      replace hT := hT.le hle12
      replace hKs := hKs.le hle12
      replace hRk := hRk.le hle12
      replace hR := hR.le hle12
      refine rn 1 HE HS ?_; clear HE HS; intro a w HE HS
      apply hK; clear hK K
      refine sr fun K hK => ?_
      have hul := unlike_len d xs
      refine rn 4 HE HS ?_; clear HE HS; intro a w HE HS
      refine o_call HE rfl HS rfl rfl T.g13 (c_naming r d _ _ _ (unlikeL d xs) _ _ _ _ HS.sub hT hR12 (by first | assumption | decide) (by omega) hg0 hg1 hKs ky hRk rfl hkc hkl (fun v hv => hw v (unlike_mem hv).1) (fun v hv => hpr v (unlike_mem hv).1)) ?_
      clear HE HS; rintro _ G14 w a HS hle14 ⟨nf14, caps14, rfl, hgf14, hfn14⟩ HE
      replace hg0 := hg0.le hle14
      replace hg1 := hg1.le hle14
      replace hT := hT.le hle14
      replace hKs := hKs.le hle14
      replace hRk := hRk.le hle14
      replace hR := hR.le hle14
      replace hR12 := hR12.le hle14
      refine rn 1 HE HS ?_; clear HE HS; intro a w HE HS
      apply hK; clear hK K
      refine sr fun K hK => ?_
      refine rn 1 HE HS ?_; clear HE HS; intro a w HE HS
      apply hK; clear hK K
      refine sr fun K hK => ?_
      refine o_makeMap 32 kvV vvI HE rfl HS ?_; clear HE HS; intro B34 w a HS HE
      refine rn 1 HE HS ?_; clear HE HS; intro a w HE HS
      apply hK; clear hK K
      refine wp_seq_k (fun K19 hK18 => ?_)
      refine sr fun K hK => ?_
      refine rn 3 HE HS ?_; clear HE HS; intro a w HE HS
      apply hK; clear hK K
      refine wp_block ?_
      replace HS := HS.drop (M' := [_]) (sub_keep (sub_drop sub_nil))
      replace HS := HS.nilChunk
      have oH22 : X.Own kEnt 34 G14 none 0 ([] : List Ent) [] := X.Own.nil
      replace HS := HS.turnP (q := MapF Tryd.prog 32 kvV vvI (posF (namesN ky r d (unlikeL d xs) 0))) (.there (.here .here)) (fun o ho => ho.turn (rfl))
      refine loop (fun (i : Nat) a' w' => ∃ (oA12_1 : Option Addr) (oc12_1 : Nat) (oC12_1 : Chunk), St w0 G [] G14 w' [oC12_1, [(B34, MapF Tryd.prog 32 kvV vvI (posF (namesN ky r d (unlikeL d xs) i)))]] ∧ Env a' 66 [] [(1, .int .i64 d), (11, .func (.func nf14) #[] (List.toArray caps14)), (12, .slice oA12_1 ((entsN ky r d (unlikeL d xs) i).length) oc12_1), (13, .map (some B34)), (35, .slice vA12 ((unlikeL d xs).length) vc12), (36, .int .i64 ((unlikeL d xs).length : Int)), (37, .int .i64 ((i : Nat) : Int))] ∧ X.Own kEnt 34 G14 oA12_1 oc12_1 (entsN ky r d (unlikeL d xs) i) oC12_1 ∧ (i ≤ (unlikeL d xs).length ∧ (namesN ky r d (unlikeL d xs) i).Nodup)) (fun (i : Nat) => (unlikeL d xs).length - i) 0 ⟨_, _, _, HS, HE.cut ⟨rfl, rfl, rfl, rfl, rfl, rfl, rfl, trivial⟩, X.Own.nil (K := kEnt), ⟨Nat.zero_le _, List.nodup_nil⟩⟩ ?_
      clear HE HS; intro i a w ⟨oA12_1, oc12_1, oC12_1, HS, HE, oH12_1, ⟨hi, hnd⟩⟩
      refine sr fun K hK => ?_
      refine rn 1 HE HS ?_; clear HE HS; intro a w HE HS
      apply hK; clear hK K
      refine wp_seq_k (fun K26 hK25 => ?_)
      refine cond HE rfl (fun h27r => ?_) (fun h27r => ?_)
      · have h27 := nm h27r
        refine wp_skip ?_
        refine hK25 _ _ ?_; clear hK25
        refine wp_seq_k (fun K29 hK28 => ?_)
        refine wp_block ?_
        refine sr fun K hK => ?_
        refine rn 1 HE HS ?_; clear HE HS; intro a w HE HS
        have hi30 : ((i : Nat) : Int).toNat < (unlikeL d xs).length := by omega
        obtain ⟨eb30, eo30, hA30, el30⟩ := Rd.at hR12 (List.getElem?_eq_getElem hi30); cases hA30
        rw [show (unlikeL d xs)[((i : Nat) : Int).toNat] = ((unlikeL d xs).getD i ⟨0, 0, []⟩) from getD_get (i := i) hi30 _] at el30
        have el30 := kVal_open el30
        refine o_ixL HE rfl rfl rfl T.l22 ⟨by omega, by omega⟩ ?_; clear HE; intro a HE
        refine o_ldIA HE rfl HS rfl el30 T.a32 ?_; clear HE; intro a HE
        refine o_allocZ HE rfl HS ?_; clear HE HS; intro B15 w a HS HE
        refine rn 2 HE HS ?_; clear HE HS; intro a w HE HS
        apply hK; clear hK K
        refine wp_seq_k (fun K33 hK32 => ?_)
        have hnw := name_wf (ky := ky) (r := r) (d := d) (i := i) (l := (unlikeL d xs)) (by omega) (by omega)
        have hel := entsN_len (ky := ky) (r := r) (d := d) (l := (unlikeL d xs)) (n := i)
        replace HE := HE.cut (L' := [(1, .int .i64 d), (11, .func (.func nf14) #[] (List.toArray caps14)), (12, .slice oA12_1 ((entsN ky r d (unlikeL d xs) i).length) oc12_1), (13, .map (some B34)), (14, .int .i64 ((i : Nat) : Int)), (15, .pointer (some ⟨B15, 0, none⟩)), (35, .slice (some ⟨eb30, eo30, none⟩) ((unlikeL d xs).length) vc12), (36, .int .i64 ((unlikeL d xs).length : Int)), (37, .int .i64 ((i : Nat) : Int)), (38, .bool (decide (((i : Nat) : Int) < ((unlikeL d xs).length : Int)))), (39, .int .i64 ((i : Nat) : Int)), (40, .pointer (some ⟨eb30, eo30 + ((i : Nat) : Int).toNat * 3, none⟩)), (41, .agg #[.int .i64 (((unlikeL d xs).getD i ⟨0, 0, []⟩).k), .int .i64 (((unlikeL d xs).getD i ⟨0, 0, []⟩).n), str (((unlikeL d xs).getD i ⟨0, 0, []⟩).s)])]) ⟨rfl, rfl, rfl, rfl, rfl, rfl, rfl, rfl, rfl, rfl, rfl, rfl, rfl, trivial⟩
        refine drawnA (fun f tm G' w => G14 = G' ∧ ∃ X6_ : List Chunk, St w0 G [] G' w (X6_ ++ [[(B15, Cells 32 [(0, .int .i64 (((unlikeL d xs).getD i ⟨0, 0, []⟩).k)), (1, .int .i64 (((unlikeL d xs).getD i ⟨0, 0, []⟩).n)), (2, str (((unlikeL d xs).getD i ⟨0, 0, []⟩).s))])], oC12_1, [(B34, MapF Tryd.prog 32 kvV vvI (posF (namesN ky r d (unlikeL d xs) i)))]]) ∧ ((f 6 = false ∧ X6_ = []) ∨ (f 6 = true ∧ ∃ B16 : Nat, tm 16 = some (.pointer (some ⟨B16, 0, none⟩)) ∧ X6_ = [[(B16, Cells 34 [(0, bif f 7 then .int .i64 d else .int .i64 0), (1, bif f 7 then .int .i64 ((nameN ky r d (unlikeL d xs) i).k) else .int .i64 0), (2, bif f 7 then .int .i64 ((nameN ky r d (unlikeL d xs) i).n) else .int .i64 0), (3, bif f 7 then str ((nameN ky r d (unlikeL d xs) i).s) else str []), (4, bif f 7 then .int .i64 (((unlikeL d xs).getD i ⟨0, 0, []⟩).k) else .int .i64 0), (5, bif f 7 then .int .i64 (((unlikeL d xs).getD i ⟨0, 0, []⟩).n) else .int .i64 0), (6, bif f 7 then str (((unlikeL d xs).getD i ⟨0, 0, []⟩).s) else str [])])]]))) [fun v _ => v = .int .i64 d, fun v _ => v = .func (.func nf14) #[] (List.toArray caps14), fun v _ => v = .int .i64 ((i : Nat) : Int), fun v _ => v = .agg #[.int .i64 ((nameN ky r d (unlikeL d xs) i).k), .int .i64 ((nameN ky r d (unlikeL d xs) i).n), str ((nameN ky r d (unlikeL d xs) i).s)], fun v _ => v = .agg #[.int .i64 (((unlikeL d xs).getD i ⟨0, 0, []⟩).k), .int .i64 (((unlikeL d xs).getD i ⟨0, 0, []⟩).n), str (((unlikeL d xs).getD i ⟨0, 0, []⟩).s)], fun v _ => v = .agg #[.int .i64 d, .int .i64 ((nameN ky r d (unlikeL d xs) i).k), .int .i64 ((nameN ky r d (unlikeL d xs) i).n), str ((nameN ky r d (unlikeL d xs) i).s), .int .i64 (((unlikeL d xs).getD i ⟨0, 0, []⟩).k), .int .i64 (((unlikeL d xs).getD i ⟨0, 0, []⟩).n), str (((unlikeL d xs).getD i ⟨0, 0, []⟩).s)], fun _ _ => True, fun _ _ => True] [] T.mix rfl HE ⟨rfl, [], HS.drew, .inl ⟨rfl, rfl⟩⟩ rfl (by simp) (AllM.get ⟨fun _ _ _ _ h => h, fun _ _ _ _ h => h, fun _ _ _ _ h => h, fun _ _ _ _ h => h, fun _ _ _ _ h => h, fun _ _ _ _ h => h, fun _ _ _ _ h => h, fun _ _ _ _ h => h, trivial⟩) ⟨?_, ?_, ?_, ?_, ?_, ?_, ?_, ?_, trivial⟩ ?_
        · intro a w G1 f hcl hfi hon hW HE hp hO; obtain ⟨rfl, X6_, HS, hX6⟩ := hW
          rcases hX6 with ⟨hfa6, rfl⟩ | ⟨hfa6, B16, hB6, rfl⟩
          · simp only [List.nil_append] at HS
            refine o_move HE rfl rfl ?_; clear HE; intro a HE
            exact ⟨_, _, Heap.le.refl _, ⟨rfl, [], HS, .inl ⟨(by show (Nat.beq 6 0 || f 6) = false; rw [hfa6]; rfl), rfl⟩⟩, fun d hd => (by cases hd; exact HE.get _ _ rfl), HE.defers, rfl⟩
          · replace HE := HE.add hB6; simp only [List.cons_append, List.nil_append] at HS
            refine o_move HE rfl rfl ?_; clear HE; intro a HE
            exact ⟨_, _, Heap.le.refl _, ⟨rfl, [_], HS, .inr ⟨(by show (Nat.beq 6 0 || f 6) = true; rw [hfa6]; rfl), _, HE.get _ _ rfl, rfl⟩⟩, fun d hd => (by cases hd; exact HE.get _ _ rfl), HE.defers, rfl⟩
        · intro a w G1 f hcl hfi hon hW HE hp hO; obtain ⟨rfl, X6_, HS, hX6⟩ := hW
          rcases hX6 with ⟨hfa6, rfl⟩ | ⟨hfa6, B16, hB6, rfl⟩
          · simp only [List.nil_append] at HS
            refine o_move HE rfl rfl ?_; clear HE; intro a HE
            exact ⟨_, _, Heap.le.refl _, ⟨rfl, [], HS, .inl ⟨(by show (Nat.beq 6 1 || f 6) = false; rw [hfa6]; rfl), rfl⟩⟩, fun d hd => (by cases hd; exact HE.get _ _ rfl), HE.defers, rfl⟩
          · replace HE := HE.add hB6; simp only [List.cons_append, List.nil_append] at HS
            refine o_move HE rfl rfl ?_; clear HE; intro a HE
            exact ⟨_, _, Heap.le.refl _, ⟨rfl, [_], HS, .inr ⟨(by show (Nat.beq 6 1 || f 6) = true; rw [hfa6]; rfl), _, HE.get _ _ rfl, rfl⟩⟩, fun d hd => (by cases hd; exact HE.get _ _ rfl), HE.defers, rfl⟩
        · intro a w G1 f hcl hfi hon hW HE hp hO; obtain ⟨rfl, X6_, HS, hX6⟩ := hW
          rcases hX6 with ⟨hfa6, rfl⟩ | ⟨hfa6, B16, hB6, rfl⟩
          · simp only [List.nil_append] at HS
            refine o_move HE rfl rfl ?_; clear HE; intro a HE
            exact ⟨_, _, Heap.le.refl _, ⟨rfl, [], HS, .inl ⟨(by show (Nat.beq 6 2 || f 6) = false; rw [hfa6]; rfl), rfl⟩⟩, fun d hd => (by cases hd; exact HE.get _ _ rfl), HE.defers, rfl⟩
          · replace HE := HE.add hB6; simp only [List.cons_append, List.nil_append] at HS
            refine o_move HE rfl rfl ?_; clear HE; intro a HE
            exact ⟨_, _, Heap.le.refl _, ⟨rfl, [_], HS, .inr ⟨(by show (Nat.beq 6 2 || f 6) = true; rw [hfa6]; rfl), _, HE.get _ _ rfl, rfl⟩⟩, fun d hd => (by cases hd; exact HE.get _ _ rfl), HE.defers, rfl⟩
        · intro a w G1 f hcl hfi hon hW HE hp hO; obtain ⟨rfl, X6_, HS, hX6⟩ := hW
          obtain ⟨_, e1, rfl⟩ := hp 1 43 _ (hon 1 rfl) rfl rfl; replace HE := HE.add e1
          obtain ⟨_, e2, rfl⟩ := hp 2 44 _ (hon 2 rfl) rfl rfl; replace HE := HE.add e2
          rcases hX6 with ⟨hfa6, rfl⟩ | ⟨hfa6, B16, hB6, rfl⟩
          · simp only [List.nil_append] at HS
            have hnw := name_wf (ky := ky) (r := r) (d := d) (i := i) (l := (unlikeL d xs)) (by omega) (by omega)
            have hel := entsN_len (ky := ky) (r := r) (d := d) (l := (unlikeL d xs)) (n := i)
            refine o_callP HE rfl HS rfl rfl hgf14 (hfn14 _ _ (Heap.le.refl _) HS.sub i (by omega)) ?_
            clear HE HS; rintro _ w a HS rfl HE
            exact ⟨_, _, Heap.le.refl _, ⟨rfl, [], HS, .inl ⟨(by show (Nat.beq 6 3 || f 6) = false; rw [hfa6]; rfl), rfl⟩⟩, fun d hd => (by cases hd; exact HE.get _ _ rfl), HE.defers, rfl⟩
          · replace HE := HE.add hB6; simp only [List.cons_append, List.nil_append] at HS
            have hnw := name_wf (ky := ky) (r := r) (d := d) (i := i) (l := (unlikeL d xs)) (by omega) (by omega)
            have hel := entsN_len (ky := ky) (r := r) (d := d) (l := (unlikeL d xs)) (n := i)
            refine o_callP HE rfl HS rfl rfl hgf14 (hfn14 _ _ (Heap.le.refl _) HS.sub i (by omega)) ?_
            clear HE HS; rintro _ w a HS rfl HE
            exact ⟨_, _, Heap.le.refl _, ⟨rfl, [_], HS, .inr ⟨(by show (Nat.beq 6 3 || f 6) = true; rw [hfa6]; rfl), _, HE.get _ _ rfl, rfl⟩⟩, fun d hd => (by cases hd; exact HE.get _ _ rfl), HE.defers, rfl⟩
        · intro a w G1 f hcl hfi hon hW HE hp hO; obtain ⟨rfl, X6_, HS, hX6⟩ := hW
          rcases hX6 with ⟨hfa6, rfl⟩ | ⟨hfa6, B16, hB6, rfl⟩
          · simp only [List.nil_append] at HS
            refine o_ldA HE rfl HS rfl T.a32 (.here .here) rfl ?_; clear HE; intro a HE
            exact ⟨_, _, Heap.le.refl _, ⟨rfl, [], HS, .inl ⟨(by show (Nat.beq 6 4 || f 6) = false; rw [hfa6]; rfl), rfl⟩⟩, fun d hd => (by cases hd; exact HE.get _ _ rfl), HE.defers, rfl⟩
          · replace HE := HE.add hB6; simp only [List.cons_append, List.nil_append] at HS
            refine o_ldA HE rfl HS rfl T.a32 (.there (.here .here)) rfl ?_; clear HE; intro a HE
            exact ⟨_, _, Heap.le.refl _, ⟨rfl, [_], HS, .inr ⟨(by show (Nat.beq 6 4 || f 6) = true; rw [hfa6]; rfl), _, HE.get _ _ rfl, rfl⟩⟩, fun d hd => (by cases hd; exact HE.get _ _ rfl), HE.defers, rfl⟩
        · intro a w G1 f hcl hfi hon hW HE hp hO; obtain ⟨rfl, X6_, HS, hX6⟩ := hW
          obtain ⟨_, e0, rfl⟩ := hp 0 42 _ (hon 0 rfl) rfl rfl; replace HE := HE.add e0
          obtain ⟨_, e3, rfl⟩ := hp 3 45 _ (hon 3 rfl) rfl rfl; replace HE := HE.add e3
          obtain ⟨_, e4, rfl⟩ := hp 4 46 _ (hon 4 rfl) rfl rfl; replace HE := HE.add e4
          rcases hX6 with ⟨hfa6, rfl⟩ | ⟨hfa6, B16, hB6, rfl⟩
          · simp only [List.nil_append] at HS
            refine o_build (cs := #[.int .i64 d, .int .i64 ((nameN ky r d (unlikeL d xs) i).k), .int .i64 ((nameN ky r d (unlikeL d xs) i).n), str ((nameN ky r d (unlikeL d xs) i).s), .int .i64 (((unlikeL d xs).getD i ⟨0, 0, []⟩).k), .int .i64 (((unlikeL d xs).getD i ⟨0, 0, []⟩).n), str (((unlikeL d xs).getD i ⟨0, 0, []⟩).s)]) HE rfl rfl (by kernel_rfl) ?_; clear HE; intro a HE
            exact ⟨_, _, Heap.le.refl _, ⟨rfl, [], HS, .inl ⟨(by show (Nat.beq 6 5 || f 6) = false; rw [hfa6]; rfl), rfl⟩⟩, fun d hd => (by cases hd; exact HE.get _ _ rfl), HE.defers, rfl⟩
          · replace HE := HE.add hB6; simp only [List.cons_append, List.nil_append] at HS
            refine o_build (cs := #[.int .i64 d, .int .i64 ((nameN ky r d (unlikeL d xs) i).k), .int .i64 ((nameN ky r d (unlikeL d xs) i).n), str ((nameN ky r d (unlikeL d xs) i).s), .int .i64 (((unlikeL d xs).getD i ⟨0, 0, []⟩).k), .int .i64 (((unlikeL d xs).getD i ⟨0, 0, []⟩).n), str (((unlikeL d xs).getD i ⟨0, 0, []⟩).s)]) HE rfl rfl (by kernel_rfl) ?_; clear HE; intro a HE
            exact ⟨_, _, Heap.le.refl _, ⟨rfl, [_], HS, .inr ⟨(by show (Nat.beq 6 5 || f 6) = true; rw [hfa6]; rfl), _, HE.get _ _ rfl, rfl⟩⟩, fun d hd => (by cases hd; exact HE.get _ _ rfl), HE.defers, rfl⟩
        · intro a w G1 f hcl hfi hon hW HE hp hO; obtain ⟨rfl, X6_, HS, hX6⟩ := hW
          obtain ⟨_, rfl⟩ := hX6.resolve_right (fun h => by rw [hfi] at h; exact absurd h.1 (by decide)); simp only [List.nil_append] at HS
          refine o_allocZ HE rfl HS ?_; clear HE HS; intro B16 w a HS HE
          have hfs7 : f 7 = false := by
            cases hq : f 7 with
            | false => rfl
            | true => (have := hcl 7 _ rfl hq 6 rfl; rw [hfi] at this; cases this)
          skip
          exact ⟨_, _, Heap.le.refl _, ⟨rfl, [_], HS, .inr ⟨(by show (Nat.beq 6 6 || f 6) = true; rfl), _, HE.get _ _ rfl, (by first | rfl | (simp only [updF, hfs7]; rfl))⟩⟩, fun d hd => (by cases hd; exact HE.get _ _ rfl), HE.defers, trivial⟩
        · intro a w G1 f hcl hfi hon hW HE hp hO; obtain ⟨rfl, X6_, HS, hX6⟩ := hW
          obtain ⟨_, e5, rfl⟩ := hp 5 47 _ (hon 5 rfl) rfl rfl; replace HE := HE.add e5
          have hfa6 : f 6 = true := hon 6 rfl
          obtain ⟨_, B16, hB6, rfl⟩ := hX6.resolve_left (fun h => by rw [hfa6] at h; exact absurd h.1 (by decide)); replace HE := HE.add hB6; simp only [List.cons_append, List.nil_append] at HS
          refine o_stA HE HS rfl rfl rfl T.a34 (.here .here) rfl ?_; clear HS; intro w HS
          replace HS := HS.conv (L2 := [(0, _), (1, _), (2, _), (3, _), (4, _), (5, _), (6, _)]) (.here .here) ⟨rfl, rfl, rfl, rfl, rfl, rfl, rfl, trivial⟩
          exact ⟨.bool true, _, Heap.le.refl _, ⟨rfl, [_], HS, .inr ⟨(by show (Nat.beq 6 7 || f 6) = true; rw [hfa6]; rfl), _, HE.get _ _ rfl, rfl⟩⟩, fun d hd => (by cases hd), HE.defers, trivial⟩
        clear HE HS; intro a w _ f hle37 hall HW HE hp; obtain ⟨rfl, X6_, HS, hX6⟩ := HW; clear hle37
        have hfa6 := hall 6 (by decide); obtain ⟨_, B16, hB6, rfl⟩ := hX6.resolve_left (fun h => by rw [hfa6] at h; exact absurd h.1 (by decide)); replace HE := HE.add hB6; clear hX6
        have hfw7 := hall 7 (by decide)
        simp only [List.cons_append, List.nil_append, hfw7, cond_true] at HS
        clear hp hall
        refine hK32 _ _ ?_; clear hK32
        refine wp_seq_k (fun K39 hK38 => ?_)
        refine sr fun K hK => ?_
        refine rn 3 HE HS ?_; clear HE HS; intro a w HE HS
        refine o_lookOkI T.k32 Tryd.underlying48 T.zI kvV_inj HE rfl HS (.there (.there (.there (.here .here)))) rfl rfl rfl (key_val T.K32 (by first | assumption | exact hnw)) ?_; clear HE; intro a HE
        refine rn 5 HE HS ?_; clear HE HS; intro a w HE HS
        apply hK; clear hK K
        refine sr fun K hK => ?_
        refine rn 1 HE HS ?_; clear HE HS; intro a w HE HS
        apply hK; clear hK K
        refine cond HE rfl (fun h42r => ?_) (fun h42r => ?_)
        · have h42 := nm h42r
          refine sr fun K hK => ?_
          refine rn 2 HE HS ?_; clear HE HS; intro a w HE HS
          apply hK; clear hK K
          refine rt hQ HE HS ?_
          have hm9 : nameN ky r d (unlikeL d xs) i ∈ namesN ky r d (unlikeL d xs) i := by have := h42; rw [posF_some] at this; simpa using this
          have he : buildN ky r d xs = ([], 8) := by unfold buildN; rw [if_neg (by simpa using h5), if_neg (by simpa using h10), if_neg (names_bad (by omega) hm9)]
          rw [he]
          exact ⟨_, _, rfl, Nat.le_refl _, .nil⟩
        · have h42 := nm h42r
          refine wp_skip ?_
          refine hK38 _ _ ?_; clear hK38
          refine sr fun K hK => ?_
          refine rn 4 HE HS ?_; clear HE HS; intro a w HE HS
          refine o_mapUpd (y := (nameN ky r d (unlikeL d xs) i)) (u := ((i : Nat) : Int)) T.k32 Tryd.underlying48 kvV_inj HE rfl HS (.there (.there (.there (.here .here)))) rfl rfl rfl rfl rfl (key_val T.K32 (by first | assumption | exact hnw)) ?_; clear HS; intro w HS
          apply hK; clear hK K
          refine wp_region_lit ?_
          refine rn 2 HE HS ?_; clear HE HS; intro a w HE HS
          refine o_buildSl (cs := #[.int .i64 d, .int .i64 ((nameN ky r d (unlikeL d xs) i).k), .int .i64 ((nameN ky r d (unlikeL d xs) i).n), str ((nameN ky r d (unlikeL d xs) i).s), .int .i64 (((unlikeL d xs).getD i ⟨0, 0, []⟩).k), .int .i64 (((unlikeL d xs).getD i ⟨0, 0, []⟩).n), str (((unlikeL d xs).getD i ⟨0, 0, []⟩).s)]) [(0, _), (1, _), (2, _), (3, _), (4, _), (5, _), (6, _)] HE rfl HS rfl T.l25 (by kernel_rfl) ⟨rfl, rfl, rfl, rfl, rfl, rfl, rfl, trivial⟩ ?_; clear HE HS; intro B62 w a HS HE
          refine o_appendL (K := kEnt) (ys := [(⟨d, (nameN ky r d (unlikeL d xs) i), ((unlikeL d xs).getD i ⟨0, 0, []⟩)⟩ : Ent)]) (n := 7) HE rfl HS (.there (.there (.there .here))) oH12_1 rfl rfl T.p25 (.here .here) rfl ⟨rfl, rfl⟩ rfl rfl (by simp; omega) (by simp; omega) ?_
          clear HE HS; intro oA45 oc45 oC45 w a HS oH45 HE
          refine rn 1 HE HS ?_; clear HE HS; intro a w HE HS
          refine hK28 _ _ ?_; clear hK28
          refine wp_region_lit ?_
          refine rn 2 HE HS ?_; clear HE HS; intro a w HE HS
          replace HS := HS.drop (M' := [_, _]) (sub_keep (sub_drop (sub_drop (sub_drop (sub_keep sub_nil)))))
          have hno : ¬ nameN ky r d (unlikeL d xs) i ∈ namesN ky r d (unlikeL d xs) i := by have := h42; rw [posF_some] at this; simpa using this
          replace HS := HS.turnP (q := MapF Tryd.prog 32 kvV vvI (posF (namesN ky r d (unlikeL d xs) (i + 1)))) (.there (.here .here)) (fun o ho => ho.turn (by rw [← namesN_step, ← posF_add hno, namesN_len]))
          have hnd2 := nodup_step hnd hno
          have hxs : ((entsN ky r d (unlikeL d xs) i) ++ [(⟨d, (nameN ky r d (unlikeL d xs) i), ((unlikeL d xs).getD i ⟨0, 0, []⟩)⟩ : Ent)]) = entsN ky r d (unlikeL d xs) (i + 1) := entsN_step
          rw [hxs] at HE oH45; clear hxs
          exact ⟨i + 1, ⟨_, _, _, HS, HE.cut ⟨rfl, rfl, rfl, rfl, rfl, rfl, rfl, trivial⟩, oH45, ⟨by omega, hnd2⟩⟩, by omega⟩
      · have h27 := nm h27r
        refine wp_exit ?_
        refine hK18 _ _ ?_; clear hK18
        refine sr fun K hK => ?_
        refine rn 3 HE HS ?_; clear HE HS; intro a w HE HS
        apply hK; clear hK K
        have hcphR48 := oH12_1.cap
        obtain ⟨G47, hle49, HS', hR48⟩ := X.Own.still HS .here oH12_1; clear HS; have HS := HS'; clear HS'
        replace hg0 := hg0.le hle49
        replace hg1 := hg1.le hle49
        replace hT := hT.le hle49
        replace hKs := hKs.le hle49
        replace hRk := hRk.le hle49
        replace hR := hR.le hle49
        replace hR12 := hR12.le hle49
        replace hfn14 := hfn14.le hle49
        refine rt hQ HE HS ?_
        have hi9 : i = (unlikeL d xs).length := by omega
        subst hi9
        have he : buildN ky r d xs = (entsN ky r d (unlikeL d xs) (unlikeL d xs).length, 0) := by unfold buildN; rw [if_neg (by simpa using h5), if_neg (by simpa using h10), if_pos hnd]
        rw [he]
        exact ⟨_, _, rfl, by assumption, by assumption⟩
end Go.Proofs.YtngoaapgdfohjaaDoor.T27K
