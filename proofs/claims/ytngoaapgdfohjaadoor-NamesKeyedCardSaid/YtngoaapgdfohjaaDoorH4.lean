/- Own text. -/
import Derived.Test.YtngoaapgdfohjaaDoorG4
import Derived.Test.YtngoaapgdfohjaaDoorK18
set_option linter.unusedVariables false
set_option linter.unusedSimpArgs false
namespace Go.Proofs.YtngoaapgdfohjaaDoor.T27K
open Go Go.Proofs.YtngoaapgdfohjaaDoor.X Go.Proofs Go.Proofs.YtngoaapgdfohjaaDoor.T27
def nameN (ky : List Int) (r : Rul) (d : Int) (l : List Val) (i : Nat) : Val := if r.way = 1 then ⟨2, 0, letterS d ++ Lib.itoa ((i : Int) + 1)⟩ else if r.way = 2 then ⟨2, 0, letterS d ++ (TK.ofS ky (letterS d) r.size (printV (l.getD i ⟨0, 0, []⟩))).1⟩ else ⟨1, clV l (l.getD i ⟨0, 0, []⟩) + 1, []⟩
set_option maxRecDepth 100000 in
set_option maxHeartbeats 4000000 in
theorem c_naming (r : Rul) (d : Int) (Ak : Option Addr) (kn kc : Nat) (l : List Val) (A : Option Addr) (c : Nat) (w0 : World) (G : Heap) (hG : Sub G w0) (hT : TabG G 3 .u64 Lib.pow10Tab) (hR : Rd kVal G A l) (hdr : I64 d) (hl : l.length ≤ 1000000) (hg0 : CellsAt G 0 0 [.int .i64 3, .int .i64 1, str []]) (hg1 : CellsAt G 1 0 [.int .i64 3, .int .i64 0, str []]) (hKs : CellsAt G 4 0 (TK.ks.map (Value.int .u32))) (ky : List Int) (hRk : Rd (Knd.int .u8) G Ak ky) (hkn : kn = ky.length) (hkc : ky.length ≤ kc) (hkl : ky.length ≤ 1000000) (hw : ∀ v ∈ l, v.Wf) (hpr : ∀ v ∈ l, (printV v).length ≤ 10000000):
    Calls Tryd.prog 13 #[.agg #[.int .i64 r.way, .int .i64 r.size], .int .i64 d, .slice Ak kn kc, .slice A l.length c] w0 (Ret w0 G (fun v G' => ∃ nf caps, v = .func (.func nf) #[] (List.toArray caps) ∧ goFn Tryd.prog nf = true ∧ FnOk Tryd.prog G' nf caps l.length (nameN ky r d l))) := by
  subst hkn
  refine enter Tryd.func13 rfl Tryd.ntmps13 rfl ?_
  intro Q hQ a HE
  have HS := St.start0 hG
  refine sr fun K hK => ?_
  refine o_bx2 HE rfl HS rfl ?_; clear HE HS; intro B4 w a HS HE
  refine o_bx1 HE rfl HS rfl rfl ?_; clear HE HS; intro B6 w a HS HE
  refine o_bx1 HE rfl HS rfl rfl ?_; clear HE HS; intro B7 w a HS HE
  skip
  refine rn 1 HE HS ?_; clear HE HS; intro a w HE HS
  apply hK; clear hK K
  refine sr fun K hK => ?_
  refine rn 1 HE HS ?_; clear HE HS; intro a w HE HS
  refine o_callP HE rfl HS rfl rfl T.g14 (c_letterN d _ _ HS.sub (by first | assumption | decide)) ?_
  clear HE HS; rintro _ w a HS rfl HE
  refine o_allocZ HE rfl HS ?_; clear HE HS; intro B9 w a HS HE
  refine rn 1 HE HS ?_; clear HE HS; intro a w HE HS
  apply hK; clear hK K
  refine wp_seq_k (fun K4 hK3 => ?_)
  refine sr fun K hK => ?_
  refine rn 2 HE HS ?_; clear HE HS; intro a w HE HS
  apply hK; clear hK K
  refine wp_block ?_
  refine sr fun K hK => ?_
  refine rn 2 HE HS ?_; clear HE HS; intro a w HE HS
  apply hK; clear hK K
  refine cond HE rfl (fun h7r => ?_) (fun h7r => ?_)
  · have h7 := nm h7r
    refine sr fun K hK => ?_
    refine rn 1 HE HS ?_; clear HE HS; intro a w HE HS
    obtain ⟨G8, hle10, hC9, HS'⟩ := HS.stillHead (n := 1) rfl; clear HS; have HS := HS'; clear HS'
    replace hT := hT.le hle10
    replace hg0 := hg0.le hle10
    replace hg1 := hg1.le hle10
    replace hKs := hKs.le hle10
    replace hRk := hRk.le hle10
    replace hR := hR.le hle10
    skip
    refine rn 1 HE HS ?_; clear HE HS; intro a w HE HS
    apply hK; clear hK K
    refine rt hQ HE HS ?_
    refine ⟨17, [.pointer (some ⟨B9, 0, none⟩)], rfl, T.g17, ?_⟩
    intro w1 G1 hle hs i hi
    have e1 : nameN ky r d l i = ⟨2, 0, letterS d ++ Lib.itoa ((i : Int) + 1)⟩ := by unfold nameN; rw [if_pos (by simpa using h7)]
    have hll := letter_len d
    rw [e1]
    show Calls Tryd.prog 17 #[.int .i64 ((i : Nat) : Int), .pointer (some ⟨B9, 0, none⟩)] w1 (Ret w1 G1 (fun v _ => v = .agg #[.int .i64 2, .int .i64 0, str (letterS d ++ Lib.itoa (((i : Nat) : Int) + 1))]))
    exact c_nam1 ((i : Nat) : Int) B9 (letterS d) w1 G1 hs (hT.le hle) (hC9.le hle) (by omega) (by omega)
  · have h7 := nm h7r
    refine sr fun K hK => ?_
    refine rn 2 HE HS ?_; clear HE HS; intro a w HE HS
    apply hK; clear hK K
    refine cond HE rfl (fun h13r => ?_) (fun h13r => ?_)
    · have h13 := nm h13r
      refine sr fun K hK => ?_
      refine rn 1 HE HS ?_; clear HE HS; intro a w HE HS
      obtain ⟨G14, hle16, hC9, HS'⟩ := HS.stillHead (n := 1) rfl; clear HS; have HS := HS'; clear HS'
      replace hT := hT.le hle16
      replace hg0 := hg0.le hle16
      replace hg1 := hg1.le hle16
      replace hKs := hKs.le hle16
      replace hRk := hRk.le hle16
      replace hR := hR.le hle16
      obtain ⟨G15, hle17, hC7, HS'⟩ := HS.stillHead (n := 1) rfl; clear HS; have HS := HS'; clear HS'
      replace hT := hT.le hle17
      replace hg0 := hg0.le hle17
      replace hg1 := hg1.le hle17
      replace hKs := hKs.le hle17
      replace hRk := hRk.le hle17
      replace hR := hR.le hle17
      replace hC9 := hC9.le hle17
      obtain ⟨G16, hle18, hC6, HS'⟩ := HS.stillHead (n := 1) rfl; clear HS; have HS := HS'; clear HS'
      replace hT := hT.le hle18
      replace hg0 := hg0.le hle18
      replace hg1 := hg1.le hle18
      replace hKs := hKs.le hle18
      replace hRk := hRk.le hle18
      replace hR := hR.le hle18
      replace hC9 := hC9.le hle18
      replace hC7 := hC7.le hle18
      obtain ⟨G17, hle19, hC4, HS'⟩ := HS.stillHead (n := 2) rfl; clear HS; have HS := HS'; clear HS'
      replace hT := hT.le hle19
      replace hg0 := hg0.le hle19
      replace hg1 := hg1.le hle19
      replace hKs := hKs.le hle19
      replace hRk := hRk.le hle19
      replace hR := hR.le hle19
      replace hC9 := hC9.le hle19
      replace hC7 := hC7.le hle19
      replace hC6 := hC6.le hle19
      refine rn 1 HE HS ?_; clear HE HS; intro a w HE HS
      apply hK; clear hK K
      refine rt hQ HE HS ?_
      refine ⟨20, [.pointer (some ⟨B6, 0, none⟩), .pointer (some ⟨B9, 0, none⟩), .pointer (some ⟨B4, 0, none⟩), .pointer (some ⟨B7, 0, none⟩)], rfl, (by kernel_rfl), ?_⟩
      intro w1 G1 hle hs i hi
      have e1 : nameN ky r d l i = ⟨2, 0, letterS d ++ (TK.ofS ky (letterS d) r.size (printV (l.getD i ⟨0, 0, []⟩))).1⟩ := by unfold nameN; rw [if_neg (by simpa using h7), if_pos (by simpa using h13)]
      have hll := letter_len d
      rw [e1]
      exact TK.c_nam2 printV i B6 B9 B4 B7 ky _ kc (letterS d) r l _ _ G1 (fun x hx G' hl w hs' => c_print7 x w G' hs' ((hg0.le hle).le hl.le) ((hg1.le hle).le hl.le) ((hT.le hle).le hl.le) (hw x hx)) (fun s G w hs => c_word27 s w G hs) (hKs.le hle) (hC6.le hle) (hC9.le hle) (hC4.le hle) (hC7.le hle) (hRk.le hle) hkc hkl (hR.le hle) hi (by omega) hpr w1 hs
    · have h13 := nm h13r
      refine wp_skip ?_
      refine hK3 _ _ ?_; clear hK3
      refine sr fun K hK => ?_
      refine rn 1 HE HS ?_; clear HE HS; intro a w HE HS
      refine o_call HE rfl HS rfl rfl T.g23 (c_sort7 l _ _ _ _ HS.sub hR (by first | omega | (simp; omega))) ?_
      clear HE HS; rintro _ G18 w a HS hle18 ⟨vA18, vc18, rfl, hcp18, hR18⟩ HE
      replace hT := hT.le hle18
      replace hg0 := hg0.le hle18
      replace hg1 := hg1.le hle18
      replace hKs := hKs.le hle18
      replace hRk := hRk.le hle18
      replace hR := hR.le hle18
      refine o_allocZ HE rfl HS ?_; clear HE HS; intro B10 w a HS HE
      refine rn 1 HE HS ?_; clear HE HS; intro a w HE HS
      apply hK; clear hK K
      refine sr fun K hK => ?_
      refine rn 1 HE HS ?_; clear HE HS; intro a w HE HS
      obtain ⟨G20, hle22, hC21, HS'⟩ := HS.stillHead (n := 1) rfl; clear HS; have HS := HS'; clear HS'
      replace hT := hT.le hle22
      replace hg0 := hg0.le hle22
      replace hg1 := hg1.le hle22
      replace hKs := hKs.le hle22
      replace hRk := hRk.le hle22
      replace hR := hR.le hle22
      replace hR18 := hR18.le hle22
      replace HS := HS.front (C := [(B7, Cells 22 [(0, .slice A l.length c)])]) (.there .here)
      obtain ⟨G23, hle25, hC24, HS'⟩ := HS.stillHead (n := 1) rfl; clear HS; have HS := HS'; clear HS'
      replace hT := hT.le hle25
      replace hg0 := hg0.le hle25
      replace hg1 := hg1.le hle25
      replace hKs := hKs.le hle25
      replace hRk := hRk.le hle25
      replace hR := hR.le hle25
      replace hR18 := hR18.le hle25
      replace hC21 := hC21.le hle25
      skip
      refine rn 1 HE HS ?_; clear HE HS; intro a w HE HS
      apply hK; clear hK K
      refine rt hQ HE HS ?_
      refine ⟨24, [.pointer (some ⟨B10, 0, none⟩), .pointer (some ⟨B7, 0, none⟩)], rfl, T.g24, ?_⟩
      intro w1 G1 hle hs i hi
      have e1 : nameN ky r d l i = ⟨1, clV l (l.getD i ⟨0, 0, []⟩) + 1, []⟩ := by unfold nameN; rw [if_neg (by simpa using h7), if_neg (by simpa using h13)]
      have hsl9 := TS.sortV_len l
      rw [e1, ← clV_sort]
      have hi2 : ((i : Nat) : Int).toNat = i := by omega
      have hk9 := c_nam3 ((i : Nat) : Int) B10 B7 (TS.sortV l) l _ _ _ _ w1 G1 hs (hC21.le hle) (hC24.le hle) (hR18.le hle) (hR.le hle) (by omega) (by omega) (so_sort l)
      rw [hi2] at hk9
      exact hk9
end Go.Proofs.YtngoaapgdfohjaaDoor.T27K
