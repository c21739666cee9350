/- Own text. -/
import Derived.Test.YtngoaapgdfohjaaGreatDoorT4
set_option linter.unusedVariables false
set_option linter.unusedSimpArgs false
set_option maxRecDepth 100000
set_option maxHeartbeats 4000000
namespace Go.Proofs.YtngoaapgdfohjaaGreatDoor.T27
open Go Go.Proofs.YtngoaapgdfohjaaGreatDoor.X Go.Proofs Go.Proofs.YtngoaapgdfohjaaGreatDoor.T28 Go.Proofs.YtngoaapgdfohjaaGreatDoor.TS Go.Proofs.YtngoaapgdfohjaaGreatDoor.TK
/-! ## names.Build -/
attribute [local irreducible] nameN mayB
theorem c_Build (ky : List Int) (r : Rul) (d : Int) (hd : I64 d) (Ak : Option Addr) (kc : Nat) (xs : List Val) (A : Option Addr) (c : Nat) (G : Heap) (g : Gl G) (hRk : Rd (Knd.int .u8) G Ak ky) (hkc : ky.length ≤ kc) (hkl : ky.length ≤ 1000000) (hR : Rd kVal G A xs) (hl : xs.length ≤ 1000000) (hw : ∀ v ∈ xs, v.Wf) (hpr : ∀ v ∈ xs, (printV v).length ≤ 10000000) :
    FnR Tryz.prog 12 [vR r, .int .i64 d, .slice Ak ky.length kc, .slice A xs.length c] G (fun v G' => ∃ A c, v = .tuple #[.slice A (buildN ky r d xs).1.length c, .int .i64 (buildN ky r d xs).2] ∧ (buildN ky r d xs).1.length ≤ c ∧ Rd kEnt G' A (buildN ky r d xs).1) := by
  refine fn_in Tryz.func12 rfl Tryz.ntmps12 rfl fun w0 Q0 hQ => ?_
  refine go ?_; intro B4
  refine go ?_
  refine w_stp (p_call rfl rfl rfl (c_May r d hd _)) ?_
  refine go ?_
  refine w_cond rfl (fun h1 => ?_) (fun h1 => ?_)
  · have h1' : mayB r d = false := by simpa using h1
    have e : buildN ky r d xs = ([], 1) := by unfold buildN; rw [if_pos h1']
    refine go ?_
    refine w_ret hQ ?_
    rw [e]
    exact ⟨none, 0, rfl, Nat.le_refl _, .inl rfl⟩
  · have h1' : ¬ mayB r d = false := by simpa using h1
    refine go ?_
    refine w_cd rfl (fun h2 => ?_) (fun h2 => ?_)
    · have e : buildN ky r d xs = ([], 0) := by unfold buildN; rw [if_neg h1', if_pos h2]
      refine go ?_
      refine w_ret hQ ?_
      rw [e]
      exact ⟨none, 0, rfl, Nat.le_refl _, .inl rfl⟩
    · have hwu : ∀ v ∈ unlikeL d xs, v.Wf := fun v hv => hw v (unlike_mem hv).1
      have hpu : ∀ v ∈ unlikeL d xs, (printV v).length ≤ 10000000 := fun v hv => hpr v (unlike_mem hv).1
      have hlu : (unlikeL d xs).length ≤ 1000000 := by have := unlike_len d xs; omega
      have hb : buildN ky r d xs = if (namesN ky r d (unlikeL d xs) (unlikeL d xs).length).Nodup then (entsN ky r d (unlikeL d xs) (unlikeL d xs).length, 0) else ([], 8) := by unfold buildN; rw [if_neg h1', if_neg h2]
      refine go ?_
      refine w_call rfl rfl rfl (c_Unlike d xs A c _ g.up hR.up hl hw) fun r1 G1 _ hr1 => ?_
      obtain ⟨A1, c1, rfl, hc1, hR1⟩ := hr1
      generalize unlikeL d xs = u at *
      refine go ?_
      refine w_call rfl rfl rfl (c_Naming ky r d hd Ak kc u A1 c1 _ g.up hRk.up hkc hkl hR1 hlu hwu hpu) fun r2 G2 _ hr2 => ?_
      obtain ⟨nf, caps, rfl, hgo, hnam⟩ := hr2
      refine go ?_; intro B13
      refine go ?_
      refine w_nilO (K := kEnt) 70 fun hO => ?_
      refine w_blkAs (q := MapF Tryz.prog 42 kvV vvI (posF [])) (.there (.here .here)) (by rw [posF_none]) ?_
      refine w_loop (α := Nat × Option Addr × Nat × Chunk) (fun x => [(12, .slice x.2.1 (entsN ky r d u x.1).length x.2.2.1), (37, .int .i64 (x.1 : Int))]) (fun x => [x.2.2.2, [(B13, MapF Tryz.prog 42 kvV vvI (posF (namesN ky r d u x.1)))]]) (fun x G => x.1 ≤ u.length ∧ X.Own kEnt 70 G x.2.1 x.2.2.1 (entsN ky r d u x.1) x.2.2.2 ∧ (namesN ky r d u x.1).Nodup) (fun x => u.length - x.1) (0, none, 0, []) ⟨by omega, hO, List.nodup_nil⟩ ?_
      rintro ⟨i, A5, c5, C5⟩ G3 _ ⟨hi, hO5, hnd⟩
      dsimp only at hi hO5 hnd ⊢
      have hel := entsN_len (ky := ky) (r := r) (d := d) (l := u) (n := i)
      refine go ?_
      refine w_cd rfl (fun h3 => ?_) (fun h3 => ?_)
      · have hi' : i < u.length := by omega
        have hE := hR1.val hi'
        have hnw := name_wf (ky := ky) (r := r) (d := d) hlu hi'
        refine go ?_; intro B15
        refine go ?_
        refine w_da 7 [(6, 16, Arr 70 [.int .i64 0, .int .i64 0, .int .i64 0, str [], .int .i64 0, .int .i64 0, str []])] (by kernel_rfl) (by kernel_rfl) ?_
        refine dga ?_
        refine .cons rfl (fun R => p_call (us := []) (vs := [.int .i64 (i : Int)]) (cs := caps) rfl rfl rfl (hnam G3 (Le1.le (B := G3)) i hi')) (dga ?_)
        refine .cons rfl (fun R => p_build (cs := (entCells (entN ky r d u i)).toArray) rfl rfl (by kernel_rfl)) (dga ?_)
        intro G4 _ B16
        have hnw2 : (entN ky r d u i).name.Wf := hnw
        have hps := posF_some (l := namesN ky r d u i) (v := (entN ky r d u i).name)
        refine go ?_
        refine w_cond rfl (fun h4 => ?_) (fun h4 => ?_)
        · have hm : nameN ky r d u i ∈ namesN ky r d u i := by rw [hps] at h4; exact of_decide_eq_true h4
          have e : buildN ky r d xs = ([], 8) := by rw [hb, if_neg (names_bad hi' hm)]
          refine go ?_
          refine w_ret hQ ?_
          rw [e]
          exact ⟨none, 0, rfl, Nat.le_refl _, .inl rfl⟩
        · have hm : ¬ nameN ky r d u i ∈ namesN ky r d u i := by rw [hps] at h4; exact of_decide_eq_false h4
          have hpa := posF_add hm
          rw [namesN_len, namesN_step] at hpa
          refine go ?_
          refine w_updV (c := (entN ky r d u i).name) (u := (i : Int)) rfl rfl rfl hpa (by repeat (first | exact .here .here | apply RepM.there)) hnw2 ?_
          refine go ?_
          refine w_push (K := kEnt) (entN ky r d u i) rfl rfl rfl rfl (cs := (entCells (entN ky r d u i)).toArray) (by kernel_rfl) rfl rfl (by simp) hO5 inferInstance (by repeat (first | exact .here | apply Pk.there)) rfl kone_ent (by omega) fun b A6 c6 C6 G6 _ hO6 => ?_
          rw [entsN_step] at hO6
          rw [entsN_step]
          refine go ?_
          exact w_again (i + 1, A6, c6, C6) ⟨by omega, hO6, nodup_step hnd hm⟩ (by show u.length - (i + 1) < u.length - i; omega)
      · have : i = u.length := by omega
        subst this
        refine go ?_
        refine w_stillO hO5 inferInstance .here fun G5 _ hR5 hc => ?_
        refine w_ret hQ ?_
        rw [hb, if_pos hnd]
        exact ⟨A5, c5, rfl, hc, hR5⟩
end Go.Proofs.YtngoaapgdfohjaaGreatDoor.T27

set_option linter.unusedVariables false
set_option linter.unusedSimpArgs false
set_option maxRecDepth 100000
set_option maxHeartbeats 4000000
namespace Go.Proofs.YtngoaapgdfohjaaGreatDoor.T27
open Go Go.Proofs.YtngoaapgdfohjaaGreatDoor.X Go.Proofs Go.Proofs.YtngoaapgdfohjaaGreatDoor.T28 Go.Proofs.YtngoaapgdfohjaaGreatDoor.TS Go.Proofs.YtngoaapgdfohjaaGreatDoor.TK
/-! ## The document's numbers, words, values -/
theorem c_Print6 (n : Int) (hn : I64 n) (G : Heap) : FnP Tryz.prog 41 [.int .i64 n] G (str (Lib.itoa n)) := by
  refine fnP_in Tryz.func41 rfl Tryz.ntmps41 rfl fun w0 Q0 hQ => ?_
  have hdl := dd_len hn
  refine go ?_
  refine w_loop (α := Int × Bs) (fun p => [(4, .int .i64 p.1), (3, str p.2)]) (fun _ => []) (fun p _ => I64 p.1 ∧ dd p.1.natAbs ++ p.2 = dd n.natAbs) (fun p => p.1.natAbs) (n, []) ⟨hn, by simp⟩ ?_
  rintro ⟨m, s⟩ G1 _ ⟨hm, hs⟩
  dsimp only at hm hs ⊢
  have hr := tdiv_range hm
  have ha := tmod_abs m
  have hsl : s.length ≤ 21 := by
    have := congrArg List.length hs
    rw [List.length_append] at this
    omega
  refine go ?_
  refine w_stp (p_ar (r := m.tmod 10) rfl rfl rfl (.inr (.inr (.inr (.inl ⟨rfl, by decide, rfl⟩))))) ?_
  refine go ?_
  refine w_meet [(5, .int .i64 ((m.tmod 10).natAbs : Int)), (4, .int .i64 m), (3, str s), (0, .int .i64 n), (2, str []), (6, .int .i64 n)] [] ?_ ?_
  · refine w_cd rfl (fun h => ?_) (fun h => ?_)
    · refine go ?_
      refine w_as 5 (.int .i64 ((m.tmod 10).natAbs : Int)) rfl (by congr 1; rw [wrap_i64 (by omega)]; omega) ?_
      exact w_at
    · refine go ?_
      refine w_as 5 (.int .i64 ((m.tmod 10).natAbs : Int)) rfl (by congr 1; omega) ?_
      exact w_at
  refine go ?_
  have hd : ((48 : Int) + (m.tmod 10).natAbs) ≤ 57 := by omega
  refine w_lit (K := Knd.int .u8) [(48 : Int) + (m.tmod 10).natAbs] rfl rfl rfl (cs := #[.int .u8 ((48 : Int) + (m.tmod 10).natAbs)]) (by kernel_rfl) ⟨rfl, rfl⟩ fun b G2 _ hR2 => ?_
  refine w_stp (p_b2s (ns := [(48 : Int) + (m.tmod 10).natAbs]) rfl rfl hR2 (.refl _)) ?_
  refine go ?_
  refine w_stp (p_cat rfl rfl rfl (by simp; omega)) ?_
  refine go ?_
  refine w_stp (p_ar (r := m.tdiv 10) rfl rfl rfl (.inr (.inr (.inr (.inr ⟨rfl, by decide, wrap_i64 hr⟩))))) ?_
  refine go ?_
  refine w_cd rfl (fun h => ?_) (fun h => ?_)
  · have hl := dd_last (s := s) h
    rw [hs] at hl
    rw [← hl]
    refine go ?_
    refine w_cd rfl (fun h5 => ?_) (fun h5 => ?_)
    · refine go ?_
      refine w_stp (p_cat (r := [45]) rfl rfl rfl (by simp; omega)) ?_
      refine go ?_
      refine w_ret hQ ?_
      rw [itoa_ng h5]; rfl
    · refine go ?_
      refine w_ret hQ ?_
      rw [itoa_nn (by omega), show n.toNat = n.natAbs by omega]; rfl
  · have hl := dd_step (s := s) h
    rw [hs] at hl
    have htd := tdiv_abs m
    refine go ?_
    refine w_stp (p_ar (r := m.tdiv 10) rfl rfl rfl (.inr (.inr (.inr (.inr ⟨rfl, by decide, wrap_i64 hr⟩))))) ?_
    refine go ?_
    have hm0 : m.natAbs ≠ 0 := fun h0 => h (by rw [show m = 0 by omega]; rfl)
    refine w_again (m.tdiv 10, _) ⟨hr, hl.symm⟩ (by dsimp only; omega)
theorem c_letter (c : Int) (f : Bool) (hc : 0 ≤ c ∧ c ≤ 255) (G : Heap) : FnP Tryz.prog 127 [.int .u8 c, .bool f] G (.bool (letterB c f)) := by
  refine fnP_in Tryz.func127 rfl Tryz.ntmps127 rfl fun w0 Q0 hQ => ?_
  refine go ?_
  refine w_loop (fun x : Int => [(5, .int .u8 x)]) (fun _ => []) (fun x _ => 97 ≤ x ∧ x ≤ 123 ∧ (97 ≤ c → x ≤ c)) (fun x => (123 - x).toNat) 97 ⟨by omega, by omega, fun h => h⟩ ?_
  rintro x G1 _ ⟨h1, h2, h3⟩
  refine go ?_
  refine w_cd rfl (fun h4 => ?_) (fun h4 => ?_)
  · refine go ?_
    refine w_cd rfl (fun h5 => ?_) (fun h5 => ?_)
    · refine go ?_
      refine w_ret hQ ?_
      rw [show letterB c f = true by unfold letterB lowB; simp; omega]; rfl
    · refine go ?_
      refine w_as 5 (.int .u8 (x + 1)) rfl (by congr 1; exact wrap_u8 (by omega)) ?_
      exact w_again (x + 1) ⟨by omega, by omega, fun h => by have := h3 h; omega⟩ (by omega)
  · have hz : lowB c = false := by simp only [lowB, Bool.and_eq_false_iff, decide_eq_false_iff_not]; omega
    refine go ?_
    refine w_and (y := decide (c = 95) || (decide (48 ≤ c) && decide (c ≤ 57))) 26 15 rfl (fun h => ?_) (fun h => ?_) ?_
    · refine go ?_
      refine w_or (y := decide (48 ≤ c) && decide (c ≤ 57)) 25 18 rfl (fun h => ?_) (fun h => ?_) ?_
      · refine go ?_; exact w_at
      · refine go ?_
        refine w_and (y := decide (c ≤ 57)) 24 21 rfl (fun h => ?_) (fun h => ?_) ?_
        · refine go ?_; exact w_at
        · refine go ?_; exact w_at
        refine go ?_; exact w_at
      refine go ?_; exact w_at
    · refine go ?_; exact w_at
    refine go ?_
    refine w_ret hQ ?_
    unfold letterB
    rw [hz]; rfl
theorem bt_rng (s : Bs) (i : Int) : 0 ≤ bt s i ∧ bt s i ≤ 255 := by
  unfold bt
  have := (s.getD i.toNat 0).toNat_lt
  omega
theorem c_IsWordR (s : Bs) (hl : s.length ≤ 9223372036854775807) (G : Heap) : FnP Tryz.prog 83 [str s] G (.bool (isWordB s)) := by
  refine fnP_in Tryz.func83 rfl Tryz.ntmps83 rfl fun w0 Q0 hQ => ?_
  refine go ?_
  refine w_loop (fun i : Nat => [(3, .int .i64 (i : Int))]) (fun _ => []) (fun i _ => i ≤ s.length ∧ ∀ j, j < i → letterB (bt s (j : Int)) (decide ((j : Int) = 0)) = true) (fun i => s.length - i) 0 ⟨by omega, fun j hj => by omega⟩ ?_
  rintro i G1 _ ⟨hi, ha⟩
  refine go ?_
  refine w_cd rfl (fun h3 => ?_) (fun h3 => ?_)
  · have hlt : i < s.length := by omega
    refine go ?_
    refine w_stp (p_call rfl rfl rfl (c_letter (bt s (i : Int)) (decide ((i : Int) = 0)) (bt_rng _ _) _)) ?_
    refine go ?_
    refine w_cond rfl (fun h4 => ?_) (fun h4 => ?_)
    · refine go ?_
      refine w_ret hQ ?_
      rw [word_ref_no (i := i) hlt (by simpa using h4)]; rfl
    · refine go ?_
      refine w_again (i + 1) ⟨by omega, fun j hj => ?_⟩ (by omega)
      by_cases e : j = i
      · subst e; simpa using h4
      · exact ha j (by omega)
  · refine go ?_
    refine w_and (y := decide ((s.length : Int) ≤ 40)) 24 20 rfl (fun h => ?_) (fun h => ?_) ?_
    · refine go ?_; exact w_at
    · refine go ?_; exact w_at
    refine go ?_
    refine w_ret hQ ?_
    rw [← word_ref (s := s) (by rw [show s.length = i by omega]; exact ha)]; rfl
theorem c_RightR (v : Val) (hv : v.Wf) (G : Heap) : FnP Tryz.prog 45 [vV v] G (.bool (rightV v)) := by
  refine fnP_in Tryz.func45 rfl Tryz.ntmps45 rfl fun w0 Q0 hQ => ?_
  refine go ?_; intro B1
  refine go ?_
  refine w_cd rfl (fun h0 => ?_) (fun h0 => ?_)
  · refine go ?_
    refine w_and (y := v.s == []) 14 10 rfl (fun h => ?_) (fun h => ?_) ?_
    · refine go ?_; exact w_at
    · refine go ?_; exact w_at
    refine go ?_
    refine w_ret hQ ?_
    unfold rightV
    rw [if_pos h0]; rfl
  · refine go ?_
    refine w_cd rfl (fun h1 => ?_) (fun h1 => ?_)
    · refine go ?_
      refine w_ret hQ ?_
      unfold rightV
      rw [if_neg h0, if_pos h1]; rfl
    · refine go ?_
      refine w_cd rfl (fun h2 => ?_) (fun h2 => ?_)
      · refine go ?_
        refine w_and (y := isWordB v.s) 29 25 rfl (fun h => ?_) (fun h => ?_) ?_
        · refine go ?_
          refine w_stp (p_on rfl rfl h (p_call rfl rfl rfl (c_IsWordR v.s hv.s _))) ?_
          refine go ?_; exact w_at
        · refine go ?_; exact w_at
        refine go ?_
        refine w_ret hQ ?_
        unfold rightV
        rw [if_neg h0, if_neg h1, if_pos h2]; rfl
      · refine go ?_
        refine w_cd rfl (fun h3 => ?_) (fun h3 => ?_)
        · refine go ?_
          refine w_or (y := decide (v.n = 1)) 39 35 rfl (fun h => ?_) (fun h => ?_) ?_
          · refine go ?_; exact w_at
          · refine go ?_; exact w_at
          refine go ?_
          refine w_and (y := v.s == []) 44 40 rfl (fun h => ?_) (fun h => ?_) ?_
          · refine go ?_; exact w_at
          · refine go ?_; exact w_at
          refine go ?_
          refine w_ret hQ ?_
          unfold rightV
          rw [if_neg h0, if_neg h1, if_neg h2, if_pos h3]; rfl
        · refine go ?_
          refine w_ret hQ ?_
          unfold rightV
          rw [if_neg h0, if_neg h1, if_neg h2, if_neg h3]; rfl
theorem c_PrintR (v : Val) (hv : v.Wf) (G : Heap) : FnP Tryz.prog 43 [vV v] G (str (printV v)) := by
  refine fnP_in Tryz.func43 rfl Tryz.ntmps43 rfl fun w0 Q0 hQ => ?_
  refine go ?_; intro B1
  refine go ?_
  refine w_stp (p_call rfl rfl rfl (c_RightR v hv _)) ?_
  refine go ?_
  refine w_cond rfl (fun h0 => ?_) (fun h0 => ?_)
  · have hr : rightV v = false := by simpa using h0
    refine go ?_
    refine w_ret hQ ?_
    unfold printV
    rw [if_pos hr]; rfl
  · have hr : rightV v = true := by simpa using h0
    have hr' : ¬ rightV v = false := by rw [hr]; simp
    have hk := right_k hr
    refine go ?_
    refine w_cd rfl (fun h1 => ?_) (fun h1 => ?_)
    · refine go ?_
      refine w_stp (p_call rfl rfl rfl (c_Print6 v.n hv.n _)) ?_
      refine go ?_
      refine w_ret hQ ?_
      unfold printV
      rw [if_neg hr', if_neg (by omega), if_pos h1]; rfl
    · refine go ?_
      refine w_cd rfl (fun h2 => ?_) (fun h2 => ?_)
      · refine go ?_
        refine w_ret hQ ?_
        unfold printV
        rw [if_neg hr', if_neg (by omega), if_neg h1, if_pos h2]; rfl
      · refine go ?_
        refine w_and (y := decide (v.n = 1)) 24 20 rfl (fun h => ?_) (fun h => ?_) ?_
        · refine go ?_; exact w_at
        · refine go ?_; exact w_at
        refine go ?_
        refine w_cd rfl (fun h3 => ?_) (fun h3 => ?_)
        · refine go ?_
          refine w_ret hQ ?_
          unfold printV
          rw [if_neg hr', if_neg (by omega), if_neg h1, if_neg h2, if_pos h3.2]; rfl
        · refine go ?_
          refine w_cd rfl (fun h4 => ?_) (fun h4 => ?_)
          · refine go ?_
            refine w_ret hQ ?_
            unfold printV
            rw [if_neg hr', if_neg (by omega), if_neg h1, if_neg h2, if_neg (fun h => h3.elim (fun q => q h4) (fun q => q h))]; rfl
          · refine go ?_
            refine w_ret hQ ?_
            unfold printV
            rw [if_neg hr', if_pos (by omega)]; rfl
theorem c_LessR (a b : Val) (G : Heap) : FnP Tryz.prog 44 [vV a, vV b] G (.bool (lessV a b)) := by
  refine fnP_in Tryz.func44 rfl Tryz.ntmps44 rfl fun w0 Q0 hQ => ?_
  refine go ?_; intro B2
  refine go ?_; intro B3
  refine go ?_
  refine w_cd rfl (fun h0 => ?_) (fun h0 => ?_)
  · refine go ?_
    refine w_ret hQ ?_
    unfold lessV
    rw [if_pos h0]; rfl
  · refine go ?_
    refine w_cd rfl (fun h1 => ?_) (fun h1 => ?_)
    · refine go ?_
      refine w_ret hQ ?_
      unfold lessV
      rw [if_neg (fun q => q h0), if_pos h1]; rfl
    · refine go ?_
      refine w_stp (Stp.pure fun Q rest a w G1 hl E S k => o_ltS E rfl rfl rfl k) ?_
      refine go ?_
      refine w_ret hQ ?_
      unfold lessV
      rw [if_neg (fun q => q h0), if_neg (fun q => q h1)]; rfl
end Go.Proofs.YtngoaapgdfohjaaGreatDoor.T27

set_option linter.unusedVariables false
set_option linter.unusedSimpArgs false
set_option maxRecDepth 100000
set_option maxHeartbeats 4000000
namespace Go.Proofs.YtngoaapgdfohjaaGreatDoor.T27
open Go Go.Proofs.YtngoaapgdfohjaaGreatDoor.X Go.Proofs Go.Proofs.YtngoaapgdfohjaaGreatDoor.T28 Go.Proofs.YtngoaapgdfohjaaGreatDoor.TS Go.Proofs.YtngoaapgdfohjaaGreatDoor.TK
/-! ## The document's domains and rules -/
theorem c_NameR (v : Val) (hv : v.Wf) (G : Heap) : FnP Tryz.prog 22 [vV v] G (.bool (nameB v)) := by
  refine fnP_in Tryz.func22 rfl Tryz.ntmps22 rfl fun w0 Q0 hQ => ?_
  refine go ?_; intro B1
  refine go ?_
  refine w_stp (p_call rfl rfl rfl (c_RightR v hv _)) ?_
  refine go ?_
  refine w_and (y := decide (v.k = 1) || decide (v.k = 2)) 14 5 rfl (fun h => ?_) (fun h => ?_) ?_
  · refine go ?_
    refine w_or (y := decide (v.k = 2)) 13 9 rfl (fun h => ?_) (fun h => ?_) ?_
    · refine go ?_; exact w_at
    · refine go ?_; exact w_at
    refine go ?_; exact w_at
  · refine go ?_; exact w_at
  refine go ?_
  exact w_ret hQ rfl
theorem takes_else {d : Int} {v : Val} (hd : ¬ (0 ≤ d ∧ d ≤ 4)) : takesB d v = ((decide (d = 5) && rightV v) && decide (v.k = 1) || ((decide (d = 6) && rightV v) && decide (v.k = 3))) := by
  unfold takesB
  cases hr : rightV v with
  | false => simp
  | true =>
    rw [if_neg (by simp), if_neg (by omega)]
    by_cases h5 : d = 5
    · subst h5; simp
    · rw [if_neg h5]; simp [h5]
theorem c_TakesR (d : Int) (v : Val) (hv : v.Wf) (G : Heap) : FnP Tryz.prog 40 [.int .i64 d, vV v] G (.bool (takesB d v)) := by
  refine fnP_in Tryz.func40 rfl Tryz.ntmps40 rfl fun w0 Q0 hQ => ?_
  refine go ?_; intro B3
  refine go ?_
  refine w_and (y := decide (d ≤ 4)) 10 7 rfl (fun h => ?_) (fun h => ?_) ?_
  · refine go ?_; exact w_at
  · refine go ?_; exact w_at
  refine go ?_
  refine w_cond rfl (fun h0 => ?_) (fun h0 => ?_)
  · have hd : 0 ≤ d ∧ d ≤ 4 := by simpa using h0
    refine go ?_
    refine w_stp (p_call rfl rfl rfl (c_NameR v hv _)) ?_
    refine go ?_
    refine w_ret hQ ?_
    rw [takes_name hd]; rfl
  · have hd : ¬ (0 ≤ d ∧ d ≤ 4) := by
      rw [← Bool.decide_and] at h0
      simpa using h0
    refine go ?_
    refine w_and (y := rightV v) 18 15 rfl (fun h => ?_) (fun h => ?_) ?_
    · refine go ?_
      refine w_stp (p_on rfl rfl h (p_call rfl rfl rfl (c_RightR v hv _))) ?_
      refine go ?_; exact w_at
    · refine go ?_; exact w_at
    refine go ?_
    refine w_and (y := decide (v.k = 1)) 23 19 rfl (fun h => ?_) (fun h => ?_) ?_
    · refine go ?_; exact w_at
    · refine go ?_; exact w_at
    refine go ?_
    refine w_or (y := (decide (d = 6) && rightV v) && decide (v.k = 3)) 36 24 rfl (fun h => ?_) (fun h => ?_) ?_
    · refine go ?_; exact w_at
    · refine go ?_
      refine w_and (y := rightV v) 30 27 rfl (fun h => ?_) (fun h => ?_) ?_
      · refine go ?_
        refine w_stp (p_on rfl rfl h (p_call rfl rfl rfl (c_RightR v hv _))) ?_
        refine go ?_; exact w_at
      · refine go ?_; exact w_at
      refine go ?_
      refine w_and (y := decide (v.k = 3)) 35 31 rfl (fun h => ?_) (fun h => ?_) ?_
      · refine go ?_; exact w_at
      · refine go ?_; exact w_at
      refine go ?_; exact w_at
    refine go ?_
    refine w_ret hQ ?_
    rw [takes_else hd]; rfl
theorem c_RuledR (d : Int) (r : Rul) (G : Heap) : FnP Tryz.prog 39 [.int .i64 d, vR r] G (.bool (ruledB d r)) := by
  refine fnP_in Tryz.func39 rfl Tryz.ntmps39 rfl fun w0 Q0 hQ => ?_
  refine go ?_; intro B3
  refine go ?_
  refine w_cd rfl (fun h1 => ?_) (fun h1 => ?_)
  · refine go ?_
    refine w_and (y := decide (r.size ≤ 16)) 15 11 rfl (fun h => ?_) (fun h => ?_) ?_
    · refine go ?_; exact w_at
    · refine go ?_; exact w_at
    refine go ?_
    refine w_ret hQ ?_
    unfold ruledB
    simp [h1, packed]
  · refine go ?_
    refine w_and (y := (decide (r.way = 0) || decide (r.way = 1)) || (decide (r.way = 3) && decide (d = 4))) 37 19 rfl (fun h => ?_) (fun h => ?_) ?_
    · refine go ?_
      refine w_or (y := decide (r.way = 1)) 27 23 rfl (fun h => ?_) (fun h => ?_) ?_
      · refine go ?_; exact w_at
      · refine go ?_; exact w_at
      refine go ?_
      refine w_or (y := decide (r.way = 3) && decide (d = 4)) 36 28 rfl (fun h => ?_) (fun h => ?_) ?_
      · refine go ?_; exact w_at
      · refine go ?_
        refine w_and (y := decide (d = 4)) 35 32 rfl (fun h => ?_) (fun h => ?_) ?_
        · refine go ?_; exact w_at
        · refine go ?_; exact w_at
        refine go ?_; exact w_at
      refine go ?_; exact w_at
    · refine go ?_; exact w_at
    refine go ?_
    refine w_ret hQ ?_
    show Value.bool _ = Value.bool _
    congr 1
    unfold ruledB
    rw [decide_eq_false h1, Bool.false_and, Bool.false_or]
    cases decide (r.size = 0) <;> cases decide (r.way = 0) <;> cases decide (r.way = 1) <;> cases decide (r.way = 3) <;> cases decide (d = 4) <;> rfl
theorem c_LetterR (d : Int) (G : Heap) : FnP Tryz.prog 14 [.int .i64 d] G (str (letterS d)) := by
  refine fnP_in Tryz.func14 rfl Tryz.ntmps14 rfl fun w0 Q0 hQ => ?_
  by_cases hd : 0 ≤ d ∧ d ≤ 4
  · have hc : d = 0 ∨ d = 1 ∨ d = 2 ∨ d = 3 ∨ d = 4 := by omega
    rcases hc with rfl | rfl | rfl | rfl | rfl
    all_goals
      refine go ?_
      exact w_ret hQ rfl
  · have e0 : decide (d = 0) = false := decide_eq_false (by omega)
    have e1 : decide (d = 1) = false := decide_eq_false (by omega)
    have e2 : decide (d = 2) = false := decide_eq_false (by omega)
    have e3 : decide (d = 3) = false := decide_eq_false (by omega)
    have e4 : decide (d = 4) = false := decide_eq_false (by omega)
    refine go ?_
    refine w_ret hQ ?_
    rw [letter_out hd]; rfl
theorem may_eq (r : Rul) (d : Int) : mayB r d = ((decide (0 ≤ d) && decide (d ≤ 4)) && ruledB d r) := by
  by_cases hd : 0 ≤ d ∧ d ≤ 4
  · have hc : d = 0 ∨ d = 1 ∨ d = 2 ∨ d = 3 ∨ d = 4 := by omega
    have h0 : ∀ d : Int, ruledB d ⟨0, 0⟩ = true := fun d => by unfold ruledB; simp
    rcases hc with rfl | rfl | rfl | rfl | rfl
    all_goals
      unfold mayB
      rw [if_neg (by decide)]
      unfold rightB setP
      simp [h0]
  · rw [show (decide (0 ≤ d) && decide (d ≤ 4)) = false by rw [← Bool.decide_and]; exact decide_eq_false hd]
    unfold mayB
    rw [letter_out hd]
    rfl
theorem c_MayR (r : Rul) (d : Int) (G : Heap) : FnP Tryz.prog 15 [vR r, .int .i64 d] G (.bool (mayB r d)) := by
  refine fnP_in Tryz.func15 rfl Tryz.ntmps15 rfl fun w0 Q0 hQ => ?_
  refine go ?_; intro B2
  refine go ?_
  refine w_and (y := decide (d ≤ 4)) 10 7 rfl (fun h => ?_) (fun h => ?_) ?_
  · refine go ?_; exact w_at
  · refine go ?_; exact w_at
  refine go ?_
  refine w_and (y := ruledB d r) 15 11 rfl (fun h => ?_) (fun h => ?_) ?_
  · refine go ?_
    refine w_stp (p_on rfl rfl h (p_call rfl rfl rfl (c_RuledR d r _))) ?_
    refine go ?_; exact w_at
  · refine go ?_; exact w_at
  refine go ?_
  refine w_ret hQ ?_
  rw [may_eq]; rfl
/-! ## The document's values each once -/
theorem any_step (l : List Val) (v : Val) (i : Nat) (hi : i < l.length) (b : Bool) : ((b || decide (v ∈ l.take i)) || decide (l.getD i ⟨0, 0, []⟩ = v)) = (b || decide (v ∈ l.take (i + 1))) := by
  rw [List.take_add_one, List.getElem?_eq_getElem hi, List.getD_eq_getElem?_getD, List.getElem?_eq_getElem hi, Option.toList_some, Option.getD_some, Bool.or_assoc]
  congr 1
  rw [← Bool.decide_or]
  refine decide_eq_decide.2 ?_
  rw [List.mem_append, List.mem_singleton]
  exact or_congr Iff.rfl ⟨fun h => h.symm, fun h => h.symm⟩
theorem c_UnlikeR (d : Int) (xs : List Val) (A : Option Addr) (c : Nat) (G : Heap) (hR : Rd kVal G A xs) (hl : xs.length ≤ 1000000) (hw : ∀ v ∈ xs, v.Wf) :
    FnR Tryz.prog 18 [.int .i64 d, .slice A xs.length c] G (fun r G' => ∃ A c, r = .slice A (unlikeL d xs).length c ∧ (unlikeL d xs).length ≤ c ∧ Rd kVal G' A (unlikeL d xs)) := by
  refine fn_in Tryz.func18 rfl Tryz.ntmps18 rfl fun w0 Q0 hQ => ?_
  refine go ?_
  refine w_nilO (K := kVal) 42 fun hO => ?_
  refine w_loop (α := Nat × Option Addr × Nat × Chunk) (fun x => [(5, .slice x.2.1 (unlikeL d (xs.take x.1)).length x.2.2.1), (6, .int .i64 (x.1 : Int))]) (fun x => [x.2.2.2]) (fun x G => x.1 ≤ xs.length ∧ X.Own kVal 42 G x.2.1 x.2.2.1 (unlikeL d (xs.take x.1)) x.2.2.2) (fun x => xs.length - x.1) (0, none, 0, []) ⟨by omega, hO⟩ ?_
  rintro ⟨i, A5, c5, C5⟩ G1 _ ⟨hi, hO5⟩
  dsimp only at hi hO5 ⊢
  have hul := unlike_len d (xs.take i)
  have hil : (xs.take i).length = i := by rw [List.length_take]; omega
  refine go ?_
  refine w_cd rfl (fun h3 => ?_) (fun h3 => ?_)
  · have hi' : i < xs.length := by omega
    have hE := hR.val hi'
    have hvw := getD_wf hw hi'
    have hst := unlike_step (d := d) hi'
    refine go ?_
    refine w_stp (p_call rfl rfl rfl (c_TakesR d (xs.getD i ⟨0, 0, []⟩) hvw _)) ?_
    refine go ?_
    refine w_as 7 (.bool ((!takesB d (xs.getD i ⟨0, 0, []⟩)) || decide (xs.getD i ⟨0, 0, []⟩ ∈ (unlikeL d (xs.take i)).take 0))) rfl (by simp) ?_
    refine w_loop (fun k : Nat => [(7, .bool ((!takesB d (xs.getD i ⟨0, 0, []⟩)) || decide (xs.getD i ⟨0, 0, []⟩ ∈ (unlikeL d (xs.take i)).take k))), (8, .int .i64 (k : Int))]) (fun k => [C5]) (fun k _ => k ≤ (unlikeL d (xs.take i)).length) (fun k => (unlikeL d (xs.take i)).length - k) 0 (by omega) ?_
    intro k G2 _ hk
    refine go ?_
    refine w_cd rfl (fun h4 => ?_) (fun h4 => ?_)
    · have hk' : k < (unlikeL d (xs.take i)).length := by omega
      have hs := any_step (unlikeL d (xs.take i)) (xs.getD i ⟨0, 0, []⟩) k hk' (!takesB d (xs.getD i ⟨0, 0, []⟩))
      refine go ?_
      refine w_dtB (yb := ((!takesB d (xs.getD i ⟨0, 0, []⟩)) || decide (xs.getD i ⟨0, 0, []⟩ ∈ (unlikeL d (xs.take i)).take k)) || decide ((unlikeL d (xs.take i)).getD k ⟨0, 0, []⟩ = xs.getD i ⟨0, 0, []⟩)) 12 39 (by kernel_rfl) ?_ ?_
      · refine dg ?_
        refine dr_or 29 rfl (fun h => ?_) (fun h => ?_)
        · refine dg ?_
          exact rfl
        · refine dg ?_
          exact rfl
      refine go ?_
      rw [hs]
      refine go ?_
      exact w_again (k + 1) (by omega) (by omega)
    · have hke : k = (unlikeL d (xs.take i)).length := by omega
      subst hke
      rw [List.take_length]
      refine go ?_
      refine w_cond rfl (fun h5 => ?_) (fun h5 => ?_)
      · have h5' : takesB d (xs.getD i ⟨0, 0, []⟩) = true ∧ ¬ xs.getD i ⟨0, 0, []⟩ ∈ unlikeL d (xs.take i) := by simpa using h5
        have e : unlikeL d (xs.take (i + 1)) = unlikeL d (xs.take i) ++ [xs.getD i ⟨0, 0, []⟩] := by rw [hst]; unfold addU; rw [if_neg (by simp only [not_or]; exact ⟨h5'.2, by rw [h5'.1]; simp⟩)]
        refine go ?_
        refine w_push (K := kVal) (xs.getD i ⟨0, 0, []⟩) rfl rfl rfl rfl (cs := (valCells (xs.getD i ⟨0, 0, []⟩)).toArray) (by kernel_rfl) rfl rfl (by simp) hO5 inferInstance .here rfl kone_val (by omega) fun b A6 c6 C6 G6 _ hO6 => ?_
        rw [← e] at hO6
        rw [← e]
        refine go ?_
        exact w_again (i + 1, A6, c6, C6) ⟨by omega, hO6⟩ (by show xs.length - (i + 1) < xs.length - i; omega)
      · have h5' : xs.getD i ⟨0, 0, []⟩ ∈ unlikeL d (xs.take i) ∨ takesB d (xs.getD i ⟨0, 0, []⟩) = false := by
          by_cases hm : xs.getD i ⟨0, 0, []⟩ ∈ unlikeL d (xs.take i)
          · exact .inl hm
          · cases ht : takesB d (xs.getD i ⟨0, 0, []⟩) with
            | false => exact .inr rfl
            | true => rw [ht, decide_eq_false hm] at h5; cases h5
        have e : unlikeL d (xs.take (i + 1)) = unlikeL d (xs.take i) := by rw [hst]; unfold addU; rw [if_pos h5']
        refine go ?_
        refine w_again (i + 1, A5, c5, C5) ⟨by omega, by rw [e]; exact hO5.le (LeT.le)⟩ (by show xs.length - (i + 1) < xs.length - i; omega) ⟨.inl (by show some _ = some _; rw [e]), ?_⟩
        repeat (first | exact trivial | refine ⟨.inl rfl, ?_⟩ | refine ⟨.inr rfl, ?_⟩)
  · have : i = xs.length := by omega
    subst this
    rw [List.take_length] at hO5 ⊢
    refine go ?_
    refine w_stillO hO5 inferInstance .here fun G3 _ hR3 hc => ?_
    refine w_ret hQ ?_
    exact ⟨_, _, rfl, hc, hR3⟩
end Go.Proofs.YtngoaapgdfohjaaGreatDoor.T27
