/- Own text. -/
import Derived.Test.YtngoaapgdfohjaaGreatDoorW5
import Derived.Test.YtngoaapgdfohjaaGreatDoorY16
set_option linter.unusedVariables false
set_option linter.unusedSimpArgs false
set_option maxRecDepth 100000
set_option maxHeartbeats 4000000
namespace Go.Proofs.YtngoaapgdfohjaaGreatDoor.T27
open Go Go.Proofs.YtngoaapgdfohjaaGreatDoor.X Go.Proofs Go.Proofs.YtngoaapgdfohjaaGreatDoor.T28 Go.Proofs.YtngoaapgdfohjaaGreatDoor.TS Go.Proofs.YtngoaapgdfohjaaGreatDoor.TK
/-! ## A book's text -/
def ttl : Bs := [105, 110, 99, 111, 103, 110, 105, 116, 111, 32, 98, 111, 111, 107]
theorem hd_ttl (b : Book) : ([] ++ (Lib.join [ttl] [32] ++ [10])) ++ printR b.pol = hdS b := rfl
attribute [local irreducible] printR letterS printV hdS entL momL remL
theorem c_open (b : Book) (a : Bk) (G : Heap) (g : Gl G) (h : RdB G b a) (s : Small b) : FnP Tryz.prog 46 [vB b a] G (str (openS b)) := by
  refine fnP_in Tryz.func46 rfl Tryz.ntmps46 rfl fun w0 Q0 hQ => ?_
  have hel := h.el
  have hml := h.ml
  have hrl := h.rl
  have hRe := h.e
  have hRm := h.m
  have hRr := h.r
  have hdl := hd_len b
  have hpl := printR_len (p := b.pol)
  have hE0 := es_len h s b.es.length
  have hM0 := ms_len h s b.ms.length
  have hR0 := rs_len h s b.rs.length
  rw [List.take_length] at hE0 hM0 hR0
  refine go ?_; intro B1
  refine go ?_; intro bb
  have hB0 : TB.BldT G bb [] [(bb, Arr 123 [.pointer none, .slice none 0 0])] := Bld.new
  refine go ?_
  refine w_lit (K := Knd.s) [ttl] rfl rfl rfl (cs := #[str ttl]) (by kernel_rfl) ⟨rfl, rfl⟩ fun bl G1 _ hRl => ?_
  refine go ?_
  refine w_callM rfl rfl rfl (f_put bb [ttl] (some ⟨bl, 0, none⟩) 1 [] _ _ (BldUp hB0) hRl (by decide) (by decide) (by decide) (by decide)) (.cons .here .nil) fun r G2 Ms _ hr => ?_
  obtain ⟨rfl, C1, rfl, hB1⟩ := hr
  refine go ?_
  refine w_stp (p_call rfl rfl rfl (c_PrintP b.pol _ g.up)) ?_
  refine go ?_
  refine w_callM rfl rfl rfl (f_WS bb _ (printR b.pol) C1 _ hB1 (by show 15 + _ ≤ _; omega)) (.cons .here .nil) fun r G2 Ms _ hr => ?_
  obtain ⟨rfl, rfl, C2, rfl, hB2⟩ := hr
  rw [hd_ttl] at hB2
  refine go ?_
  refine w_loop (fun x : Nat × Chunk => [(22, .int .i64 (x.1 : Int))]) (fun x => [x.2, [(B1, Arr 54 (bookC b a))]]) (fun x G' => x.1 ≤ b.es.length ∧ TB.BldT G' bb (hdS b ++ (b.es.take x.1).flatMap entL) x.2) (fun x => b.es.length - x.1) (0, C2) ⟨by omega, by simpa using hB2⟩ ?_
  rintro ⟨i, C⟩ G3 _ ⟨hi, hB⟩
  dsimp only at hi hB ⊢
  have hal := es_len h s i
  refine go ?_
  refine w_cd rfl (fun h3 => ?_) (fun h3 => ?_)
  · have hi' : i < b.es.length := by omega
    have hE := hRe.ent hi'
    have hee : b.es.getD i E0e ∈ b.es := entm (b := b) hi'
    obtain ⟨hkd, hkn, hkr⟩ := h.ew _ hee
    have hle := ent_len (s.ew _ hee) ⟨hkn, hkr⟩
    have hej := ent_join (b.es.getD i E0e)
    have hjl : (Lib.join (entW (b.es.getD i E0e)) [32]).length ≤ 3210 := by rw [← hej, List.length_append] at hle; omega
    refine go ?_; intro B6
    refine go ?_
    refine w_dc 11 (by kernel_rfl) ?_
    refine dcg ?_
    refine .cons (p_call rfl rfl rfl (c_Letter (b.es.getD i E0e).dom hkd _)) (dcg ?_)
    refine .cons (p_call rfl rfl rfl (c_PrintV (b.es.getD i E0e).name hkn _ g.up)) (dcg ?_)
    refine .cons (p_call rfl rfl rfl (c_PrintV (b.es.getD i E0e).real hkr _ g.up)) (dcg ?_)
    refine .call (r_lit (K := Knd.s) (entW (b.es.getD i E0e)) rfl rfl rfl (cs := #[str [110, 97, 109, 101], str (letterS (b.es.getD i E0e).dom), str (printV (b.es.getD i E0e).name), str (printV (b.es.getD i E0e).real)]) (by kernel_rfl) ⟨rfl, rfl, rfl, rfl, rfl⟩) (.nil ?_)
    intro G4 _; simp only [KC]; rintro _ ⟨bq, rfl, hR1⟩
    refine w_callM rfl rfl rfl (f_put bb (entW (b.es.getD i E0e)) (some ⟨bq, 0, none⟩) 4 _ C _ (BldUp hB) hR1 (Nat.le_refl _) (by show 4 ≤ 1000; decide) (by omega) (by simp only [List.length_append]; omega)) (.cons (.there .here) .nil) fun r G5 Ms _ hr => ?_
    obtain ⟨rfl, C3, rfl, hB3⟩ := hr
    rw [hej, List.append_assoc, ← take_flat (d := E0e) hi'] at hB3
    refine go ?_
    exact w_again (i + 1, C3) ⟨by dsimp only; omega, hB3⟩ (by dsimp only; omega)
  obtain rfl : i = b.es.length := by omega
  rw [List.take_length] at hB
  refine go ?_
  refine w_loop (fun x : Nat × Chunk => [(42, .int .i64 (x.1 : Int))]) (fun x => [x.2, [(B1, Arr 54 (bookC b a))]]) (fun x G' => x.1 ≤ b.ms.length ∧ TB.BldT G' bb ((hdS b ++ b.es.flatMap entL) ++ (b.ms.take x.1).flatMap momL) x.2) (fun x => b.ms.length - x.1) (0, C) ⟨by omega, by simpa using hB⟩ ?_
  rintro ⟨i, C⟩ G3 _ ⟨hi, hB⟩
  dsimp only at hi hB ⊢
  have hal2 := ms_len h s i
  refine go ?_
  refine w_cd rfl (fun h3 => ?_) (fun h3 => ?_)
  · have hi' : i < b.ms.length := by omega
    have hE := rdMom hRm hi'
    have hmm : (b.ms.getD i MOM0) ∈ b.ms := by rw [List.getD_eq_getElem?_getD, List.getElem?_eq_getElem hi']; exact List.getElem_mem hi'
    have hw := h.mw _ hmm
    have hle := mom_len hw
    have hej := mom_join (b.ms.getD i MOM0)
    have hjl : (Lib.join (momW (b.ms.getD i MOM0)) [32]).length ≤ 60 := by rw [← hej, List.length_append] at hle; omega
    refine go ?_; intro B6
    refine go ?_
    refine w_dc 8 (by kernel_rfl) ?_
    refine dcg ?_
    refine .cons (p_call rfl rfl rfl (c_Num (b.ms.getD i MOM0).rank hw.1 _ g.up)) (dcg ?_)
    refine .cons (p_call rfl rfl rfl (c_Num (b.ms.getD i MOM0).time hw.2 _ g.up)) (dcg ?_)
    refine .call (r_lit (K := Knd.s) (momW (b.ms.getD i MOM0)) rfl rfl rfl (cs := #[str [116, 105, 109, 101], str (Lib.itoa (b.ms.getD i MOM0).rank), str (Lib.itoa (b.ms.getD i MOM0).time)]) (by kernel_rfl) ⟨rfl, rfl, rfl, rfl⟩) (.nil ?_)
    intro G4 _; simp only [KC]; rintro _ ⟨bq, rfl, hR1⟩
    refine w_callM rfl rfl rfl (f_put bb (momW (b.ms.getD i MOM0)) (some ⟨bq, 0, none⟩) 3 _ C _ (BldUp hB) hR1 (Nat.le_refl _) (by show 3 ≤ 1000; decide) (by omega) (by simp only [List.length_append]; omega)) (.cons (.there .here) .nil) fun r G5 Ms _ hr => ?_
    obtain ⟨rfl, C3, rfl, hB3⟩ := hr
    rw [hej, List.append_assoc, ← take_flat (d := MOM0) hi'] at hB3
    refine go ?_
    exact w_again (i + 1, C3) ⟨by dsimp only; omega, hB3⟩ (by dsimp only; omega)
  obtain rfl : i = b.ms.length := by omega
  rw [List.take_length] at hB
  refine go ?_
  refine w_loop (fun x : Nat × Chunk => [(59, .int .i64 (x.1 : Int))]) (fun x => [x.2, [(B1, Arr 54 (bookC b a))]]) (fun x G' => x.1 ≤ b.rs.length ∧ TB.BldT G' bb (((hdS b ++ b.es.flatMap entL) ++ b.ms.flatMap momL) ++ (b.rs.take x.1).flatMap remL) x.2) (fun x => b.rs.length - x.1) (0, C) ⟨by omega, by simpa using hB⟩ ?_
  rintro ⟨i, C⟩ G3 _ ⟨hi, hB⟩
  dsimp only at hi hB ⊢
  have hal3 := rs_len h s i
  refine go ?_
  refine w_cd rfl (fun h3 => ?_) (fun h3 => ?_)
  · have hi' : i < b.rs.length := by omega
    have hE := rdRem hRr hi'
    have hrr := remm (b := b) hi'
    have hw := (h.rw' _ hrr).1
    have hnn := s.rw' _ hrr
    have hle := rem_len hw hnn
    have hej := rem_join (b.rs.getD i REM0)
    have hjl : (Lib.join (remW (b.rs.getD i REM0)) [32]).length ≤ 1640 := by rw [← hej, List.length_append] at hle; omega
    refine go ?_; intro B6
    refine go ?_
    refine w_dc 8 (by kernel_rfl) ?_
    refine dcg ?_
    refine .cons (p_call rfl rfl rfl (c_Num (b.rs.getD i REM0).event hw _ g.up)) (dcg ?_)
    refine .cons (p_cat rfl rfl rfl (by simp only [List.length_cons, List.length_nil]; omega)) (dcg ?_)
    refine .call (r_lit (K := Knd.s) (remW (b.rs.getD i REM0)) rfl rfl rfl (cs := #[str [110, 111, 116, 101], str (Lib.itoa (b.rs.getD i REM0).event), str ([59] ++ (b.rs.getD i REM0).note)]) (by kernel_rfl) ⟨rfl, rfl, rfl, rfl⟩) (.nil ?_)
    intro G4 _; simp only [KC]; rintro _ ⟨bq, rfl, hR1⟩
    refine w_callM rfl rfl rfl (f_put bb (remW (b.rs.getD i REM0)) (some ⟨bq, 0, none⟩) 3 _ C _ (BldUp hB) hR1 (Nat.le_refl _) (by show 3 ≤ 1000; decide) (by omega) (by simp only [List.length_append]; omega)) (.cons (.there .here) .nil) fun r G5 Ms _ hr => ?_
    obtain ⟨rfl, C3, rfl, hB3⟩ := hr
    rw [hej, List.append_assoc, ← take_flat (d := REM0) hi'] at hB3
    refine go ?_
    exact w_again (i + 1, C3) ⟨by dsimp only; omega, hB3⟩ (by dsimp only; omega)
  obtain rfl : i = b.rs.length := by omega
  rw [List.take_length] at hB
  refine go ?_
  refine w_callM rfl rfl rfl (f_BS bb _ C _ hB) (.cons .here .nil) fun v G3 Ms _ hv => ?_
  subst hv
  refine go ?_
  exact w_ret hQ rfl
end Go.Proofs.YtngoaapgdfohjaaGreatDoor.T27
