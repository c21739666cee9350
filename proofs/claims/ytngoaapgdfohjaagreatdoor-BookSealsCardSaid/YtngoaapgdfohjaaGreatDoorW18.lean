/- Own text. -/
import Derived.Test.YtngoaapgdfohjaaGreatDoorW17
set_option linter.unusedVariables false
set_option linter.unusedSimpArgs false
set_option maxRecDepth 100000
set_option maxHeartbeats 4000000
namespace Go.Proofs.YtngoaapgdfohjaaGreatDoor.T27
open Go Go.Proofs.YtngoaapgdfohjaaGreatDoor.X Go.Proofs Go.Proofs.YtngoaapgdfohjaaGreatDoor.T28 Go.Proofs.YtngoaapgdfohjaaGreatDoor.TS Go.Proofs.YtngoaapgdfohjaaGreatDoor.TK
/-! ## A book parsed -/
def sealW : Bs := [115, 101, 97, 108, 32]
def lastI (s : Bs) : Int := Lib.lastIndexByte ⟨s.toArray⟩ 10
def cutN (t : Bs) : Nat := (lastI (Lib.trimSuffix t [10]) + 1).toNat
def preS (t : Bs) : Bs := Lib.trimPrefix (t.drop (cutN t)) sealW
def dgsS (t : Bs) : Bs := Lib.trimSuffix (preS t) [10]
def sealOk (t : Bs) : Prop := Lib.hasPrefix (t.drop (cutN t)) sealW = true ∧ Lib.hasSuffix (preS t) [10] = true ∧ hexOk (dgsS t) ∧ (dgsS t).length = 64
open Classical in
noncomputable def parseB (key : List Int) (t : Bs) : Book × Int := if sealOk t then match readS (t.take (cutN t)) with
    | none => (BK0, 10)
    | some b => if decS (dgsS t) = macS key [byts (t.take (cutN t))] then (b, 0) else (BK0, 11)
  else (BK0, 10)
theorem lastI_rng (s : Bs) : -1 ≤ lastI s ∧ lastI s < s.length := by
  have hs : (ByteArray.mk s.toArray).size = s.length := by simp [ByteArray.size]
  rcases Lib.lastIndexByte_spec ⟨s.toArray⟩ 10 with ⟨h, _⟩ | ⟨i, hi, h, _⟩
  · unfold lastI; rw [h]; omega
  · unfold lastI; rw [h]; omega
theorem trimS_len (s p : Bs) : (Lib.trimSuffix s p).length ≤ s.length := by
  unfold Lib.trimSuffix
  split
  · rw [List.length_take]; omega
  · exact Nat.le_refl _
theorem trimP_len (s p : Bs) : (Lib.trimPrefix s p).length ≤ s.length := by
  unfold Lib.trimPrefix
  split
  · rw [List.length_drop]; omega
  · exact Nat.le_refl _
theorem cutN_le (t : Bs) : cutN t ≤ t.length := by
  have h1 := lastI_rng (Lib.trimSuffix t [10])
  have h2 := trimS_len t [10]
  unfold cutN
  omega
theorem c_TrimS (s : Bs) (G : Heap) (hs : s.length ≤ 4294967280) : FnP Tryz.prog 55 [str s, str [10]] G (str (Lib.trimSuffix s [10])) := fun w hw => calls_same hw (Tryz.strings_TrimSuffix ⟨s.toArray⟩ ⟨#[10]⟩ w (by simp [ByteArray.size]; omega))
theorem c_LastI (s : Bs) (G : Heap) (hs : s.length ≤ 4294967280) : FnP Tryz.prog 54 [str s, str [10]] G (.int .i64 (lastI s)) := fun w hw => calls_same hw (Tryz.strings_LastIndex_one ⟨s.toArray⟩ ⟨#[10]⟩ rfl (by simp [ByteArray.size]; omega) w)
theorem c_CutPre (s p : Bs) (G : Heap) : FnP Tryz.prog 56 [str s, str p] G (.tuple #[str (Lib.trimPrefix s p), .bool (Lib.hasPrefix s p)]) := fun w hw => calls_same hw (Tryz.strings_CutPrefix ⟨s.toArray⟩ ⟨p.toArray⟩ w)
theorem decS_byte {s : Bs} (h : hexOk s) : byteL (decS s) := by
  intro i
  unfold decS
  rw [List.getD_eq_getElem?_getD, List.getElem?_map]
  rcases Nat.lt_or_ge i (s.length / 2) with hi | hi
  · rw [List.getElem?_range hi]
    simp only [Option.map_some, Option.getD_some]
    have h1 := h.2 (2 * i) (by omega)
    have h2 := h.2 (2 * i + 1) (by omega)
    have h3 := digI_rng (bt s ((2 * i : Nat) : Int))
    have h4 := digI_rng (bt s ((2 * i + 1 : Nat) : Int))
    unfold dg' at h1 h2 ⊢
    omega
  · rw [List.getElem?_eq_none (by simpa using hi)]
    simp
theorem oct_byte {l : List Int} (h : ∀ v ∈ l, 0 ≤ v ∧ v < 256) : byteL l := by
  intro i
  rcases Nat.lt_or_ge i l.length with hi | hi
  · rw [List.getD_eq_getElem?_getD, List.getElem?_eq_getElem hi]
    have := h _ (List.getElem_mem hi)
    simp only [Option.getD_some]
    omega
  · rw [List.getD_eq_getElem?_getD, List.getElem?_eq_none hi]
    simp
theorem fnR_D {P : Program} {f : Nat} {fn : Func} {c : Code} {args : List Value} {N : Nat} {G : Heap} {R : Value → Heap → Prop} (hf : P.funcs[f]? = some fn) (hb : fn.body = some c) (hn : fn.ntmps = N) (hN : Nat.ble args.length N = true)
    (h : ∀ w0 Q0, (∀ e a w, bodyPostD P fn (Ret w0 G R) e a w → Q0 e a w) → W P Q0 N [] w0 G [] [.co c] G (argEnv 0 args) []) : FnR P f args G R := fun w hs =>
  enterD hf hb hn (by simpa using hN) fun Q hQ a E => (h w Q hQ).run a w (by simpa using E) (St.start0 hs)
section
variable {P : Program} {Q0 : Exit → Act → World → Prop} {N : Nat} {D : List Deferred} {w0 : World} {G0 : Heap} {K0 : List Nat} {s : List Itm} {G : Heap} {L : List (Nat × Value)} {M : List Chunk} {all : Array Oper} {rest : List Oper} {ty : TypeId} {pos : String} {af : Array Edge}
theorem w_defer {x : Operand} {f : Nat} {us cs : List Value} {ats : Array TypeId} (hx : ev L x = some (.func (.func f) us.toArray cs.toArray)) (k : W P Q0 N (⟨.fn (.func f) cs.toArray, us.toArray⟩ :: D) w0 G0 K0 (.ops all rest :: s) G L M) :
    W P Q0 N D w0 G0 K0 (.ops all (⟨none, .defer ⟨.value x, #[], ats⟩, ty, pos, af, none⟩ :: rest) :: s) G L M := W.of fun a w E S => o_defer E hx fun a' E' => k.run a' w E' S
theorem w_retX (h : ∀ a w, Env a N D L → St w0 G0 K0 G w M → Q0 .ret a w) : W P Q0 N D w0 G0 K0 (.co .ret :: s) G L M := W.of fun a w E S => wp_ret (aft_ret (h a w E S))
end
theorem Tk.gp : goFn Tryz.prog 53 = true := by kernel_rfl
section
attribute [local irreducible] readS hexOk decS macS sealOk
theorem f_Parse (t : Bs) (key : List Int) (ho : Oc key) (A : Option Addr) (c : Nat) (hl : t.length ≤ 1000000) (hL : (linesS (t.take (cutN t))).1.length ≤ 1600 ∧ ∀ x ∈ (linesS (t.take (cutN t))).1, x.length ≤ 1600) (G : Heap) (g : Gl G) (hR : Rd (Knd.int .u8) G A key) (hc : key.length ≤ c) (hkl : key.length ≤ 1000000) :
    FnR Tryz.prog 31 [str t, .slice A key.length c] G (fun v G' => ∃ a, v = .tuple #[vB (parseB key t).1 a, .agg #[.int .i64 (parseB key t).2, .int .i64 0]] ∧ RdB G' (parseB key t).1 a ∧ Small (parseB key t).1) := by
  refine fnR_D Tryz.func31 rfl Tryz.ntmps31 rfl fun w0 Q0 hQ => ?_
  have hcn := cutN_le t
  have hlr := lastI_rng (Lib.trimSuffix t [10])
  have htl := trimS_len t [10]
  have hb : ∀ r : Bs, (byts r).length = r.length := fun r => by unfold byts; simp
  refine go ?_; intro B4
  refine go ?_; intro B5
  have hpan : ∀ {G' : Heap} {a : Act} {w : World} {N : Nat} {L' : List (Nat × Value)} (hle : Heap.le G G') (E : Env a N [⟨.fn (.func 53) #[.pointer (some ⟨B4, 0, none⟩), .pointer (some ⟨B5, 0, none⟩)], #[]⟩] L') (h4 : lk L' 4 = some (.pointer (some ⟨B4, 0, none⟩))) (h5 : lk L' 5 = some (.pointer (some ⟨B5, 0, none⟩))) (S : St w0 G [] G' w [failB B5 0 0, bkB B4 BK0 AK0]) (he : parseB key t = (BK0, 10)), Q0 (.panic (thV TF bad10)) a w := by
    intro G' a w N L' hle E h4 h5 S he
    refine hQ _ _ _ ?_
    show Leaves _ _ a.tmps _ a.defers _ _
    rw [E.defers]
    refine leaves_cons (f := 53) (args := #[.pointer (some ⟨B4, 0, none⟩), .pointer (some ⟨B5, 0, none⟩)]) (by simp) (run_go Tk.gp _) ?_
    refine (cl_pan B4 B5 S).mono ?_
    rintro e' u' w' ⟨⟨v, rfl⟩, rfl, G2, hl2, S2⟩
    refine ⟨_, (ResY.res E S2 (.cellA h4 inferInstance (.there (.here .here)) rfl (.cellA h5 inferInstance (.here .here) rfl .nil))).run rfl, ⟨_, _, S2.stop (List.nil_sublist _), rfl, AK0, ?_, ?_, ?_⟩⟩
    · rw [he]; rfl
    · rw [he]; exact rdB0 _
    · rw [he]; exact sm0
  have hret : ∀ {G' : Heap} {a : Act} {w : World} {N : Nat} {L' : List (Nat × Value)} {bk : Book} {ak : Bk} {cd : Int} (hle : Heap.le G G') (E : Env a N [⟨.fn (.func 53) #[.pointer (some ⟨B4, 0, none⟩), .pointer (some ⟨B5, 0, none⟩)], #[]⟩] L') (h4 : lk L' 4 = some (.pointer (some ⟨B4, 0, none⟩))) (h5 : lk L' 5 = some (.pointer (some ⟨B5, 0, none⟩))) (S : St w0 G [] G' w [failB B5 cd 0, bkB B4 bk ak]) (he : parseB key t = (bk, cd)) (hRB : RdB G' bk ak) (hSm : Small bk), Q0 .ret a w := by
    intro G' a w N L' bk ak cd hle E h4 h5 S he hRB hSm
    refine hQ _ _ _ ?_
    show Leaves _ _ a.tmps _ a.defers _ _
    rw [E.defers]
    refine leaves_cons (f := 53) (args := #[.pointer (some ⟨B4, 0, none⟩), .pointer (some ⟨B5, 0, none⟩)]) (by simp) (run_go Tk.gp _) ?_
    refine (cl_idle B4 B5 S).mono ?_
    rintro e' u' w' ⟨⟨v, rfl⟩, rfl, G2, hl2, S2⟩
    refine ⟨_, (ResY.res E S2 (.cellA h4 inferInstance (.there (.here .here)) rfl (.cellA h5 inferInstance (.here .here) rfl .nil))).run rfl, ⟨_, _, S2.stop (List.nil_sublist _), rfl, ak, ?_, ?_, ?_⟩⟩
    · rw [he]; rfl
    · rw [he]; exact @RdB.up _ _ ⟨hl2⟩ _ _ hRB
    · rw [he]; exact hSm
  refine go ?_
  refine w_defer rfl ?_
  refine go ?_
  refine w_stp (p_call rfl rfl rfl (c_TrimS t _ (by omega))) ?_
  refine w_stp (p_call rfl rfl rfl (c_LastI (Lib.trimSuffix t [10]) _ (by omega))) ?_
  refine go ?_
  refine w_as 6 (.int .i64 ((cutN t : Nat) : Int)) rfl (by unfold cutN; rw [Int.toNat_of_nonneg (by omega)]) ?_
  refine go ?_
  have hpl := trimP_len (t.drop (cutN t)) sealW
  have hdl : (t.drop (cutN t)).length ≤ t.length := by rw [List.length_drop]; omega
  have hgl := trimS_len (preS t) [10]
  have hpr : (preS t).length ≤ 1000000 := by unfold preS; omega
  refine w_stp (p_call rfl rfl rfl (c_CutPre (t.drop (cutN t)) sealW _)) ?_
  refine go ?_
  refine w_stp (p_call rfl rfl rfl (c_CutSuf (preS t) 10 _ (by omega))) ?_
  refine go ?_
  refine w_call rfl rfl rfl (c_Decode (dgsS t) (by unfold dgsS; omega) _) fun v G2 _ hr => ?_
  obtain ⟨Ax, n, cx, ev, rfl, hev, hdec⟩ : ∃ Ax n cx ev, v = .tuple #[.slice Ax n cx, .int .i64 ev] ∧ (ev = 0 ↔ hexOk (dgsS t)) ∧ (hexOk (dgsS t) → n = (decS (dgsS t)).length ∧ Rd (Knd.int .u8) G2 Ax (decS (dgsS t))) := by
    rcases hr with ⟨h1, Ax, cx, rfl, h2, h3⟩ | ⟨h1, rfl⟩
    · exact ⟨Ax, _, cx, 0, rfl, ⟨fun _ => h1, fun _ => rfl⟩, fun _ => ⟨rfl, h3⟩⟩
    · exact ⟨none, 0, 0, 2, rfl, ⟨fun e => absurd e (by decide), fun e => absurd e h1⟩, fun e => absurd e h1⟩
  refine go ?_
  refine w_and (y := Lib.hasSuffix (preS t) [10]) 38 36 rfl (fun h => ?_) (fun h => ?_) ?_
  · refine go ?_; exact w_at
  · refine go ?_; exact w_at
  refine go ?_
  refine w_and (y := decide (ev = 0)) 42 39 rfl (fun h => ?_) (fun h => ?_) ?_
  · refine go ?_; exact w_at
  · refine go ?_; exact w_at
  refine go ?_
  refine w_and (y := decide ((n : Int) = 32)) 47 43 rfl (fun h => ?_) (fun h => ?_) ?_
  · refine go ?_; exact w_at
  · refine go ?_; exact w_at
  have hso : ((((Lib.hasPrefix (t.drop (cutN t)) sealW && Lib.hasSuffix (preS t) [10]) && decide (ev = 0)) && decide ((n : Int) = 32)) = true) ↔ sealOk t := by
    unfold sealOk
    simp only [Bool.and_eq_true, decide_eq_true_eq]
    constructor
    · rintro ⟨⟨⟨h1, h2⟩, h3⟩, h4⟩
      have hx := hev.1 h3
      have hn := (hdec hx).1
      rw [decS_len] at hn
      have hx2 : (dgsS t).length % 2 = 0 := by unfold hexOk at hx; exact hx.1
      exact ⟨h1, h2, hx, by omega⟩
    · rintro ⟨h1, h2, h3, h4⟩
      have hn := (hdec h3).1
      rw [decS_len] at hn
      exact ⟨⟨⟨h1, h2⟩, hev.2 h3⟩, by omega⟩
  refine w_callX rfl rfl rfl (f_must _ _) .nil (fun e G' a w hle he E S => ?_) fun v G3 Ms _ hr => ?_
  · obtain ⟨h1, rfl⟩ := he
    have hns : ¬ sealOk t := fun e => by rw [hso.2 e] at h1; cases h1
    refine hpan LeT.le E rfl rfl S ?_
    unfold parseB
    rw [if_neg hns]
  obtain ⟨rfl, hok⟩ := hr
  have hsk := hso.1 hok
  have hpb : parseB key t = match readS (t.take (cutN t)) with
    | none => (BK0, 10)
    | some b => if decS (dgsS t) = macS key [byts (t.take (cutN t))] then (b, 0) else (BK0, 11) := by unfold parseB; rw [if_pos hsk]
  have hhx : hexOk (dgsS t) := by unfold sealOk at hsk; exact hsk.2.2.1
  obtain ⟨hn, hRx⟩ := hdec hhx
  subst hn
  refine go ?_
  have htk : (t.take (cutN t)).length ≤ 1000000 := by rw [List.length_take]; omega
  refine w_callX rfl rfl rfl (f_read (t.take (cutN t)) (by omega) hL _ g.up) .nil (fun e G' a w hle he E S => ?_) fun v G4 Ms _ hr => ?_
  · obtain ⟨h1, rfl⟩ := he
    refine hpan LeT.le E rfl rfl S ?_
    rw [hpb, h1]
  obtain ⟨rfl, b, a, hrs, rfl, hRB, hSm⟩ := hr
  rw [hrs] at hpb
  refine go ?_
  have hm := mac_len key [byts (t.take (cutN t))]
  refine w_s2b rfl rfl fun b2 c2 G5 _ hc2 hR2 => ?_
  refine w_lit (K := KB8) [byts (t.take (cutN t))] rfl rfl rfl (cs := #[.slice (some ⟨b2, 0, none⟩) (byts (t.take (cutN t))).length c2]) (by kernel_rfl) ⟨⟨_, rfl, _, _, rfl, by rw [hb]; exact hc2, hR2⟩, rfl⟩ fun b6 G6 _ hR6 => ?_
  refine w_stp (p_call rfl rfl rfl (c_MacSum key A c G6 hR.up hc hkl [byts (t.take (cutN t))] _ 1 hR6 (by simp) (by simp only [lenAll, List.foldl_cons, List.foldl_nil]; rw [hb]; omega) g.ks.up)) ?_
  refine go ?_; intro B12
  refine go ?_
  refine w_still B12 .here fun G7 _ hC => ?_
  refine w_as 61 (.slice (some ⟨B12, 0, none⟩) (macS key [byts (t.take (cutN t))]).length 32) rfl (by rw [hm]) ?_
  refine w_stp (p_call rfl rfl rfl (c_MacSame (decS (dgsS t)) (macS key [byts (t.take (cutN t))]) Ax _ cx 32 (decS_byte hhx) (oct_byte (mac_oct _ _)) (by rw [decS_len]; unfold dgsS; omega) _ hRx.up (Rd.nums hC))) ?_
  refine go ?_
  refine w_cond rfl (fun hne => ?_) (fun heq => ?_)
  · have hne' : ¬ decS (dgsS t) = macS key [byts (t.take (cutN t))] := by simpa using hne
    refine go ?_
    refine w_stp (p_build (cs := (bookC BK0 AK0).toArray) rfl rfl (by kernel_rfl)) ?_
    refine w_stp (p_build (cs := #[.int .i64 11, .int .i64 0]) rfl rfl (by kernel_rfl)) ?_
    refine go ?_
    refine w_retX fun a' w' E S => ?_
    exact hret LeT.le E rfl rfl S (by rw [hpb]; simp only [if_neg hne']) (rdB0 _) sm0
  · have heq' : decS (dgsS t) = macS key [byts (t.take (cutN t))] := by simpa using heq
    refine go ?_
    refine w_stp (p_build (cs := #[.int .i64 0, .int .i64 0]) rfl rfl (by kernel_rfl)) ?_
    refine go ?_
    refine w_retX fun a' w' E S => ?_
    exact hret LeT.le E rfl rfl S (by rw [hpb]; simp only [if_pos heq']) hRB.up hSm
end
end Go.Proofs.YtngoaapgdfohjaaGreatDoor.T27
