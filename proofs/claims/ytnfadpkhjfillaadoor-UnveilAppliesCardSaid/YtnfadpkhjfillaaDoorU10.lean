/- Own text. -/
import Derived.Test.YtnfadpkhjfillaaDoorU9
set_option linter.unusedVariables false
set_option linter.unusedSimpArgs false
set_option maxRecDepth 100000
set_option maxHeartbeats 4000000
namespace Go.Proofs.YtnfadpkhjfillaaDoor.T28
open Go Go.Proofs.YtnfadpkhjfillaaDoor.X
instance : UN Tryd.prog 30 (.slice 76) := ⟨Tryd.underlying30⟩
instance : LZ Tryd.prog 76 [(0, .int .i64 0), (1, str [])] := ⟨⟨.agg #[.int .i64 0, str []], by kernel_rfl, ⟨rfl, rfl, trivial⟩⟩⟩
theorem T.a76 : aggSz Tryd.prog 76 = some 2 := by kernel_rfl
instance : AG Tryd.prog 76 2 := ⟨T.a76⟩
theorem T.f32_3 : fieldOff Tryd.prog 32 3 = some 16 := by kernel_rfl
instance : FO Tryd.prog 32 3 16 := ⟨T.f32_3⟩
theorem T.f76_0 : fieldOff Tryd.prog 76 0 = some 0 := by kernel_rfl
instance : FO Tryd.prog 76 0 0 := ⟨T.f76_0⟩
theorem T.f76_1 : fieldOff Tryd.prog 76 1 = some 1 := by kernel_rfl
instance : FO Tryd.prog 76 1 1 := ⟨T.f76_1⟩
theorem T.g17 : goFn Tryd.prog 17 = true := by kernel_rfl
theorem T.l30 : slOf Tryd.prog 30 = some (76, 2) := by kernel_rfl
theorem T.s30 : scal Tryd.prog 30 = true := by kernel_rfl
instance : SC Tryd.prog 30 := ⟨T.s30⟩

theorem noteF_hit {rs : List Rem} {n : Int} {k : Nat} (h : (rs.getD k REM0).ev = n) : noteF rs n (k + 1) = (true, (rs.getD k REM0).note) := by
  show (if (rs.getD k REM0).ev = n then _ else _) = _
  rw [if_pos h]
theorem noteF_miss {rs : List Rem} {n : Int} {k : Nat} (h : ¬ (rs.getD k REM0).ev = n) : noteF rs n (k + 1) = noteF rs n k := by
  show (if (rs.getD k REM0).ev = n then _ else _) = _
  rw [if_neg h]
/-! `slices.Clone[[]incognito/api.Value,incognito/api.Value]` -/
theorem c_cloneO (xs : List Val) (A : Option Addr) (c : Nat) (w0 : World) (G : Heap) (hG : Sub G w0) (hR : Rd kVal G A xs) (hl : xs.length ≤ 1000000):
  Calls Tryd.prog 36 #[.slice A xs.length c] w0 (X.Ends w0 G (X.keys []) (fun v G' C' => ∃ A' c', v = .slice A' xs.length c' ∧ X.Own kVal 49 G' A' c' xs C') (fun _ _ _ => False)) := by
 refine enter Tryd.func36 rfl Tryd.ntmps36 rfl ?_
 intro Q hQ a E
 have S := St.start0 hG
 refine sr fun K hK => ?_
 refine rn 1 E S ?_; clear E S; intro a w E S
 apply hK; clear hK K
 refine wp_seq_k (fun K3 hK2 => ?_)
 refine sr fun K hK => ?_
 refine rn 1 E S ?_; clear E S; intro a w E S
 refine o_eqNil E rfl rfl rfl Tryd.underlying50 ?_; clear E; intro a E
 apply hK; clear hK K
 refine cond E rfl (fun h5r => ?_) (fun h5r => ?_)
 ·have h5 := nm h5r
  refine sr fun K hK => ?_
  refine rn 1 E S ?_; clear E S; intro a w E S
  apply hK; clear hK K
  refine rtE hQ E S ?_
  have hx : xs = [] := by
   rcases hR with h | ⟨b, o, rfl, _⟩
   ·exact h
   ·exact absurd h5r (by simp)
  subst hx
  exact ⟨_, [], S.stop (List.nil_sublist _), _, _, rfl, X.Own.nil⟩
 ·have h5 := nm h5r
  refine wp_skip ?_
  refine hK2 _ _ ?_; clear hK2
  refine sr fun K hK => ?_
  refine o_buildNil (K := kVal) E rfl S T.p50 ?_; clear E S; intro oA7 oc7 oC7 w a S oH7 E
  refine rn 1 E S ?_; clear E S; intro a w E S
  refine o_append (K := kVal) E rfl S .here oH7 rfl rfl T.p50 hR kVal_one (by simp; omega) (by simp; omega) ?_
  clear E S; intro oA8 oc8 oC8 w a S oH8 E
  refine rn 1 E S ?_; clear E S; intro a w E S
  apply hK; clear hK K
  refine rtE hQ E S ?_
  exact ⟨_, _, S.stop (List.sublist_append_left _ _), _, _, rfl, oH8⟩

/-! `incognito/unveil.mapped` -/
theorem c_mapped (b : Book) (Ae : Option Addr) (ce : Nat) (Am : Option Addr) (cm : Nat) (Ar : Option Addr) (cr : Nat) (ds : List Int) (Ad : Option Addr) (cd : Nat) (p : Nat) (lo : Bool) (rb : Nat) (l : List Val) (A : Option Addr) (c : Nat) {W0 : World} {H0 : Heap} {L0 : List Nat} {M0 : List Chunk} (w0 : World) (G : Heap) (hS0 : St W0 H0 L0 G w0 ([[(rb, Cells 61 (PC b [(14, .slice Ae b.es.length ce), (15, .slice Am b.ms.length cm), (16, .slice Ar b.rs.length cr), (17, .slice Ad ds.length cd), (18, .int .i64 (p : Int)), (19, .bool lo)]))]] ++ M0)) (hRe : Rd kEnt G Ae b.es) (hRm : Rd kMom G Am b.ms) (hRr : Rd kRem G Ar b.rs) (hle : b.es.length ≤ 1000000000) (hlm : b.ms.length ≤ 9223372036854775807) (hlr : b.rs.length ≤ 9223372036854775807) (hRd : Rd (Knd.int .i64) G Ad ds) (hR : Rd kVal G A l) (hl : l.length ≤ 1000000) (hpl : p + l.length ≤ ds.length) (hpm : ds.length ≤ 9000000000) (hds : ∀ d ∈ ds, 0 ≤ d):
  Calls Tryd.prog 18 #[.slice A l.length c, .func (.func 17) #[.pointer (some ⟨rb, 0, none⟩)] #[]] w0 (X.Ends w0 G (X.keys (List.flatten [[(rb, Cells 61 (PC b [(14, .slice Ae b.es.length ce), (15, .slice Am b.ms.length cm), (16, .slice Ar b.rs.length cr), (17, .slice Ad ds.length cd), (18, .int .i64 (p : Int)), (19, .bool lo)]))]])) (fun v G' C' => (∃ A c, v = .slice A (mapF b ds p l).length c ∧ (mapF b ds p l).length ≤ c ∧ Rd kVal G' A (mapF b ds p l)) ∧ ∃ lo', C' = List.flatten [[(rb, Cells 61 (PC b [(14, .slice Ae b.es.length ce), (15, .slice Am b.ms.length cm), (16, .slice Ar b.rs.length cr), (17, .slice Ad ds.length cd), (18, .int .i64 ((p + l.length : Nat) : Int)), (19, .bool lo')]))]] ∧ lo' = (lo || !okF b ds p l)) (fun _ _ _ => False)) := by
 refine enter Tryd.func18 rfl Tryd.ntmps18 rfl ?_
 intro Q hQ a E
 have hG := hS0.sub
 have S := St.startM (Ms := [[(rb, Cells 61 (PC b [(14, .slice Ae b.es.length ce), (15, .slice Am b.ms.length cm), (16, .slice Ar b.rs.length cr), (17, .slice Ad ds.length cd), (18, .int .i64 (p : Int)), (19, .bool lo)]))]]) hS0
 obtain ⟨K0, hK0⟩ : ∃ K, K = X.keys (List.flatten [[(rb, Cells 61 (PC b [(14, .slice Ae b.es.length ce), (15, .slice Am b.ms.length cm), (16, .slice Ar b.rs.length cr), (17, .slice Ad ds.length cd), (18, .int .i64 (p : Int)), (19, .bool lo)]))]]) := ⟨_, rfl⟩
 rw [← hK0] at S
 refine sr fun K hK => ?_
 refine rn 1 E S ?_; clear E S; intro a w E S
 apply hK; clear hK K
 refine sr fun K hK => ?_
 refine rn 1 E S ?_; clear E S; intro a w E S
 replace S := S.nilChunk
 refine o_callM (A := []) (C := []) E rfl S rfl rfl T.g36 (c_cloneO l _ _ _ _ S.sub hR (by omega)) ?_ (fun _ _ _ _ _ _ h => h.elim)
 clear E S; rintro _ G2 oC2 w a S hle2 ⟨oA2, oc2, rfl, oH2⟩ E
 replace hRe := hRe.le hle2
 replace hRm := hRm.le hle2
 replace hRr := hRr.le hle2
 replace hRd := hRd.le hle2
 replace hR := hR.le hle2
 refine rn 1 E S ?_; clear E S; intro a w E S
 apply hK; clear hK K
 refine wp_seq_k (fun K5 hK4 => ?_)
 refine sr fun K hK => ?_
 refine rn 3 E S ?_; clear E S; intro a w E S
 apply hK; clear hK K
 refine wp_block ?_
 refine loop (fun (q : Nat × Bool) a' w' => ∃ (oA5_1 : Option Addr) (oc5_1 : Nat) (oC5_1 : Chunk), ∃ GL7, Heap.le G2 GL7 ∧ St w0 G K0 GL7 w' [oC5_1, [(rb, Cells 61 (PC b [(14, .slice Ae b.es.length ce), (15, .slice Am b.ms.length cm), (16, .slice Ar b.rs.length cr), (17, .slice Ad ds.length cd), (18, .int .i64 ((p + q.1 : Nat) : Int)), (19, .bool q.2)]))]] ∧ Env a' 25 [] [(1, .func (.func 17) #[.pointer (some ⟨rb, 0, none⟩)] #[]), (4, .slice none 0 0), (5, .slice oA5_1 ((stF b ds p l q.1).length) oc5_1), (10, .int .i64 (l.length : Int)), (11, .int .i64 ((q.1 : Nat) : Int))] ∧ X.Own kVal 49 GL7 oA5_1 oc5_1 (stF b ds p l q.1) oC5_1 ∧ (q.1 ≤ l.length ∧ q.2 = (lo || !okF b ds p (l.take q.1)))) (fun (q : Nat × Bool) => l.length - q.1) (0, lo) ⟨_, _, _, _, Heap.le.refl _, S, E.cut ⟨rfl, rfl, rfl, rfl, rfl, trivial⟩, oH2, ⟨Nat.zero_le _, by simp [okF]⟩⟩ ?_
 clear E S; intro q a w ⟨oA5_1, oc5_1, oC5_1, GL7, hle8, S, E, oH5_1, ⟨hi, hlq⟩⟩
 replace hRe := hRe.le hle8
 replace hRm := hRm.le hle8
 replace hRr := hRr.le hle8
 replace hRd := hRd.le hle8
 replace hR := hR.le hle8
 refine sr fun K hK => ?_
 refine rn 1 E S ?_; clear E S; intro a w E S
 apply hK; clear hK K
 refine wp_seq_k (fun K11 hK10 => ?_)
 refine cond E rfl (fun h12r => ?_) (fun h12r => ?_)
 ·have h12 := nm h12r
  refine wp_skip ?_
  refine hK10 _ _ ?_; clear hK10
  refine wp_seq_k (fun K14 hK13 => ?_)
  refine wp_block ?_
  refine sr fun K hK => ?_
  refine rn 2 E S ?_; clear E S; intro a w E S
  apply hK; clear hK K
  refine wp_region_lit ?_
  have hsl9 := stF_len b ds p l q.1
  refine rn 5 E S ?_; clear E S; intro a w E S
  have hi16 : q.1 < (stF b ds p l q.1).length := by first | omega | (simp; omega)
  obtain ⟨ob16, hA16⟩ := X.Own.blk oH5_1 hi16; cases hA16
  refine o_ixL E rfl rfl rfl T.l50 ⟨by omega, by omega⟩ ?_; clear E; intro a E
  refine X.o_ldOV (i := q.1) E rfl S rfl T.a49 .here oH5_1 (by omega) (by first | exact hi16 | (simp; omega)) ?_; clear E; intro a E
  replace S := S.front (C := [(rb, Cells 61 (PC b [(14, .slice Ae b.es.length ce), (15, .slice Am b.ms.length cm), (16, .slice Ar b.rs.length cr), (17, .slice Ad ds.length cd), (18, .int .i64 ((p + q.1 : Nat) : Int)), (19, .bool q.2)]))]) (.there .here)
  refine o_callMs [[(rb, Cells 61 (PC b [(14, .slice Ae b.es.length ce), (15, .slice Am b.ms.length cm), (16, .slice Ar b.rs.length cr), (17, .slice Ad ds.length cd), (18, .int .i64 ((p + q.1 : Nat) : Int)), (19, .bool q.2)]))]] (R0 := [oC5_1]) E rfl S rfl rfl T.g17 (c_rreal (M0 := [oC5_1]) b _ _ _ _ _ _ ds _ _ (p + q.1) q.2 rb ((stF b ds p l q.1).getD q.1 ⟨0, 0, []⟩) _ _ S hRe hRm hRr hle hlm hlr hRd (by omega) hpm hds) ?_
  clear E S; rintro _ G17 _ w a S hle17 ⟨rfl, lo17, rfl, hlo17⟩ E
  replace S := S.unflat; simp only [List.cons_append, List.nil_append] at S
  replace hRe := hRe.le hle17
  replace hRm := hRm.le hle17
  replace hRr := hRr.le hle17
  replace hRd := hRd.le hle17
  replace hR := hR.le hle17
  replace oH5_1 := oH5_1.le hle17
  have hi18 : q.1 < (stF b ds p l q.1).length := by first | omega | (simp; omega)
  refine o_ixL E rfl rfl rfl T.l50 ⟨by omega, by omega⟩ ?_; clear E; intro a E
  refine X.o_stOV (i := q.1) (v := ((oneS b (ds.getD (p + q.1) 0) ((stF b ds p l q.1).getD q.1 ⟨0, 0, []⟩)).1)) E S rfl rfl T.a49 (.there .here) oH5_1 (by omega) (by first | exact hi18 | (simp; omega)) ?_; clear S; intro oC19 w S oH19
  refine hK13 _ _ ?_; clear hK13
  refine wp_region_lit ?_
  refine rn 2 E S ?_; clear E S; intro a w E S
  have hlq2 : lo17 = (lo || !okF b ds p (l.take (q.1 + 1))) := by
   rw [hlo17, okF_step b ds l p q.1 (by omega), stF_get b ds l p q.1 (by omega), hlq]
   cases lo <;> cases okF b ds p (l.take q.1) <;> rfl
  have hxs : ((stF b ds p l q.1).set q.1 ((oneS b (ds.getD (p + q.1) 0) ((stF b ds p l q.1).getD q.1 ⟨0, 0, []⟩)).1)) = stF b ds p l (q.1 + 1) := by rw [stF_get b ds l p q.1 (by omega)]; exact stF_set b ds l p q.1 (by omega)
  rw [hxs] at oH19; clear hxs; rw [show (stF b ds p l q.1).length = (stF b ds p l (q.1 + 1)).length by rw [stF_len, stF_len]] at E
  exact ⟨(q.1 + 1, lo17), ⟨_, _, _, _, (hle8.trans hle17), S, E.cut ⟨rfl, rfl, rfl, rfl, rfl, trivial⟩, oH19, ⟨by dsimp only; omega, hlq2⟩⟩, by show l.length - (q.1 + 1) < _; omega⟩
 ·have h12 := nm h12r
  refine wp_exit ?_
  refine hK4 _ _ ?_; clear hK4
  refine sr fun K hK => ?_
  refine rn 2 E S ?_; clear E S; intro a w E S
  apply hK; clear hK K
  refine rtE hQ E S ?_
  have hi9 : q.1 = l.length := by omega
  rw [hi9, List.take_length] at hlq
  have hcphR22 := oH5_1.cap
  obtain ⟨G21, hle23, S', hR22⟩ := X.Own.still S .here oH5_1; clear S; have S := S'; clear S'
  replace hRe := hRe.le hle23
  replace hRm := hRm.le hle23
  replace hRr := hRr.le hle23
  replace hRd := hRd.le hle23
  replace hR := hR.le hle23
  rw [hi9, stF_end] at hR22 hcphR22
  subst hK0
  have hln : (stF b ds p l q.1).length = (mapF b ds p l).length := by rw [stF_len, mapF_len]
  exact ⟨_, _, S.stop (List.Sublist.refl _), ⟨_, _, by rw [hln] <;> rfl, by assumption, by assumption⟩, _, by rw [hi9] <;> rfl, hlq⟩

/-! `(*incognito/unveil.reader).note` -/
theorem c_rnote (b : Book) (Ae : Option Addr) (ce : Nat) (Am : Option Addr) (cm : Nat) (Ar : Option Addr) (cr : Nat) (ds : List Int) (Ad : Option Addr) (cd : Nat) (p : Nat) (lo : Bool) (rb : Nat) (x : Evt) (A1 : Option Addr) (c1 : Nat) (A2 : Option Addr) (c2 : Nat) (eb : Nat) (n : Int) {W0 : World} {H0 : Heap} {L0 : List Nat} {M0 : List Chunk} (w0 : World) (G : Heap) (hS0 : St W0 H0 L0 G w0 ([[(rb, Cells 61 (PC b [(14, .slice Ae b.es.length ce), (15, .slice Am b.ms.length cm), (16, .slice Ar b.rs.length cr), (17, .slice Ad ds.length cd), (18, .int .i64 (p : Int)), (19, .bool lo)]))], [(eb, Cells 52 [(0, .int .i64 x.time), (1, .int .i64 x.client.k), (2, .int .i64 x.client.n), (3, str x.client.s), (4, .int .i64 x.type), (5, .int .i64 x.model), (6, .int .i64 x.key.k), (7, .int .i64 x.key.n), (8, str x.key.s), (9, .int .i64 x.op), (10, .slice A1 x.args.length c1), (11, .slice A2 x.out.length c2), (12, .bool x.noted), (13, str x.note)])]] ++ M0)) (hRe : Rd kEnt G Ae b.es) (hRm : Rd kMom G Am b.ms) (hRr : Rd kRem G Ar b.rs) (hle : b.es.length ≤ 1000000000) (hlm : b.ms.length ≤ 9223372036854775807) (hlr : b.rs.length ≤ 9223372036854775807) (hRd : Rd (Knd.int .i64) G Ad ds):
  Calls Tryd.prog 20 #[.pointer (some ⟨rb, 0, none⟩), .pointer (some ⟨eb, 0, none⟩), .int .i64 n] w0 (X.Ends w0 G (X.keys (List.flatten [[(rb, Cells 61 (PC b [(14, .slice Ae b.es.length ce), (15, .slice Am b.ms.length cm), (16, .slice Ar b.rs.length cr), (17, .slice Ad ds.length cd), (18, .int .i64 (p : Int)), (19, .bool lo)]))], [(eb, Cells 52 [(0, .int .i64 x.time), (1, .int .i64 x.client.k), (2, .int .i64 x.client.n), (3, str x.client.s), (4, .int .i64 x.type), (5, .int .i64 x.model), (6, .int .i64 x.key.k), (7, .int .i64 x.key.n), (8, str x.key.s), (9, .int .i64 x.op), (10, .slice A1 x.args.length c1), (11, .slice A2 x.out.length c2), (12, .bool x.noted), (13, str x.note)])]])) (fun v G' C' => v = .tuple #[] ∧ C' = List.flatten [[(rb, Cells 61 (PC b [(14, .slice Ae b.es.length ce), (15, .slice Am b.ms.length cm), (16, .slice Ar b.rs.length cr), (17, .slice Ad ds.length cd), (18, .int .i64 (p : Int)), (19, .bool lo)]))], [(eb, Cells 52 [(0, .int .i64 x.time), (1, .int .i64 x.client.k), (2, .int .i64 x.client.n), (3, str x.client.s), (4, .int .i64 x.type), (5, .int .i64 x.model), (6, .int .i64 x.key.k), (7, .int .i64 x.key.n), (8, str x.key.s), (9, .int .i64 x.op), (10, .slice A1 x.args.length c1), (11, .slice A2 x.out.length c2), (12, .bool ((rnoteS b n x).1)), (13, str ((rnoteS b n x).2))])]]) (fun _ _ _ => False)) := by
 refine enter Tryd.func20 rfl Tryd.ntmps20 rfl ?_
 intro Q hQ a E
 have hG := hS0.sub
 have S := St.startM (Ms := [[(rb, Cells 61 (PC b [(14, .slice Ae b.es.length ce), (15, .slice Am b.ms.length cm), (16, .slice Ar b.rs.length cr), (17, .slice Ad ds.length cd), (18, .int .i64 (p : Int)), (19, .bool lo)]))], [(eb, Cells 52 [(0, .int .i64 x.time), (1, .int .i64 x.client.k), (2, .int .i64 x.client.n), (3, str x.client.s), (4, .int .i64 x.type), (5, .int .i64 x.model), (6, .int .i64 x.key.k), (7, .int .i64 x.key.n), (8, str x.key.s), (9, .int .i64 x.op), (10, .slice A1 x.args.length c1), (11, .slice A2 x.out.length c2), (12, .bool x.noted), (13, str x.note)])]]) hS0
 obtain ⟨K0, hK0⟩ : ∃ K, K = X.keys (List.flatten [[(rb, Cells 61 (PC b [(14, .slice Ae b.es.length ce), (15, .slice Am b.ms.length cm), (16, .slice Ar b.rs.length cr), (17, .slice Ad ds.length cd), (18, .int .i64 (p : Int)), (19, .bool lo)]))], [(eb, Cells 52 [(0, .int .i64 x.time), (1, .int .i64 x.client.k), (2, .int .i64 x.client.n), (3, str x.client.s), (4, .int .i64 x.type), (5, .int .i64 x.model), (6, .int .i64 x.key.k), (7, .int .i64 x.key.n), (8, str x.key.s), (9, .int .i64 x.op), (10, .slice A1 x.args.length c1), (11, .slice A2 x.out.length c2), (12, .bool x.noted), (13, str x.note)])]]) := ⟨_, rfl⟩
 rw [← hK0] at S
 refine wp_seq_k (fun K2 hK1 => ?_)
 refine sr fun K hK => ?_
 refine rn 7 E S ?_; clear E S; intro a w E S
 apply hK; clear hK K
 refine cond E rfl (fun h4r => ?_) (fun h4r => ?_)
 ·have h4 := nm h4r
  refine rtE hQ E S ?_
  have he : rnoteS b n x = (x.noted, x.note) := by unfold rnoteS; rw [if_neg (by simpa using h4)]
  replace S := S.front (C := [(eb, Cells 52 [(0, .int .i64 x.time), (1, .int .i64 x.client.k), (2, .int .i64 x.client.n), (3, str x.client.s), (4, .int .i64 x.type), (5, .int .i64 x.model), (6, .int .i64 x.key.k), (7, .int .i64 x.key.n), (8, str x.key.s), (9, .int .i64 x.op), (10, .slice A1 x.args.length c1), (11, .slice A2 x.out.length c2), (12, .bool x.noted), (13, str x.note)])]) (.there .here)
  replace S := S.front (C := [(rb, Cells 61 (PC b [(14, .slice Ae b.es.length ce), (15, .slice Am b.ms.length cm), (16, .slice Ar b.rs.length cr), (17, .slice Ad ds.length cd), (18, .int .i64 (p : Int)), (19, .bool lo)]))]) (.there .here)
  subst hK0
  rw [he]
  exact ⟨_, _, S.stop (List.Sublist.refl _), rfl, rfl⟩
 ·have h4 := nm h4r
  refine wp_skip ?_
  refine hK1 _ _ ?_; clear hK1
  refine sr fun K hK => ?_
  refine rn 8 E S ?_; clear E S; intro a w E S
  apply hK; clear hK K
  refine sr fun K hK => ?_
  refine rn 7 E S ?_; clear E S; intro a w E S
  apply hK; clear hK K
  refine wp_block ?_
  refine loop (fun (q : Nat × Bool × Bs) a' w' => ∃ GL7, Heap.le G GL7 ∧ St w0 G K0 GL7 w' [[(rb, Cells 61 (PC b [(14, .slice Ae b.es.length ce), (15, .slice Am b.ms.length cm), (16, .slice Ar b.rs.length cr), (17, .slice Ad ds.length cd), (18, .int .i64 (p : Int)), (19, .bool lo)]))], [(eb, Cells 52 [(0, .int .i64 x.time), (1, .int .i64 x.client.k), (2, .int .i64 x.client.n), (3, str x.client.s), (4, .int .i64 x.type), (5, .int .i64 x.model), (6, .int .i64 x.key.k), (7, .int .i64 x.key.n), (8, str x.key.s), (9, .int .i64 x.op), (10, .slice A1 x.args.length c1), (11, .slice A2 x.out.length c2), (12, .bool q.2.1), (13, str q.2.2)])]] ∧ Env a' 44 [] [(0, .pointer (some ⟨rb, 0, none⟩)), (1, .pointer (some ⟨eb, 0, none⟩)), (2, .int .i64 n), (25, .slice Ar b.rs.length cr), (26, .int .i64 (b.rs.length : Int)), (27, .int .i64 ((q.1 : Nat) : Int))] ∧ (q.1 ≤ b.rs.length ∧ q.2 = noteF b.rs n q.1)) (fun (q : Nat × Bool × Bs) => b.rs.length - q.1) (0, false, []) ⟨_, Heap.le.refl _, S, E.cut ⟨rfl, rfl, rfl, rfl, rfl, rfl, trivial⟩, ⟨Nat.zero_le _, rfl⟩⟩ ?_
  clear E S; intro q a w ⟨GL7, hle8, S, E, ⟨hi, hq⟩⟩
  replace hRe := hRe.le hle8
  replace hRm := hRm.le hle8
  replace hRr := hRr.le hle8
  replace hRd := hRd.le hle8
  refine sr fun K hK => ?_
  refine rn 1 E S ?_; clear E S; intro a w E S
  apply hK; clear hK K
  refine wp_seq_k (fun K11 hK10 => ?_)
  refine cond E rfl (fun h12r => ?_) (fun h12r => ?_)
  ·have h12 := nm h12r
   refine wp_skip ?_
   refine hK10 _ _ ?_; clear hK10
   refine wp_seq_k (fun K14 hK13 => ?_)
   refine wp_block ?_
   refine sr fun K hK => ?_
   have hi15 : ((q.1 : Nat) : Int).toNat < b.rs.length := by omega
   obtain ⟨eb15, eo15, hA15, el15⟩ := Rd.at hRr (List.getElem?_eq_getElem hi15); cases hA15
   rw [show b.rs[((q.1 : Nat) : Int).toNat] = (b.rs.getD q.1 REM0) from getD_get (i := q.1) hi15 _] at el15
   have el15 := kRem_open el15
   refine o_ixL E rfl rfl rfl T.l30 ⟨by omega, by omega⟩ ?_; clear E; intro a E
   refine o_ldIA E rfl S rfl el15 T.a76 ?_; clear E; intro a E
   refine o_allocZ E rfl S ?_; clear E S; intro B7 w a S E
   refine rn 1 E S ?_; clear E S; intro a w E S
   apply hK; clear hK K
   refine sr fun K hK => ?_
   refine rn 4 E S ?_; clear E S; intro a w E S
   apply hK; clear hK K
   refine cond E rfl (fun h18r => ?_) (fun h18r => ?_)
   ·have h18 := nm h18r
    replace E := E.cut (L' := [(0, .pointer (some ⟨rb, 0, none⟩)), (1, .pointer (some ⟨eb, 0, none⟩)), (2, .int .i64 n), (7, .pointer (some ⟨B7, 0, none⟩)), (25, .slice (some ⟨eb15, eo15, none⟩) b.rs.length cr), (26, .int .i64 (b.rs.length : Int)), (27, .int .i64 ((q.1 : Nat) : Int)), (28, .bool (decide (((q.1 : Nat) : Int) < (b.rs.length : Int)))), (29, .pointer (some ⟨eb15, eo15 + ((q.1 : Nat) : Int).toNat * 2, none⟩)), (30, .agg #[.int .i64 ((b.rs.getD q.1 REM0).ev), str ((b.rs.getD q.1 REM0).note)]), (31, .pointer (some ⟨B7, 0, none⟩)), (32, .int .i64 ((b.rs.getD q.1 REM0).ev)), (33, .int .i64 n), (34, .bool (decide (((b.rs.getD q.1 REM0).ev) = n)))]) ⟨rfl, rfl, rfl, rfl, rfl, rfl, rfl, rfl, rfl, rfl, rfl, rfl, rfl, rfl, trivial⟩
    refine drawnF (fun f G' w => Heap.le GL7 G' ∧ St w0 G K0 G' w [[(B7, Cells 76 [(0, .int .i64 ((b.rs.getD q.1 REM0).ev)), (1, str ((b.rs.getD q.1 REM0).note))])], [(rb, Cells 61 (PC b [(14, .slice Ae b.es.length ce), (15, .slice Am b.ms.length cm), (16, .slice (some ⟨eb15, eo15, none⟩) b.rs.length cr), (17, .slice Ad ds.length cd), (18, .int .i64 (p : Int)), (19, .bool lo)]))], [(eb, Cells 52 [(0, .int .i64 x.time), (1, .int .i64 x.client.k), (2, .int .i64 x.client.n), (3, str x.client.s), (4, .int .i64 x.type), (5, .int .i64 x.model), (6, .int .i64 x.key.k), (7, .int .i64 x.key.n), (8, str x.key.s), (9, .int .i64 x.op), (10, .slice A1 x.args.length c1), (11, .slice A2 x.out.length c2), (12, bif f 6 then .bool true else .bool q.2.1), (13, bif f 9 then str ((b.rs.getD q.1 REM0).note) else str q.2.2)])]]) [fun v _ => v = .pointer (some ⟨eb, 0, none⟩), fun v _ => v = .pointer (some ⟨eb, 0, none⟩), fun v _ => v = .pointer (some ⟨B7, 1, none⟩), fun v _ => v = str ((b.rs.getD q.1 REM0).note), fun v _ => v = .pointer (some ⟨eb, 0, none⟩), fun v _ => v = .pointer (some ⟨eb, 12, none⟩), fun _ _ => True, fun v _ => v = .pointer (some ⟨eb, 0, none⟩), fun v _ => v = .pointer (some ⟨eb, 13, none⟩), fun _ _ => True] [] T.mix rfl E ⟨Heap.le.refl _, S.drew⟩ rfl (by simp) (AllM.get ⟨fun _ _ _ _ h => h, fun _ _ _ _ h => h, fun _ _ _ _ h => h, fun _ _ _ _ h => h, fun _ _ _ _ h => h, fun _ _ _ _ h => h, fun _ _ _ _ h => h, fun _ _ _ _ h => h, fun _ _ _ _ h => h, fun _ _ _ _ h => h, trivial⟩) ⟨?_, ?_, ?_, ?_, ?_, ?_, ?_, ?_, ?_, ?_, trivial⟩ ?_
    ·intro a w G1 f hcl hfi hon hW E hp hO; obtain ⟨hl, S⟩ := hW
     refine o_move E rfl rfl ?_; clear E; intro a E
     exact ⟨_, _, Heap.le.refl _, ⟨hl, S⟩, fun d hd => (by cases hd; exact E.get _ _ rfl), E.defers, rfl⟩
    ·intro a w G1 f hcl hfi hon hW E hp hO; obtain ⟨hl, S⟩ := hW
     refine o_move E rfl rfl ?_; clear E; intro a E
     exact ⟨_, _, Heap.le.refl _, ⟨hl, S⟩, fun d hd => (by cases hd; exact E.get _ _ rfl), E.defers, rfl⟩
    ·intro a w G1 f hcl hfi hon hW E hp hO; obtain ⟨hl, S⟩ := hW
     refine o_fld E rfl rfl T.f76_1 ?_; clear E; intro a E
     exact ⟨_, _, Heap.le.refl _, ⟨hl, S⟩, fun d hd => (by cases hd; exact E.get _ _ rfl), E.defers, rfl⟩
    ·intro a w G1 f hcl hfi hon hW E hp hO; obtain ⟨hl, S⟩ := hW
     obtain ⟨_, e2, rfl⟩ := hp 2 37 _ (hon 2 rfl) rfl rfl; replace E := E.add e2
     refine o_ld E rfl S rfl T.s9 (.here .here) rfl ?_; clear E; intro a E
     exact ⟨_, _, Heap.le.refl _, ⟨hl, S⟩, fun d hd => (by cases hd; exact E.get _ _ rfl), E.defers, rfl⟩
    ·intro a w G1 f hcl hfi hon hW E hp hO; obtain ⟨hl, S⟩ := hW
     obtain ⟨_, e0, rfl⟩ := hp 0 35 _ (hon 0 rfl) rfl rfl; replace E := E.add e0
     refine o_nil E rfl rfl ?_; clear E; intro a E
     exact ⟨_, _, Heap.le.refl _, ⟨hl, S⟩, fun d hd => (by cases hd; exact E.get _ _ rfl), E.defers, rfl⟩
    ·intro a w G1 f hcl hfi hon hW E hp hO; obtain ⟨hl, S⟩ := hW
     obtain ⟨_, e4, rfl⟩ := hp 4 39 _ (hon 4 rfl) rfl rfl; replace E := E.add e4
     refine o_fld E rfl rfl T.f52_8 ?_; clear E; intro a E
     exact ⟨_, _, Heap.le.refl _, ⟨hl, S⟩, fun d hd => (by cases hd; exact E.get _ _ rfl), E.defers, rfl⟩
    ·intro a w G1 f hcl hfi hon hW E hp hO; obtain ⟨hl, S⟩ := hW
     obtain ⟨_, e5, rfl⟩ := hp 5 40 _ (hon 5 rfl) rfl rfl; replace E := E.add e5
     refine o_st E S rfl rfl rfl T.s4 (.there (.there (.here .here))) rfl ?_; clear S; intro w S
     replace S := S.conv (L2 := [(0, _), (1, _), (2, _), (3, _), (4, _), (5, _), (6, _), (7, _), (8, _), (9, _), (10, _), (11, _), (12, _), (13, _)]) (.there (.there (.here .here))) ⟨rfl, rfl, rfl, rfl, rfl, rfl, rfl, rfl, rfl, rfl, rfl, rfl, rfl, rfl, trivial⟩
     exact ⟨.bool true, _, Heap.le.refl _, ⟨hl, S⟩, fun d hd => (by cases hd), E.defers, trivial⟩
    ·intro a w G1 f hcl hfi hon hW E hp hO; obtain ⟨hl, S⟩ := hW
     obtain ⟨_, e1, rfl⟩ := hp 1 36 _ (hon 1 rfl) rfl rfl; replace E := E.add e1
     refine o_nil E rfl rfl ?_; clear E; intro a E
     exact ⟨_, _, Heap.le.refl _, ⟨hl, S⟩, fun d hd => (by cases hd; exact E.get _ _ rfl), E.defers, rfl⟩
    ·intro a w G1 f hcl hfi hon hW E hp hO; obtain ⟨hl, S⟩ := hW
     obtain ⟨_, e7, rfl⟩ := hp 7 41 _ (hon 7 rfl) rfl rfl; replace E := E.add e7
     refine o_fld E rfl rfl T.f52_9 ?_; clear E; intro a E
     exact ⟨_, _, Heap.le.refl _, ⟨hl, S⟩, fun d hd => (by cases hd; exact E.get _ _ rfl), E.defers, rfl⟩
    ·intro a w G1 f hcl hfi hon hW E hp hO; obtain ⟨hl, S⟩ := hW
     obtain ⟨_, e8, rfl⟩ := hp 8 42 _ (hon 8 rfl) rfl rfl; replace E := E.add e8
     obtain ⟨_, e3, rfl⟩ := hp 3 38 _ (hon 3 rfl) rfl rfl; replace E := E.add e3
     refine o_st E S rfl rfl rfl T.s9 (.there (.there (.here .here))) rfl ?_; clear S; intro w S
     replace S := S.conv (L2 := [(0, _), (1, _), (2, _), (3, _), (4, _), (5, _), (6, _), (7, _), (8, _), (9, _), (10, _), (11, _), (12, _), (13, _)]) (.there (.there (.here .here))) ⟨rfl, rfl, rfl, rfl, rfl, rfl, rfl, rfl, rfl, rfl, rfl, rfl, rfl, rfl, trivial⟩
     exact ⟨.bool true, _, Heap.le.refl _, ⟨hl, S⟩, fun d hd => (by cases hd), E.defers, trivial⟩
    clear E S; intro a w G19 f hle20 hall HW E hp; obtain ⟨_, S⟩ := HW
    have hfw6 := hall 6 (by decide)
    have hfw9 := hall 9 (by decide)
    simp only [hfw6, hfw9, cond_true] at S
    replace hRe := hRe.le hle20
    replace hRm := hRm.le hle20
    replace hRr := hRr.le hle20
    replace hRd := hRd.le hle20
    clear hp hall
    refine hK13 _ _ ?_; clear hK13
    refine wp_region_lit ?_
    refine rn 2 E S ?_; clear E S; intro a w E S
    replace S := S.drop (M' := [_, _]) (sub_drop (sub_keep (sub_keep sub_nil)))
    have hq2 : (true, (b.rs.getD q.1 REM0).note) = noteF b.rs n (q.1 + 1) := by rw [noteF_hit (by simpa using h18)]
    exact ⟨(q.1 + 1, true, (b.rs.getD q.1 REM0).note), ⟨_, (hle8.trans hle20), S, E.cut ⟨rfl, rfl, rfl, rfl, rfl, rfl, trivial⟩, ⟨by dsimp only; omega, hq2⟩⟩, by show b.rs.length - (q.1 + 1) < _; omega⟩
   ·have h18 := nm h18r
    refine wp_skip ?_
    refine hK13 _ _ ?_; clear hK13
    refine wp_region_lit ?_
    refine rn 2 E S ?_; clear E S; intro a w E S
    replace S := S.drop (M' := [_, _]) (sub_drop (sub_keep (sub_keep sub_nil)))
    have hq2 : (q.2.1, q.2.2) = noteF b.rs n (q.1 + 1) := by rw [noteF_miss (by simpa using h18)]; exact hq
    exact ⟨(q.1 + 1, q.2.1, q.2.2), ⟨_, hle8, S, E.cut ⟨rfl, rfl, rfl, rfl, rfl, rfl, trivial⟩, ⟨by dsimp only; omega, hq2⟩⟩, by show b.rs.length - (q.1 + 1) < _; omega⟩
  ·have h12 := nm h12r
   refine wp_exit ?_
   show Q .normal _ _
   refine retN hQ E rfl .nil ?_
   have hi9 : q.1 = b.rs.length := by omega
   have he : rnoteS b n x = q.2 := by unfold rnoteS; rw [if_pos (by simpa using h4), hq, hi9]
   replace S := S.front (C := [(eb, Cells 52 [(0, .int .i64 x.time), (1, .int .i64 x.client.k), (2, .int .i64 x.client.n), (3, str x.client.s), (4, .int .i64 x.type), (5, .int .i64 x.model), (6, .int .i64 x.key.k), (7, .int .i64 x.key.n), (8, str x.key.s), (9, .int .i64 x.op), (10, .slice A1 x.args.length c1), (11, .slice A2 x.out.length c2), (12, .bool q.2.1), (13, str q.2.2)])]) (.there .here)
   replace S := S.front (C := [(rb, Cells 61 (PC b [(14, .slice Ae b.es.length ce), (15, .slice Am b.ms.length cm), (16, .slice Ar b.rs.length cr), (17, .slice Ad ds.length cd), (18, .int .i64 (p : Int)), (19, .bool lo)]))]) (.there .here)
   subst hK0
   rw [he]
   exact ⟨_, _, S.stop (List.Sublist.refl _), rfl, rfl⟩
end Go.Proofs.YtnfadpkhjfillaaDoor.T28
