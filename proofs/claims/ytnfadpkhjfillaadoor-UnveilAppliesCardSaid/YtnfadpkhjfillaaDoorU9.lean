/- Own text. -/
import Derived.Test.YtnfadpkhjfillaaDoorU8
set_option linter.unusedVariables false
set_option linter.unusedSimpArgs false
set_option maxRecDepth 100000
set_option maxHeartbeats 4000000
namespace Go.Proofs.YtnfadpkhjfillaaDoor.T28
open Go Go.Proofs.YtnfadpkhjfillaaDoor.X
theorem T.a74 : aggSz Tryd.prog 74 = some 2 := by kernel_rfl
instance : AG Tryd.prog 74 2 := ⟨T.a74⟩
theorem T.f32_1 : fieldOff Tryd.prog 32 1 = some 14 := by kernel_rfl
instance : FO Tryd.prog 32 1 14 := ⟨T.f32_1⟩
theorem T.f61_0 : fieldOff Tryd.prog 61 0 = some 0 := by kernel_rfl
instance : FO Tryd.prog 61 0 0 := ⟨T.f61_0⟩
theorem T.f61_1 : fieldOff Tryd.prog 61 1 = some 17 := by kernel_rfl
instance : FO Tryd.prog 61 1 17 := ⟨T.f61_1⟩
theorem T.f61_2 : fieldOff Tryd.prog 61 2 = some 18 := by kernel_rfl
instance : FO Tryd.prog 61 2 18 := ⟨T.f61_2⟩
theorem T.f61_3 : fieldOff Tryd.prog 61 3 = some 19 := by kernel_rfl
instance : FO Tryd.prog 61 3 19 := ⟨T.f61_3⟩
theorem T.g35 : goFn Tryd.prog 35 = true := by kernel_rfl
theorem T.g37 : goFn Tryd.prog 37 = true := by kernel_rfl
theorem T.g38 : goFn Tryd.prog 38 = true := by kernel_rfl
theorem T.s28 : scal Tryd.prog 28 = true := by kernel_rfl
instance : SC Tryd.prog 28 := ⟨T.s28⟩

/-! What a book makes of a value. -/
def wayP (p : Pol) (d : Int) : Int := if d = 0 then p.r0.way else if d = 1 then p.r1.way else if d = 2 then p.r2.way else if d = 3 then p.r3.way else p.r4.way
def keepB (b : Book) (d : Int) (v : Val) : Bool := (decide (4 < d) || decide (wayP b.pol d = 0)) || (!decide (v.k = 1) && !decide (v.k = 2))
def oneS (b : Book) (d : Int) (v : Val) : Val × Bool := if keepB b d v = true then (v, true) else realS b.es d v
def mapF (b : Book) (ds : List Int) : Nat → List Val → List Val
  | _, [] => []
  | p, v :: l => (oneS b (ds.getD p 0) v).1 :: mapF b ds (p + 1) l
def okF (b : Book) (ds : List Int) : Nat → List Val → Bool
  | _, [] => true
  | p, v :: l => (oneS b (ds.getD p 0) v).2 && okF b ds (p + 1) l
def stF (b : Book) (ds : List Int) (p : Nat) (l : List Val) (i : Nat) : List Val := mapF b ds p (l.take i) ++ l.drop i
theorem mapF_len (b : Book) (ds : List Int) : ∀ (l : List Val) (p : Nat), (mapF b ds p l).length = l.length
  | [], _ => rfl
  | _ :: l, p => by simp only [mapF, List.length_cons, mapF_len b ds l (p + 1)]
theorem stF_len (b : Book) (ds : List Int) (p : Nat) (l : List Val) (i : Nat) : (stF b ds p l i).length = l.length := by
  unfold stF
  rw [List.length_append, mapF_len, List.length_take, List.length_drop]
  omega
theorem stF_end (b : Book) (ds : List Int) (p : Nat) (l : List Val) : stF b ds p l l.length = mapF b ds p l := by
  unfold stF
  rw [List.take_length, List.drop_length, List.append_nil]
theorem stF_get (b : Book) (ds : List Int) : ∀ (l : List Val) (p i : Nat), i < l.length → (stF b ds p l i).getD i ⟨0, 0, []⟩ = l.getD i ⟨0, 0, []⟩
  | [], _, _, h => by simp at h
  | v :: l, p, 0, _ => rfl
  | v :: l, p, i + 1, h => by
    have := stF_get b ds l (p + 1) i (by simpa using h)
    exact this
theorem stF_set (b : Book) (ds : List Int) : ∀ (l : List Val) (p i : Nat), i < l.length → (stF b ds p l i).set i (oneS b (ds.getD (p + i) 0) (l.getD i ⟨0, 0, []⟩)).1 = stF b ds p l (i + 1)
  | [], _, _, h => by simp at h
  | v :: l, p, 0, _ => rfl
  | v :: l, p, i + 1, h => by
    have := stF_set b ds l (p + 1) i (by simpa using h)
    rw [show p + 1 + i = p + (i + 1) by omega] at this
    show (oneS b (ds.getD p 0) v).1 :: _ = (oneS b (ds.getD p 0) v).1 :: _
    exact congrArg _ this
theorem okF_step (b : Book) (ds : List Int) : ∀ (l : List Val) (p i : Nat), i < l.length → okF b ds p (l.take (i + 1)) = (okF b ds p (l.take i) && (oneS b (ds.getD (p + i) 0) (l.getD i ⟨0, 0, []⟩)).2)
  | [], _, _, h => by simp at h
  | v :: l, p, 0, _ => by
    show (_ && okF b ds (p + 1) (l.take 0)) = (true && _)
    rw [Bool.true_and]
    exact Bool.and_true _
  | v :: l, p, i + 1, h => by
    have := okF_step b ds l (p + 1) i (by simpa using h)
    rw [show p + 1 + i = p + (i + 1) by omega] at this
    show ((oneS b (ds.getD p 0) v).2 && okF b ds (p + 1) (l.take (i + 1))) = (((oneS b (ds.getD p 0) v).2 && okF b ds (p + 1) (l.take i)) && _)
    rw [this, Bool.and_assoc]
    rfl
def idxM (ms : List Mom) (r : Int) : Int := match timeI ms r with
  | some i => ((i : Nat) : Int)
  | none => -1
theorem idxM_rng (ms : List Mom) (r : Int) : -1 ≤ idxM ms r ∧ idxM ms r < ms.length := by
  unfold idxM timeI
  split
  · rename_i i hi
    have := List.mem_range.1 (List.find?_range_eq_some.1 hi).2.1
    omega
  · omega
theorem timeM_yes {ms : List Mom} {r : Int} (h : ¬ idxM ms r < 0) : timeM ms r = ((ms.getD (idxM ms r).toNat MOM0).time, true) := by
  unfold timeM
  unfold idxM at h ⊢
  cases e : timeI ms r with
  | none => rw [e] at h; exact absurd (by decide : (-1 : Int) < 0) h
  | some i => rfl
theorem timeM_no {ms : List Mom} {r : Int} (h : idxM ms r < 0) : timeM ms r = (0, false) := by
  unfold timeM
  unfold idxM at h
  cases e : timeI ms r with
  | none => rfl
  | some i => rw [e] at h; simp at h; omega
def noteF (rs : List Rem) (n : Int) : Nat → Bool × Bs
  | 0 => (false, [])
  | k + 1 => if (rs.getD k REM0).ev = n then (true, (rs.getD k REM0).note) else noteF rs n k
def rnoteS (b : Book) (n : Int) (x : Evt) : Bool × Bs := if b.pol.note = 4 then noteF b.rs n b.rs.length else (x.noted, x.note)
/-! `(*incognito/unveil.reader).real` -/
theorem c_rreal (b : Book) (Ae : Option Addr) (ce : Nat) (Am : Option Addr) (cm : Nat) (Ar : Option Addr) (cr : Nat) (ds : List Int) (Ad : Option Addr) (cd : Nat) (p : Nat) (lo : Bool) (rb : Nat) (x : Val) {W0 : World} {H0 : Heap} {L0 : List Nat} {M0 : List Chunk} (w0 : World) (G : Heap) (hS0 : St W0 H0 L0 G w0 ([[(rb, Cells 61 (PC b [(14, .slice Ae b.es.length ce), (15, .slice Am b.ms.length cm), (16, .slice Ar b.rs.length cr), (17, .slice Ad ds.length cd), (18, .int .i64 (p : Int)), (19, .bool lo)]))]] ++ M0)) (hRe : Rd kEnt G Ae b.es) (hRm : Rd kMom G Am b.ms) (hRr : Rd kRem G Ar b.rs) (hle : b.es.length ≤ 1000000000) (hlm : b.ms.length ≤ 9223372036854775807) (hlr : b.rs.length ≤ 9223372036854775807) (hRd : Rd (Knd.int .i64) G Ad ds) (hp : p < ds.length) (hpm : ds.length ≤ 9000000000) (hds : ∀ d ∈ ds, 0 ≤ d):
  Calls Tryd.prog 17 #[.pointer (some ⟨rb, 0, none⟩), .agg #[.int .i64 x.k, .int .i64 x.n, str x.s]] w0 (X.Ends w0 G (X.keys (List.flatten [[(rb, Cells 61 (PC b [(14, .slice Ae b.es.length ce), (15, .slice Am b.ms.length cm), (16, .slice Ar b.rs.length cr), (17, .slice Ad ds.length cd), (18, .int .i64 (p : Int)), (19, .bool lo)]))]])) (fun v G' C' => v = .agg #[.int .i64 (oneS b (ds.getD p 0) x).1.k, .int .i64 (oneS b (ds.getD p 0) x).1.n, str (oneS b (ds.getD p 0) x).1.s] ∧ ∃ lo', C' = List.flatten [[(rb, Cells 61 (PC b [(14, .slice Ae b.es.length ce), (15, .slice Am b.ms.length cm), (16, .slice Ar b.rs.length cr), (17, .slice Ad ds.length cd), (18, .int .i64 ((p + 1 : Nat) : Int)), (19, .bool lo')]))]] ∧ lo' = (lo || !(oneS b (ds.getD p 0) x).2)) (fun _ _ _ => False)) := by
 refine enter Tryd.func17 rfl Tryd.ntmps17 rfl ?_
 intro Q hQ a E
 have hG := hS0.sub
 have S := St.startM (Ms := [[(rb, Cells 61 (PC b [(14, .slice Ae b.es.length ce), (15, .slice Am b.ms.length cm), (16, .slice Ar b.rs.length cr), (17, .slice Ad ds.length cd), (18, .int .i64 (p : Int)), (19, .bool lo)]))]]) hS0
 obtain ⟨K0, hK0⟩ : ∃ K, K = X.keys (List.flatten [[(rb, Cells 61 (PC b [(14, .slice Ae b.es.length ce), (15, .slice Am b.ms.length cm), (16, .slice Ar b.rs.length cr), (17, .slice Ad ds.length cd), (18, .int .i64 (p : Int)), (19, .bool lo)]))]]) := ⟨_, rfl⟩
 rw [← hK0] at S
 refine sr fun K hK => ?_
 refine o_bx3 E rfl S rfl ?_; clear E S; intro B3 w a S E
 refine o_allocZ E rfl S ?_; clear E S; intro B4 w a S E
 apply hK; clear hK K
 refine wp_seq_k (fun K3 hK2 => ?_)
 have hdn : 0 ≤ (ds.getD p 0) := hds _ (by rw [List.getD_eq_getElem?_getD, List.getElem?_eq_getElem hp]; exact List.getElem_mem hp)
 have hi4 : (p : Int).toNat < ds.length := by omega
 obtain ⟨eb4, eo4, hA4, el4⟩ := Rd.at hRd (List.getElem?_eq_getElem hi4); cases hA4
 rw [show ds[(p : Int).toNat] = (ds.getD p 0) from getD_get (i := p) hi4 _] at el4
 have el4 := kof_open el4
 refine drawnP [fun v => v = .pointer (some ⟨rb, 0, none⟩), fun v => v = .pointer (some ⟨rb, 0, none⟩), fun v => v = .pointer (some ⟨rb, 17, none⟩), fun v => v = .slice (some ⟨eb4, eo4, none⟩) ds.length cd, fun v => v = .pointer (some ⟨rb, 0, none⟩), fun v => v = .pointer (some ⟨rb, 0, none⟩), fun v => v = .pointer (some ⟨rb, 18, none⟩), fun v => v = .int .i64 (p : Int), fun v => v = .pointer (some ⟨eb4, eo4 + (p : Int).toNat * 1, none⟩), fun v => v = .int .i64 (ds.getD p 0), fun v => v = .int .i64 (ds.getD p 0)] T.mix rfl E S rfl ⟨?_, ?_, ?_, ?_, ?_, ?_, ?_, ?_, ?_, ?_, ?_, trivial⟩ ?_
 ·intro a w G1 hl S E hp
  refine o_move E rfl rfl ?_; clear E; intro a E
  exact ⟨_, _, S, rfl, E.get _ _ rfl, E.defers, rfl⟩
 ·intro a w G1 hl S E hp
  obtain ⟨_, e0, rfl⟩ := hp 0 8 _ rfl rfl rfl; replace E := E.add e0
  refine o_nil E rfl rfl ?_; clear E; intro a E
  exact ⟨_, _, S, rfl, E.get _ _ rfl, E.defers, rfl⟩
 ·intro a w G1 hl S E hp
  obtain ⟨_, e1, rfl⟩ := hp 1 9 _ rfl rfl rfl; replace E := E.add e1
  refine o_fld E rfl rfl T.f61_1 ?_; clear E; intro a E
  exact ⟨_, _, S, rfl, E.get _ _ rfl, E.defers, rfl⟩
 ·intro a w G1 hl S E hp
  obtain ⟨_, e2, rfl⟩ := hp 2 10 _ rfl rfl rfl; replace E := E.add e2
  refine o_ld E rfl S rfl T.s59 (.there (.there (.here .here))) rfl ?_; clear E; intro a E
  exact ⟨_, _, S, rfl, E.get _ _ rfl, E.defers, rfl⟩
 ·intro a w G1 hl S E hp
  refine o_move E rfl rfl ?_; clear E; intro a E
  exact ⟨_, _, S, rfl, E.get _ _ rfl, E.defers, rfl⟩
 ·intro a w G1 hl S E hp
  obtain ⟨_, e4, rfl⟩ := hp 4 12 _ rfl rfl rfl; replace E := E.add e4
  refine o_nil E rfl rfl ?_; clear E; intro a E
  exact ⟨_, _, S, rfl, E.get _ _ rfl, E.defers, rfl⟩
 ·intro a w G1 hl S E hp
  obtain ⟨_, e5, rfl⟩ := hp 5 13 _ rfl rfl rfl; replace E := E.add e5
  refine o_fld E rfl rfl T.f61_2 ?_; clear E; intro a E
  exact ⟨_, _, S, rfl, E.get _ _ rfl, E.defers, rfl⟩
 ·intro a w G1 hl S E hp
  obtain ⟨_, e6, rfl⟩ := hp 6 14 _ rfl rfl rfl; replace E := E.add e6
  refine o_ld E rfl S rfl T.s3 (.there (.there (.here .here))) rfl ?_; clear E; intro a E
  exact ⟨_, _, S, rfl, E.get _ _ rfl, E.defers, rfl⟩
 ·intro a w G1 hl S E hp
  obtain ⟨_, e3, rfl⟩ := hp 3 11 _ rfl rfl rfl; replace E := E.add e3
  obtain ⟨_, e7, rfl⟩ := hp 7 15 _ rfl rfl rfl; replace E := E.add e7
  refine o_ixL E rfl rfl rfl T.l59 ⟨by omega, by omega⟩ ?_; clear E; intro a E
  exact ⟨_, _, S, rfl, E.get _ _ rfl, E.defers, rfl⟩
 ·intro a w G1 hl S E hp
  obtain ⟨_, e8, rfl⟩ := hp 8 16 _ rfl rfl rfl; replace E := E.add e8
  refine o_ldI E rfl S rfl T.s3 (el4.le hl) (j := 0) rfl rfl ?_; clear E; intro a E
  exact ⟨_, _, S, rfl, E.get _ _ rfl, E.defers, rfl⟩
 ·intro a w G1 hl S E hp
  obtain ⟨_, e9, rfl⟩ := hp 9 17 _ rfl rfl rfl; replace E := E.add e9
  refine o_assign E rfl rfl ?_; clear E; intro a E
  exact ⟨_, _, S, rfl, E.get _ _ rfl, E.defers, rfl⟩
 clear E S; intro a w S E hp
 obtain ⟨_, e10, rfl⟩ := hp 10 5 _ rfl rfl; replace E := E.add e10
 clear hp
 refine hK2 _ _ ?_; clear hK2
 refine sr fun K hK => ?_
 refine rn 8 E S ?_; clear E S; intro a w E S
 apply hK; clear hK K
 refine wp_seq_k (fun K7 hK6 => ?_)
 refine sr fun K hK => ?_
 refine rn 3 E S ?_; clear E S; intro a w E S
 refine cutG 11 38 (.bool ((decide (4 < (ds.getD p 0))) || (decide ((wayP b.pol (ds.getD p 0)) = 0)))) E S ?_ ?_
 ·refine bsp E (t := 27) rfl (fun hb8 => ?_) (fun hb8 => ?_)
  ·refine rn 11 E S ?_; clear E S; intro a w E S
   exact ⟨S, E.cutT (by rw [hb8] <;> rfl)⟩
  ·have hk9 := nm hb8
   refine rn 6 E S ?_; clear E S; intro a w E S
   refine op_on E rfl rfl hb8 ?_
   refine o_ixA E rfl rfl rfl T.r25 (by omega) ?_; clear E; intro a E
   refine rn 1 E S ?_; clear E S; intro a w E S
   refine op_on E rfl rfl hb8 ?_
   refine o_ld E rfl S rfl T.s3 (.there (.there (.here .here))) (v := .int .i64 (wayP b.pol (ds.getD p 0))) (by (try have hbk := hb); (try simp only [Bool.not_eq_true', Bool.not_eq_false', Bool.and_eq_true, Bool.or_eq_false_iff, decide_eq_true_eq, decide_eq_false_iff_not] at hbk); have hd9 := hdn; rcases (show (ds.getD p 0) = 0 ∨ (ds.getD p 0) = 1 ∨ (ds.getD p 0) = 2 ∨ (ds.getD p 0) = 3 ∨ (ds.getD p 0) = 4 from by omega) with e | e | e | e | e <;> rw [e] <;> rfl) ?_; clear E; intro a E
   refine rn 2 E S ?_; clear E S; intro a w E S
   exact ⟨S, E.cutT (by rw [hb8] <;> rfl)⟩
 clear E S; intro a w E S
 refine rn 1 E S ?_; clear E S; intro a w E S
 refine cutG 9 48 (.bool (((decide (4 < (ds.getD p 0))) || (decide ((wayP b.pol (ds.getD p 0)) = 0))) || ((!decide (x.k = 1)) && (!decide (x.k = 2))))) E S ?_ ?_
 ·refine bsp E (t := 39) rfl (fun hb10 => ?_) (fun hb10 => ?_)
  ·refine rn 9 E S ?_; clear E S; intro a w E S
   exact ⟨S, E.cutT (by rw [hb10] <;> rfl)⟩
  ·have hk11 := nm hb10
   refine rn 4 E S ?_; clear E S; intro a w E S
   refine cutG 4 47 (.bool ((!decide (x.k = 1)) && (!decide (x.k = 2)))) E S ?_ ?_
   ·refine bsp E (t := 43) rfl (fun hb12 => ?_) (fun hb12 => ?_)
    ·have hk13 := nm hb12
     refine rn 4 E S ?_; clear E S; intro a w E S
     exact ⟨S, E.cutT (by rw [hb12] <;> rfl)⟩
    ·refine rn 4 E S ?_; clear E S; intro a w E S
     exact ⟨S, E.cutT (by rw [hb12] <;> rfl)⟩
   clear E S; intro a w E S
   refine rn 1 E S ?_; clear E S; intro a w E S
   exact ⟨S, E.cutT (by rw [hb10] <;> rfl)⟩
 clear E S; intro a w E S
 apply hK; clear hK K
 refine cond E rfl (fun h15r => ?_) (fun h15r => ?_)
 ·have h15 := nm h15r
  refine sr fun K hK => ?_
  refine rn 2 E S ?_; clear E S; intro a w E S
  apply hK; clear hK K
  refine rtE hQ E S ?_
  have he : oneS b (ds.getD p 0) x = (x, true) := by unfold oneS; rw [if_pos (show keepB b (ds.getD p 0) x = true from by have := h15r; unfold keepB; simpa using this)]
  replace S := S.drop (M' := [_]) (sub_drop (sub_drop (sub_keep sub_nil)))
  subst hK0
  rw [he]
  exact ⟨_, _, S.stop (List.Sublist.refl _), rfl, _, rfl, (Bool.or_false lo).symm⟩
 ·have h15 := nm h15r
  refine wp_skip ?_
  refine hK6 _ _ ?_; clear hK6
  refine wp_seq_k (fun K18 hK17 => ?_)
  replace E := E.cut (L' := [(0, .pointer (some ⟨rb, 0, none⟩)), (1, .agg #[.int .i64 x.k, .int .i64 x.n, str x.s]), (3, .pointer (some ⟨B3, 0, none⟩)), (4, .pointer (some ⟨B4, 0, none⟩)), (5, .int .i64 (ds.getD p 0)), (18, .pointer (some ⟨rb, 0, none⟩)), (19, .pointer (some ⟨rb, 0, none⟩)), (20, .pointer (some ⟨rb, 18, none⟩)), (21, .int .i64 (p : Int)), (22, .int .i64 ((p : Int) + 1)), (23, .pointer (some ⟨rb, 0, none⟩)), (24, .pointer (some ⟨rb, 18, none⟩)), (25, .int .i64 (ds.getD p 0)), (26, .bool (decide (4 < (ds.getD p 0)))), (27, .bool (decide (4 < (ds.getD p 0)))), (38, .bool ((decide (4 < (ds.getD p 0))) || (decide ((wayP b.pol (ds.getD p 0)) = 0)))), (39, .bool ((decide (4 < (ds.getD p 0))) || (decide ((wayP b.pol (ds.getD p 0)) = 0)))), (48, .bool (((decide (4 < (ds.getD p 0))) || (decide ((wayP b.pol (ds.getD p 0)) = 0))) || ((!decide (x.k = 1)) && (!decide (x.k = 2)))))]) ⟨rfl, rfl, rfl, rfl, rfl, rfl, rfl, rfl, rfl, rfl, rfl, rfl, rfl, rfl, rfl, rfl, rfl, rfl, trivial⟩
  refine drawnA (fun f tm G' w => G = G' ∧ ∃ X11_ : List Chunk, St w0 G K0 G' w (X11_ ++ [[(B4, Cells 49 [(0, .int .i64 0), (1, .int .i64 0), (2, str [])])], [(B3, Cells 49 [(0, .int .i64 x.k), (1, .int .i64 x.n), (2, str x.s)])], [(rb, Cells 61 (PC b [(14, .slice Ae b.es.length ce), (15, .slice Am b.ms.length cm), (16, .slice Ar b.rs.length cr), (17, .slice (some ⟨eb4, eo4, none⟩) ds.length cd), (18, .int .i64 ((p : Int) + 1)), (19, .bool lo)]))]]) ∧ ((f 11 = false ∧ X11_ = []) ∨ (f 11 = true ∧ ∃ B6 : Nat, tm 6 = some (.pointer (some ⟨B6, 0, none⟩)) ∧ X11_ = [[(B6, Cells 49 [(0, bif f 12 then .int .i64 ((realS b.es (ds.getD p 0) x).1.k) else .int .i64 0), (1, bif f 12 then .int .i64 ((realS b.es (ds.getD p 0) x).1.n) else .int .i64 0), (2, bif f 12 then str ((realS b.es (ds.getD p 0) x).1.s) else str [])])]]))) [fun v _ => v = .pointer (some ⟨rb, 0, none⟩), fun v _ => v = .pointer (some ⟨rb, 0, none⟩), fun v _ => v = .pointer (some ⟨rb, 0, none⟩), fun v _ => v = .pointer (some ⟨rb, 14, none⟩), fun v _ => v = .slice Ae b.es.length ce, fun v _ => v = .int .i64 (ds.getD p 0), fun v _ => v = .agg #[.int .i64 x.k, .int .i64 x.n, str x.s], fun v _ => v = .tuple #[.agg #[.int .i64 ((realS b.es (ds.getD p 0) x).1.k), .int .i64 ((realS b.es (ds.getD p 0) x).1.n), str ((realS b.es (ds.getD p 0) x).1.s)], .bool ((realS b.es (ds.getD p 0) x).2)], fun v _ => v = .tuple #[.agg #[.int .i64 ((realS b.es (ds.getD p 0) x).1.k), .int .i64 ((realS b.es (ds.getD p 0) x).1.n), str ((realS b.es (ds.getD p 0) x).1.s)], .bool ((realS b.es (ds.getD p 0) x).2)], fun v _ => v = .agg #[.int .i64 ((realS b.es (ds.getD p 0) x).1.k), .int .i64 ((realS b.es (ds.getD p 0) x).1.n), str ((realS b.es (ds.getD p 0) x).1.s)], fun v _ => v = .bool ((realS b.es (ds.getD p 0) x).2), fun _ _ => True, fun _ _ => True, fun v _ => v = .bool ((realS b.es (ds.getD p 0) x).2)] [] T.mix rfl E ⟨rfl, [], S.drew, .inl ⟨rfl, rfl⟩⟩ rfl (by simp) (AllM.get ⟨fun _ _ _ _ h => h, fun _ _ _ _ h => h, fun _ _ _ _ h => h, fun _ _ _ _ h => h, fun _ _ _ _ h => h, fun _ _ _ _ h => h, fun _ _ _ _ h => h, fun _ _ _ _ h => h, fun _ _ _ _ h => h, fun _ _ _ _ h => h, fun _ _ _ _ h => h, fun _ _ _ _ h => h, fun _ _ _ _ h => h, fun _ _ _ _ h => h, trivial⟩) ⟨?_, ?_, ?_, ?_, ?_, ?_, ?_, ?_, ?_, ?_, ?_, ?_, ?_, ?_, trivial⟩ ?_
  ·intro a w G1 f hcl hfi hon hW E hp hO; obtain ⟨rfl, X11_, S, hX11⟩ := hW
   rcases hX11 with ⟨hfa11, rfl⟩ | ⟨hfa11, B6, hB11, rfl⟩
   ·simp only [List.nil_append] at S
    refine o_move E rfl rfl ?_; clear E; intro a E
    exact ⟨_, _, Heap.le.refl _, ⟨rfl, [], S, .inl ⟨(by show (Nat.beq 11 0 || f 11) = false; rw [hfa11]; rfl), rfl⟩⟩, fun d hd => (by cases hd; exact E.get _ _ rfl), E.defers, rfl⟩
   ·replace E := E.add hB11; simp only [List.cons_append, List.nil_append] at S
    refine o_move E rfl rfl ?_; clear E; intro a E
    exact ⟨_, _, Heap.le.refl _, ⟨rfl, [_], S, .inr ⟨(by show (Nat.beq 11 0 || f 11) = true; rw [hfa11]; rfl), _, E.get _ _ rfl, rfl⟩⟩, fun d hd => (by cases hd; exact E.get _ _ rfl), E.defers, rfl⟩
  ·intro a w G1 f hcl hfi hon hW E hp hO; obtain ⟨rfl, X11_, S, hX11⟩ := hW
   obtain ⟨_, e0, rfl⟩ := hp 0 51 _ (hon 0 rfl) rfl rfl; replace E := E.add e0
   rcases hX11 with ⟨hfa11, rfl⟩ | ⟨hfa11, B6, hB11, rfl⟩
   ·simp only [List.nil_append] at S
    refine o_nil E rfl rfl ?_; clear E; intro a E
    exact ⟨_, _, Heap.le.refl _, ⟨rfl, [], S, .inl ⟨(by show (Nat.beq 11 1 || f 11) = false; rw [hfa11]; rfl), rfl⟩⟩, fun d hd => (by cases hd; exact E.get _ _ rfl), E.defers, rfl⟩
   ·replace E := E.add hB11; simp only [List.cons_append, List.nil_append] at S
    refine o_nil E rfl rfl ?_; clear E; intro a E
    exact ⟨_, _, Heap.le.refl _, ⟨rfl, [_], S, .inr ⟨(by show (Nat.beq 11 1 || f 11) = true; rw [hfa11]; rfl), _, E.get _ _ rfl, rfl⟩⟩, fun d hd => (by cases hd; exact E.get _ _ rfl), E.defers, rfl⟩
  ·intro a w G1 f hcl hfi hon hW E hp hO; obtain ⟨rfl, X11_, S, hX11⟩ := hW
   obtain ⟨_, e1, rfl⟩ := hp 1 52 _ (hon 1 rfl) rfl rfl; replace E := E.add e1
   rcases hX11 with ⟨hfa11, rfl⟩ | ⟨hfa11, B6, hB11, rfl⟩
   ·simp only [List.nil_append] at S
    refine o_fld E rfl rfl T.f61_0 ?_; clear E; intro a E
    exact ⟨_, _, Heap.le.refl _, ⟨rfl, [], S, .inl ⟨(by show (Nat.beq 11 2 || f 11) = false; rw [hfa11]; rfl), rfl⟩⟩, fun d hd => (by cases hd; exact E.get _ _ rfl), E.defers, rfl⟩
   ·replace E := E.add hB11; simp only [List.cons_append, List.nil_append] at S
    refine o_fld E rfl rfl T.f61_0 ?_; clear E; intro a E
    exact ⟨_, _, Heap.le.refl _, ⟨rfl, [_], S, .inr ⟨(by show (Nat.beq 11 2 || f 11) = true; rw [hfa11]; rfl), _, E.get _ _ rfl, rfl⟩⟩, fun d hd => (by cases hd; exact E.get _ _ rfl), E.defers, rfl⟩
  ·intro a w G1 f hcl hfi hon hW E hp hO; obtain ⟨rfl, X11_, S, hX11⟩ := hW
   obtain ⟨_, e2, rfl⟩ := hp 2 53 _ (hon 2 rfl) rfl rfl; replace E := E.add e2
   rcases hX11 with ⟨hfa11, rfl⟩ | ⟨hfa11, B6, hB11, rfl⟩
   ·simp only [List.nil_append] at S
    refine o_fld E rfl rfl T.f32_1 ?_; clear E; intro a E
    exact ⟨_, _, Heap.le.refl _, ⟨rfl, [], S, .inl ⟨(by show (Nat.beq 11 3 || f 11) = false; rw [hfa11]; rfl), rfl⟩⟩, fun d hd => (by cases hd; exact E.get _ _ rfl), E.defers, rfl⟩
   ·replace E := E.add hB11; simp only [List.cons_append, List.nil_append] at S
    refine o_fld E rfl rfl T.f32_1 ?_; clear E; intro a E
    exact ⟨_, _, Heap.le.refl _, ⟨rfl, [_], S, .inr ⟨(by show (Nat.beq 11 3 || f 11) = true; rw [hfa11]; rfl), _, E.get _ _ rfl, rfl⟩⟩, fun d hd => (by cases hd; exact E.get _ _ rfl), E.defers, rfl⟩
  ·intro a w G1 f hcl hfi hon hW E hp hO; obtain ⟨rfl, X11_, S, hX11⟩ := hW
   obtain ⟨_, e3, rfl⟩ := hp 3 54 _ (hon 3 rfl) rfl rfl; replace E := E.add e3
   rcases hX11 with ⟨hfa11, rfl⟩ | ⟨hfa11, B6, hB11, rfl⟩
   ·simp only [List.nil_append] at S
    refine o_ld E rfl S rfl T.s28 (.there (.there (.here .here))) rfl ?_; clear E; intro a E
    exact ⟨_, _, Heap.le.refl _, ⟨rfl, [], S, .inl ⟨(by show (Nat.beq 11 4 || f 11) = false; rw [hfa11]; rfl), rfl⟩⟩, fun d hd => (by cases hd; exact E.get _ _ rfl), E.defers, rfl⟩
   ·replace E := E.add hB11; simp only [List.cons_append, List.nil_append] at S
    refine o_ld E rfl S rfl T.s28 (.there (.there (.there (.here .here)))) rfl ?_; clear E; intro a E
    exact ⟨_, _, Heap.le.refl _, ⟨rfl, [_], S, .inr ⟨(by show (Nat.beq 11 4 || f 11) = true; rw [hfa11]; rfl), _, E.get _ _ rfl, rfl⟩⟩, fun d hd => (by cases hd; exact E.get _ _ rfl), E.defers, rfl⟩
  ·intro a w G1 f hcl hfi hon hW E hp hO; obtain ⟨rfl, X11_, S, hX11⟩ := hW
   rcases hX11 with ⟨hfa11, rfl⟩ | ⟨hfa11, B6, hB11, rfl⟩
   ·simp only [List.nil_append] at S
    refine o_move E rfl rfl ?_; clear E; intro a E
    exact ⟨_, _, Heap.le.refl _, ⟨rfl, [], S, .inl ⟨(by show (Nat.beq 11 5 || f 11) = false; rw [hfa11]; rfl), rfl⟩⟩, fun d hd => (by cases hd; exact E.get _ _ rfl), E.defers, rfl⟩
   ·replace E := E.add hB11; simp only [List.cons_append, List.nil_append] at S
    refine o_move E rfl rfl ?_; clear E; intro a E
    exact ⟨_, _, Heap.le.refl _, ⟨rfl, [_], S, .inr ⟨(by show (Nat.beq 11 5 || f 11) = true; rw [hfa11]; rfl), _, E.get _ _ rfl, rfl⟩⟩, fun d hd => (by cases hd; exact E.get _ _ rfl), E.defers, rfl⟩
  ·intro a w G1 f hcl hfi hon hW E hp hO; obtain ⟨rfl, X11_, S, hX11⟩ := hW
   rcases hX11 with ⟨hfa11, rfl⟩ | ⟨hfa11, B6, hB11, rfl⟩
   ·simp only [List.nil_append] at S
    refine o_ldA E rfl S rfl T.a49 (.there (.here .here)) rfl ?_; clear E; intro a E
    exact ⟨_, _, Heap.le.refl _, ⟨rfl, [], S, .inl ⟨(by show (Nat.beq 11 6 || f 11) = false; rw [hfa11]; rfl), rfl⟩⟩, fun d hd => (by cases hd; exact E.get _ _ rfl), E.defers, rfl⟩
   ·replace E := E.add hB11; simp only [List.cons_append, List.nil_append] at S
    refine o_ldA E rfl S rfl T.a49 (.there (.there (.here .here))) rfl ?_; clear E; intro a E
    exact ⟨_, _, Heap.le.refl _, ⟨rfl, [_], S, .inr ⟨(by show (Nat.beq 11 6 || f 11) = true; rw [hfa11]; rfl), _, E.get _ _ rfl, rfl⟩⟩, fun d hd => (by cases hd; exact E.get _ _ rfl), E.defers, rfl⟩
  ·intro a w G1 f hcl hfi hon hW E hp hO; obtain ⟨rfl, X11_, S, hX11⟩ := hW
   obtain ⟨_, e4, rfl⟩ := hp 4 55 _ (hon 4 rfl) rfl rfl; replace E := E.add e4
   obtain ⟨_, e5, rfl⟩ := hp 5 56 _ (hon 5 rfl) rfl rfl; replace E := E.add e5
   obtain ⟨_, e6, rfl⟩ := hp 6 57 _ (hon 6 rfl) rfl rfl; replace E := E.add e6
   rcases hX11 with ⟨hfa11, rfl⟩ | ⟨hfa11, B6, hB11, rfl⟩
   ·simp only [List.nil_append] at S
    refine o_callP E rfl S rfl rfl T.g35 (c_realN b.es (ds.getD p 0) x _ _ _ _ S.sub hRe (by omega)) ?_
    clear E S; rintro _ w a S rfl E
    exact ⟨_, _, Heap.le.refl _, ⟨rfl, [], S, .inl ⟨(by show (Nat.beq 11 7 || f 11) = false; rw [hfa11]; rfl), rfl⟩⟩, fun d hd => (by cases hd; exact E.get _ _ rfl), E.defers, rfl⟩
   ·replace E := E.add hB11; simp only [List.cons_append, List.nil_append] at S
    refine o_callP E rfl S rfl rfl T.g35 (c_realN b.es (ds.getD p 0) x _ _ _ _ S.sub hRe (by omega)) ?_
    clear E S; rintro _ w a S rfl E
    exact ⟨_, _, Heap.le.refl _, ⟨rfl, [_], S, .inr ⟨(by show (Nat.beq 11 7 || f 11) = true; rw [hfa11]; rfl), _, E.get _ _ rfl, rfl⟩⟩, fun d hd => (by cases hd; exact E.get _ _ rfl), E.defers, rfl⟩
  ·intro a w G1 f hcl hfi hon hW E hp hO; obtain ⟨rfl, X11_, S, hX11⟩ := hW
   obtain ⟨_, e7, rfl⟩ := hp 7 58 _ (hon 7 rfl) rfl rfl; replace E := E.add e7
   rcases hX11 with ⟨hfa11, rfl⟩ | ⟨hfa11, B6, hB11, rfl⟩
   ·simp only [List.nil_append] at S
    refine o_move E rfl rfl ?_; clear E; intro a E
    exact ⟨_, _, Heap.le.refl _, ⟨rfl, [], S, .inl ⟨(by show (Nat.beq 11 8 || f 11) = false; rw [hfa11]; rfl), rfl⟩⟩, fun d hd => (by cases hd; exact E.get _ _ rfl), E.defers, rfl⟩
   ·replace E := E.add hB11; simp only [List.cons_append, List.nil_append] at S
    refine o_move E rfl rfl ?_; clear E; intro a E
    exact ⟨_, _, Heap.le.refl _, ⟨rfl, [_], S, .inr ⟨(by show (Nat.beq 11 8 || f 11) = true; rw [hfa11]; rfl), _, E.get _ _ rfl, rfl⟩⟩, fun d hd => (by cases hd; exact E.get _ _ rfl), E.defers, rfl⟩
  ·intro a w G1 f hcl hfi hon hW E hp hO; obtain ⟨rfl, X11_, S, hX11⟩ := hW
   obtain ⟨_, e8, rfl⟩ := hp 8 50 _ (hon 8 rfl) rfl rfl; replace E := E.add e8
   rcases hX11 with ⟨hfa11, rfl⟩ | ⟨hfa11, B6, hB11, rfl⟩
   ·simp only [List.nil_append] at S
    refine o_extract E rfl rfl rfl ?_; clear E; intro a E
    exact ⟨_, _, Heap.le.refl _, ⟨rfl, [], S, .inl ⟨(by show (Nat.beq 11 9 || f 11) = false; rw [hfa11]; rfl), rfl⟩⟩, fun d hd => (by cases hd; exact E.get _ _ rfl), E.defers, rfl⟩
   ·replace E := E.add hB11; simp only [List.cons_append, List.nil_append] at S
    refine o_extract E rfl rfl rfl ?_; clear E; intro a E
    exact ⟨_, _, Heap.le.refl _, ⟨rfl, [_], S, .inr ⟨(by show (Nat.beq 11 9 || f 11) = true; rw [hfa11]; rfl), _, E.get _ _ rfl, rfl⟩⟩, fun d hd => (by cases hd; exact E.get _ _ rfl), E.defers, rfl⟩
  ·intro a w G1 f hcl hfi hon hW E hp hO; obtain ⟨rfl, X11_, S, hX11⟩ := hW
   obtain ⟨_, e8, rfl⟩ := hp 8 50 _ (hon 8 rfl) rfl rfl; replace E := E.add e8
   rcases hX11 with ⟨hfa11, rfl⟩ | ⟨hfa11, B6, hB11, rfl⟩
   ·simp only [List.nil_append] at S
    refine o_extract E rfl rfl rfl ?_; clear E; intro a E
    exact ⟨_, _, Heap.le.refl _, ⟨rfl, [], S, .inl ⟨(by show (Nat.beq 11 10 || f 11) = false; rw [hfa11]; rfl), rfl⟩⟩, fun d hd => (by cases hd; exact E.get _ _ rfl), E.defers, rfl⟩
   ·replace E := E.add hB11; simp only [List.cons_append, List.nil_append] at S
    refine o_extract E rfl rfl rfl ?_; clear E; intro a E
    exact ⟨_, _, Heap.le.refl _, ⟨rfl, [_], S, .inr ⟨(by show (Nat.beq 11 10 || f 11) = true; rw [hfa11]; rfl), _, E.get _ _ rfl, rfl⟩⟩, fun d hd => (by cases hd; exact E.get _ _ rfl), E.defers, rfl⟩
  ·intro a w G1 f hcl hfi hon hW E hp hO; obtain ⟨rfl, X11_, S, hX11⟩ := hW
   obtain ⟨_, rfl⟩ := hX11.resolve_right (fun h => by rw [hfi] at h; exact absurd h.1 (by decide)); simp only [List.nil_append] at S
   refine o_allocZ E rfl S ?_; clear E S; intro B6 w a S E
   have hfs12 : f 12 = false := by
    cases hq : f 12 with
    | false => rfl
    | true => (have := hcl 12 _ rfl hq 11 rfl; rw [hfi] at this; cases this)
   skip
   exact ⟨_, _, Heap.le.refl _, ⟨rfl, [_], S, .inr ⟨(by show (Nat.beq 11 11 || f 11) = true; rfl), _, E.get _ _ rfl, (by first | rfl | (simp only [updF, hfs12]; rfl))⟩⟩, fun d hd => (by cases hd; exact E.get _ _ rfl), E.defers, trivial⟩
  ·intro a w G1 f hcl hfi hon hW E hp hO; obtain ⟨rfl, X11_, S, hX11⟩ := hW
   obtain ⟨_, e9, rfl⟩ := hp 9 59 _ (hon 9 rfl) rfl rfl; replace E := E.add e9
   have hfa11 : f 11 = true := hon 11 rfl
   obtain ⟨_, B6, hB11, rfl⟩ := hX11.resolve_left (fun h => by rw [hfa11] at h; exact absurd h.1 (by decide)); replace E := E.add hB11; simp only [List.cons_append, List.nil_append] at S
   refine o_stA E S rfl rfl rfl T.a49 (.here .here) rfl ?_; clear S; intro w S
   replace S := S.conv (L2 := [(0, _), (1, _), (2, _)]) (.here .here) ⟨rfl, rfl, rfl, trivial⟩
   exact ⟨.bool true, _, Heap.le.refl _, ⟨rfl, [_], S, .inr ⟨(by show (Nat.beq 11 12 || f 11) = true; rw [hfa11]; rfl), _, E.get _ _ rfl, rfl⟩⟩, fun d hd => (by cases hd), E.defers, trivial⟩
  ·intro a w G1 f hcl hfi hon hW E hp hO; obtain ⟨rfl, X11_, S, hX11⟩ := hW
   obtain ⟨_, e10, rfl⟩ := hp 10 60 _ (hon 10 rfl) rfl rfl; replace E := E.add e10
   have hfa11 : f 11 = true := (hcl 12 _ rfl (hon 12 rfl) 11 rfl)
   obtain ⟨_, B6, hB11, rfl⟩ := hX11.resolve_left (fun h => by rw [hfa11] at h; exact absurd h.1 (by decide)); replace E := E.add hB11; simp only [List.cons_append, List.nil_append] at S
   refine o_assign E rfl rfl ?_; clear E; intro a E
   exact ⟨_, _, Heap.le.refl _, ⟨rfl, [_], S, .inr ⟨(by show (Nat.beq 11 13 || f 11) = true; rw [hfa11]; rfl), _, E.get _ _ rfl, rfl⟩⟩, fun d hd => (by cases hd; exact E.get _ _ rfl), E.defers, rfl⟩
  clear E S; intro a w _ f hle19 hall HW E hp; obtain ⟨rfl, X11_, S, hX11⟩ := HW; clear hle19
  have hfa11 := hall 11 (by decide); obtain ⟨_, B6, hB11, rfl⟩ := hX11.resolve_left (fun h => by rw [hfa11] at h; exact absurd h.1 (by decide)); replace E := E.add hB11; clear hX11
  have hfw12 := hall 12 (by decide)
  simp only [List.cons_append, List.nil_append, hfw12, cond_true] at S
  obtain ⟨_, e13, rfl⟩ := hp 13 7 _ rfl rfl; replace E := E.add e13
  clear hp hall
  refine hK17 _ _ ?_; clear hK17
  refine sr fun K hK => ?_
  refine rn 6 E S ?_; clear E S; intro a w E S
  refine cutG 3 69 (.bool (lo || (!((realS b.es (ds.getD p 0) x).2)))) E S ?_ ?_
  ·refine bsp E (t := 66) rfl (fun hb20 => ?_) (fun hb20 => ?_)
   ·refine rn 3 E S ?_; clear E S; intro a w E S
    exact ⟨S, E.cutT (by rw [hb20] <;> rfl)⟩
   ·have hk21 := nm hb20
    refine rn 3 E S ?_; clear E S; intro a w E S
    exact ⟨S, E.cutT (by rw [hb20] <;> rfl)⟩
  clear E S; intro a w E S
  refine rn 3 E S ?_; clear E S; intro a w E S
  apply hK; clear hK K
  refine sr fun K hK => ?_
  refine rn 2 E S ?_; clear E S; intro a w E S
  apply hK; clear hK K
  refine rtE hQ E S ?_
  have he : oneS b (ds.getD p 0) x = realS b.es (ds.getD p 0) x := by unfold oneS; rw [if_neg (show ¬ keepB b (ds.getD p 0) x = true from by have := h15r; unfold keepB; simpa using this)]
  replace S := S.drop (M' := [_]) (sub_drop (sub_drop (sub_drop (sub_keep sub_nil))))
  subst hK0
  rw [he]
  exact ⟨_, _, S.stop (List.Sublist.refl _), rfl, _, rfl, rfl⟩

/-! `(*incognito/unveil.reader).time$1` -/
theorem c_time1 (m : Mom) (r : Int) (rk : Nat) {W0 : World} {H0 : Heap} {L0 : List Nat} {M0 : List Chunk} (w0 : World) (G : Heap) (hS0 : St W0 H0 L0 G w0 ([[(rk, Cells 2 [(0, .int .i64 r)])]] ++ M0)) :
  Calls Tryd.prog 38 #[.agg #[.int .i64 m.rank, .int .i64 m.time], .pointer (some ⟨rk, 0, none⟩)] w0 (X.Ends w0 G (X.keys (List.flatten [[(rk, Cells 2 [(0, .int .i64 r)])]])) (fun v G' C' => v = .bool (decide (m.rank = r)) ∧ C' = List.flatten [[(rk, Cells 2 [(0, .int .i64 r)])]]) (fun _ _ _ => False)) := by
 refine enter Tryd.func38 rfl Tryd.ntmps38 rfl ?_
 intro Q hQ a E
 have hG := hS0.sub
 have S := St.startM (Ms := [[(rk, Cells 2 [(0, .int .i64 r)])]]) hS0
 obtain ⟨K0, hK0⟩ : ∃ K, K = X.keys (List.flatten [[(rk, Cells 2 [(0, .int .i64 r)])]]) := ⟨_, rfl⟩
 rw [← hK0] at S
 refine sr fun K hK => ?_
 refine o_bx2 E rfl S rfl ?_; clear E S; intro B2 w a S E
 refine rn 1 E S ?_; clear E S; intro a w E S
 apply hK; clear hK K
 refine sr fun K hK => ?_
 refine rn 5 E S ?_; clear E S; intro a w E S
 apply hK; clear hK K
 refine rtE hQ E S ?_
 replace S := S.drop (M' := [_]) (sub_drop (sub_keep sub_nil))
 subst hK0
 exact ⟨_, _, S.stop (List.Sublist.refl _), rfl, rfl⟩

/-! `slices.IndexFunc[[]incognito/api.Moment,incognito/api.Moment]` -/
theorem c_indexM (ms : List Mom) (A : Option Addr) (c : Nat) (r : Int) (rk : Nat) {W0 : World} {H0 : Heap} {L0 : List Nat} {M0 : List Chunk} (w0 : World) (G : Heap) (hS0 : St W0 H0 L0 G w0 ([[(rk, Cells 2 [(0, .int .i64 r)])]] ++ M0)) (hR : Rd kMom G A ms) (hl : ms.length ≤ 9223372036854775807):
  Calls Tryd.prog 37 #[.slice A ms.length c, .func (.func 38) #[] #[.pointer (some ⟨rk, 0, none⟩)]] w0 (X.Ends w0 G (X.keys (List.flatten [[(rk, Cells 2 [(0, .int .i64 r)])]])) (fun v G' C' => v = .int .i64 (idxM ms r) ∧ C' = List.flatten [[(rk, Cells 2 [(0, .int .i64 r)])]]) (fun _ _ _ => False)) := by
 refine enter Tryd.func37 rfl Tryd.ntmps37 rfl ?_
 intro Q hQ a E
 have hG := hS0.sub
 have S := St.startM (Ms := [[(rk, Cells 2 [(0, .int .i64 r)])]]) hS0
 obtain ⟨K0, hK0⟩ : ∃ K, K = X.keys (List.flatten [[(rk, Cells 2 [(0, .int .i64 r)])]]) := ⟨_, rfl⟩
 rw [← hK0] at S
 refine sr fun K hK => ?_
 refine rn 1 E S ?_; clear E S; intro a w E S
 apply hK; clear hK K
 refine wp_seq_k (fun K3 hK2 => ?_)
 refine sr fun K hK => ?_
 refine rn 3 E S ?_; clear E S; intro a w E S
 apply hK; clear hK K
 refine wp_block ?_
 refine loop (fun (i : Nat) a' w' => ∃ GL5, Heap.le G GL5 ∧ St w0 G K0 GL5 w' [[(rk, Cells 2 [(0, .int .i64 r)])]] ∧ Env a' 19 [] [(0, .slice A ms.length c), (1, .func (.func 38) #[] #[.pointer (some ⟨rk, 0, none⟩)]), (4, .int .i64 0), (6, .slice A ms.length c), (7, .int .i64 (ms.length : Int)), (8, .int .i64 (i : Int))] ∧ (i ≤ ms.length ∧ ∀ j, j < i → ¬ (ms.getD j MOM0).rank = r)) (fun (i : Nat) => ms.length - i) 0 ⟨_, Heap.le.refl _, S, E.cut ⟨rfl, rfl, rfl, rfl, rfl, rfl, trivial⟩, ⟨Nat.zero_le _, fun j hj => absurd hj (Nat.not_lt_zero _)⟩⟩ ?_
 clear E S; intro i a w ⟨GL5, hle6, S, E, ⟨hi, hall⟩⟩
 replace hR := hR.le hle6
 refine sr fun K hK => ?_
 refine rn 1 E S ?_; clear E S; intro a w E S
 apply hK; clear hK K
 refine wp_seq_k (fun K9 hK8 => ?_)
 refine cond E rfl (fun h10r => ?_) (fun h10r => ?_)
 ·have h10 := nm h10r
  refine wp_skip ?_
  refine hK8 _ _ ?_; clear hK8
  refine wp_seq_k (fun K12 hK11 => ?_)
  refine wp_block ?_
  refine sr fun K hK => ?_
  refine rn 2 E S ?_; clear E S; intro a w E S
  apply hK; clear hK K
  refine sr fun K hK => ?_
  refine rn 3 E S ?_; clear E S; intro a w E S
  have hi14 : (i : Int).toNat < ms.length := by omega
  obtain ⟨eb14, eo14, hA14, el14⟩ := Rd.at hR (List.getElem?_eq_getElem hi14); cases hA14
  rw [show ms[(i : Int).toNat] = (ms.getD i MOM0) from getD_get (i := i) hi14 _] at el14
  have el14 := kMom_open el14
  refine o_ixL E rfl rfl rfl T.l29 ⟨by omega, by omega⟩ ?_; clear E; intro a E
  refine o_ldIA E rfl S rfl el14 T.a74 ?_; clear E; intro a E
  refine o_callMs [[(rk, Cells 2 [(0, .int .i64 r)])]] (R0 := []) E rfl S rfl rfl T.g38 (c_time1 (M0 := []) (ms.getD i MOM0) r rk _ _ S) ?_
  clear E S; rintro _ G15 _ w a S hle15 ⟨rfl, rfl⟩ E
  replace S := S.unflat; simp only [List.cons_append, List.nil_append] at S
  replace hR := hR.le hle15
  apply hK; clear hK K
  refine cond E rfl (fun h17r => ?_) (fun h17r => ?_)
  ·have h17 := nm h17r
   refine sr fun K hK => ?_
   refine rn 2 E S ?_; clear E S; intro a w E S
   apply hK; clear hK K
   refine rtE hQ E S ?_
   have he : idxM ms r = (i : Int) := by unfold idxM; rw [timeI_hit (by omega) hall (by simpa using h17)]
   subst hK0
   rw [he]
   exact ⟨_, _, S.stop (List.Sublist.refl _), rfl, rfl⟩
  ·have h17 := nm h17r
   refine wp_skip ?_
   refine hK11 _ _ ?_; clear hK11
   refine wp_region_lit ?_
   refine rn 2 E S ?_; clear E S; intro a w E S
   have hall2 : ∀ j, j < i + 1 → ¬ (ms.getD j MOM0).rank = r := by
    intro j hj
    rcases Nat.lt_or_ge j i with h_9 | h_9
    ·exact hall j h_9
    ·obtain rfl : j = i := by omega
     simpa using h17
   exact ⟨i + 1, ⟨_, (hle6.trans hle15), S, E.cut ⟨rfl, rfl, rfl, rfl, rfl, rfl, trivial⟩, ⟨by omega, hall2⟩⟩, by omega⟩
 ·have h10 := nm h10r
  refine wp_exit ?_
  refine hK2 _ _ ?_; clear hK2
  refine sr fun K hK => ?_
  refine rn 1 E S ?_; clear E S; intro a w E S
  apply hK; clear hK K
  refine rtE hQ E S ?_
  have he : idxM ms r = -1 := by unfold idxM; rw [timeI_miss (fun j hj => hall j (by omega))]
  subst hK0
  rw [he]
  exact ⟨_, _, S.stop (List.Sublist.refl _), rfl, rfl⟩

/-! `(*incognito/unveil.reader).time` -/
theorem c_rtime (b : Book) (Ae : Option Addr) (ce : Nat) (Am : Option Addr) (cm : Nat) (Ar : Option Addr) (cr : Nat) (ds : List Int) (Ad : Option Addr) (cd : Nat) (p : Nat) (lo : Bool) (rb : Nat) (r : Int) {W0 : World} {H0 : Heap} {L0 : List Nat} {M0 : List Chunk} (w0 : World) (G : Heap) (hS0 : St W0 H0 L0 G w0 ([[(rb, Cells 61 (PC b [(14, .slice Ae b.es.length ce), (15, .slice Am b.ms.length cm), (16, .slice Ar b.rs.length cr), (17, .slice Ad ds.length cd), (18, .int .i64 (p : Int)), (19, .bool lo)]))]] ++ M0)) (hRe : Rd kEnt G Ae b.es) (hRm : Rd kMom G Am b.ms) (hRr : Rd kRem G Ar b.rs) (hle : b.es.length ≤ 1000000000) (hlm : b.ms.length ≤ 9223372036854775807) (hlr : b.rs.length ≤ 9223372036854775807) (hRd : Rd (Knd.int .i64) G Ad ds):
  Calls Tryd.prog 19 #[.pointer (some ⟨rb, 0, none⟩), .int .i64 r] w0 (X.Ends w0 G (X.keys (List.flatten [[(rb, Cells 61 (PC b [(14, .slice Ae b.es.length ce), (15, .slice Am b.ms.length cm), (16, .slice Ar b.rs.length cr), (17, .slice Ad ds.length cd), (18, .int .i64 (p : Int)), (19, .bool lo)]))]])) (fun v G' C' => v = .int .i64 (timeS b r).1 ∧ ∃ lo', C' = List.flatten [[(rb, Cells 61 (PC b [(14, .slice Ae b.es.length ce), (15, .slice Am b.ms.length cm), (16, .slice Ar b.rs.length cr), (17, .slice Ad ds.length cd), (18, .int .i64 (p : Int)), (19, .bool lo')]))]] ∧ lo' = (lo || !(timeS b r).2)) (fun _ _ _ => False)) := by
 refine enter Tryd.func19 rfl Tryd.ntmps19 rfl ?_
 intro Q hQ a E
 have hG := hS0.sub
 have S := St.startM (Ms := [[(rb, Cells 61 (PC b [(14, .slice Ae b.es.length ce), (15, .slice Am b.ms.length cm), (16, .slice Ar b.rs.length cr), (17, .slice Ad ds.length cd), (18, .int .i64 (p : Int)), (19, .bool lo)]))]]) hS0
 obtain ⟨K0, hK0⟩ : ∃ K, K = X.keys (List.flatten [[(rb, Cells 61 (PC b [(14, .slice Ae b.es.length ce), (15, .slice Am b.ms.length cm), (16, .slice Ar b.rs.length cr), (17, .slice Ad ds.length cd), (18, .int .i64 (p : Int)), (19, .bool lo)]))]]) := ⟨_, rfl⟩
 rw [← hK0] at S
 refine sr fun K hK => ?_
 refine o_bx1 E rfl S rfl rfl ?_; clear E S; intro B3 w a S E
 refine rn 1 E S ?_; clear E S; intro a w E S
 apply hK; clear hK K
 refine wp_seq_k (fun K3 hK2 => ?_)
 refine sr fun K hK => ?_
 refine rn 7 E S ?_; clear E S; intro a w E S
 apply hK; clear hK K
 refine cond E rfl (fun h5r => ?_) (fun h5r => ?_)
 ·have h5 := nm h5r
  refine sr fun K hK => ?_
  refine rn 2 E S ?_; clear E S; intro a w E S
  apply hK; clear hK K
  refine rtE hQ E S ?_
  have he : timeS b r = (r, true) := by unfold timeS; rw [if_neg (by simpa using h5)]
  replace S := S.drop (M' := [_]) (sub_drop (sub_keep sub_nil))
  subst hK0
  rw [he]
  exact ⟨_, _, S.stop (List.Sublist.refl _), rfl, _, rfl, (Bool.or_false lo).symm⟩
 ·have h5 := nm h5r
  refine wp_skip ?_
  refine hK2 _ _ ?_; clear hK2
  refine sr fun K hK => ?_
  refine rn 6 E S ?_; clear E S; intro a w E S
  refine o_callMs [[(B3, Cells 2 [(0, .int .i64 r)])]] (R0 := [[(rb, Cells 61 (PC b [(14, .slice Ae b.es.length ce), (15, .slice Am b.ms.length cm), (16, .slice Ar b.rs.length cr), (17, .slice Ad ds.length cd), (18, .int .i64 (p : Int)), (19, .bool lo)]))]]) E rfl S rfl rfl T.g37 (c_indexM (M0 := [[(rb, Cells 61 (PC b [(14, .slice Ae b.es.length ce), (15, .slice Am b.ms.length cm), (16, .slice Ar b.rs.length cr), (17, .slice Ad ds.length cd), (18, .int .i64 (p : Int)), (19, .bool lo)]))]]) b.ms _ _ r B3 _ _ S hRm (by omega)) ?_
  clear E S; rintro _ G7 _ w a S hle7 ⟨rfl, rfl⟩ E
  replace S := S.unflat; simp only [List.cons_append, List.nil_append] at S
  replace hRe := hRe.le hle7
  replace hRm := hRm.le hle7
  replace hRr := hRr.le hle7
  replace hRd := hRd.le hle7
  refine rn 1 E S ?_; clear E S; intro a w E S
  apply hK; clear hK K
  refine wp_seq_k (fun K10 hK9 => ?_)
  refine sr fun K hK => ?_
  have hir := idxM_rng b.ms r
  refine rn 2 E S ?_; clear E S; intro a w E S
  apply hK; clear hK K
  refine cond E rfl (fun h12r => ?_) (fun h12r => ?_)
  ·have h12 := nm h12r
   refine sr fun K hK => ?_
   refine rn 4 E S ?_; clear E S; intro a w E S
   apply hK; clear hK K
   refine sr fun K hK => ?_
   refine rn 1 E S ?_; clear E S; intro a w E S
   apply hK; clear hK K
   refine rtE hQ E S ?_
   have he : timeS b r = (0, false) := by unfold timeS; rw [if_pos (by simpa using h5), timeM_no (by simpa using h12)]
   replace S := S.drop (M' := [_]) (sub_drop (sub_keep sub_nil))
   subst hK0
   rw [he]
   exact ⟨_, _, S.stop (List.Sublist.refl _), rfl, _, rfl, (Bool.or_true lo).symm⟩
  ·have h12 := nm h12r
   refine wp_skip ?_
   refine hK9 _ _ ?_; clear hK9
   refine sr fun K hK => ?_
   refine rn 6 E S ?_; clear E S; intro a w E S
   have hi15 : (idxM b.ms r).toNat < b.ms.length := by omega
   obtain ⟨eb15, eo15, hA15, el15⟩ := Rd.at hRm (List.getElem?_eq_getElem hi15); cases hA15
   rw [show b.ms[(idxM b.ms r).toNat] = (b.ms.getD (idxM b.ms r).toNat MOM0) from getD_get (i := (idxM b.ms r).toNat) hi15 _] at el15
   have el15 := kMom_open el15
   refine o_ixL E rfl rfl rfl T.l29 ⟨by omega, by omega⟩ ?_; clear E; intro a E
   refine rn 1 E S ?_; clear E S; intro a w E S
   refine o_ldI E rfl S rfl T.s2 el15 (j := 1) rfl rfl ?_; clear E; intro a E
   refine rn 1 E S ?_; clear E S; intro a w E S
   apply hK; clear hK K
   refine rtE hQ E S ?_
   have he : timeS b r = ((b.ms.getD (idxM b.ms r).toNat MOM0).time, true) := by unfold timeS; rw [if_pos (by simpa using h5), timeM_yes (by simpa using h12)]
   replace S := S.drop (M' := [_]) (sub_drop (sub_keep sub_nil))
   subst hK0
   rw [he]
   exact ⟨_, _, S.stop (List.Sublist.refl _), rfl, _, rfl, (Bool.or_false lo).symm⟩
end Go.Proofs.YtnfadpkhjfillaaDoor.T28
