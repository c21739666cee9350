/- Own text. -/
import Derived.Test.YtngoaapgdfohjaaGreatDoorV3
set_option linter.unusedVariables false
set_option linter.unusedSimpArgs false
set_option maxRecDepth 100000
namespace Go.Proofs.YtngoaapgdfohjaaGreatDoor.T27
open Go Go.Proofs.YtngoaapgdfohjaaGreatDoor.X Go.Proofs Go.Proofs.YtngoaapgdfohjaaGreatDoor.T28 Go.Proofs.YtngoaapgdfohjaaGreatDoor.TS Go.Proofs.YtngoaapgdfohjaaGreatDoor.TK
/-! ## The whole text of a right book, read again (plain) -/
def linesB (b : Book) : List Bs := (ttl :: (keysP b.pol).map (sLine b.pol)) ++ (b.es.map entT ++ (b.ms.map momT ++ b.rs.map remT))
structure BkR (b : Book) : Prop where
  p : rightB b.pol = true
  e : ∀ x ∈ b.es, EntR x
  m : ∀ x ∈ b.ms, I64 x.rank ∧ I64 x.time
  r : ∀ x ∈ b.rs, (1 ≤ x.event ∧ x.event ≤ 4096) ∧ 10 ∉ x.note ∧ x.note.length ≤ 100
theorem no_nl {s : Bs} (h : ¬ 0 ≤ Lib.indexByte s 10) : 10 ∉ s := by
  intro hm
  have h1 := Lib.indexByte_ge s 10
  obtain ⟨k, hk, e⟩ := List.getElem_of_mem hm
  refine Lib.indexByte_none (l := s) (c := 10) (by omega) k ?_
  rw [List.getElem?_eq_getElem hk, e]
theorem book_R {b : Book} (h : bookB b = true) (hw : ∀ x ∈ b.es, x.name.Wf ∧ x.real.Wf) (hm : ∀ x ∈ b.ms, I64 x.rank ∧ I64 x.time) : BkR b := by
  unfold bookB at h
  simp only [Bool.and_eq_true] at h
  obtain ⟨⟨⟨h1, h2⟩, h3⟩, h4⟩ := h
  refine ⟨h1, fun x hx => ?_, hm, fun x hx => ?_⟩
  · obtain ⟨i, hi, e⟩ := List.getElem_of_mem hx
    have := List.all_eq_true.1 h2 i (List.mem_range.2 hi)
    unfold entOk at this
    rw [Bool.and_eq_true] at this
    have h5 := this.1
    have ex : ENTd b i = x := by
      unfold ENTd
      rw [List.getD_eq_getElem?_getD, List.getElem?_eq_getElem hi, e]
      rfl
    rw [ex] at h5
    unfold headB nameB at h5
    simp only [Bool.not_eq_true', Bool.or_eq_false_iff, decide_eq_false_iff_not, Bool.not_eq_false', Bool.and_eq_true] at h5
    obtain ⟨⟨⟨⟨a1, a2⟩, a3⟩, a4⟩, a5⟩ := h5
    exact ⟨⟨by omega, by omega⟩, a4.1, a5.1, (hw x hx).1.n, (hw x hx).2.n⟩
  · obtain ⟨i, hi, e⟩ := List.getElem_of_mem hx
    unfold remsB at h4
    rw [Bool.and_eq_true] at h4
    have := List.all_eq_true.1 h4.2 i (List.mem_range.2 hi)
    have ex : b.rs.getD i REM0 = x := by
      rw [List.getD_eq_getElem?_getD, List.getElem?_eq_getElem hi, e]
      rfl
    unfold remOk plainB at this
    rw [ex] at this
    simp only [Bool.not_eq_true', Bool.or_eq_false_iff, decide_eq_false_iff_not, Bool.not_eq_false', Bool.and_eq_true, decide_eq_true_eq] at this
    obtain ⟨⟨⟨a1, a2⟩, a3⟩, a4, a5⟩ := this
    exact ⟨⟨by omega, by omega⟩, no_nl a4, by omega⟩
theorem linesB_no {b : Book} (h : BkR b) : ∀ l ∈ linesB b, 10 ∉ l := by
  intro l hl
  simp only [linesB, List.mem_append, List.mem_cons, List.mem_map] at hl
  rcases hl with (rfl | ⟨k, hk, rfl⟩) | ⟨x, hx, rfl⟩ | ⟨x, hx, rfl⟩ | ⟨x, hx, rfl⟩
  · decide
  · exact (sLine_plain h.p hk).1
  · exact (oks (l := entV x) (by simp [entV]) (h.e x hx).ok).2.2
  · exact (oks (l := momV x) (by simp [momV]) (momV_ok x)).2.2
  · intro hm
    unfold remT at hm
    rcases List.mem_append.1 hm with hm | hm
    · rcases List.mem_append.1 hm with hm | hm
      · exact (oks (l := remV x) (by simp [remV]) (remV_ok x)).2.2 hm
      · revert hm; decide
    · exact (h.r x hx).2.1 hm
theorem openS_eq {b : Book} (h : BkR b) : openS b = (linesB b).flatMap (· ++ [10]) := by
  have e1 : b.es.flatMap entL = (b.es.map entT).flatMap (· ++ [10]) := by
    rw [List.flatMap_map]; congr 1; funext x; exact entL_eq x
  have e2 : b.ms.flatMap momL = (b.ms.map momT).flatMap (· ++ [10]) := by
    rw [List.flatMap_map]; congr 1; funext x; exact momL_eq x
  have e3 : b.rs.flatMap remL = (b.rs.map remT).flatMap (· ++ [10]) := by
    rw [List.flatMap_map]; congr 1; funext x; exact remL_eq x
  have e4 : hdS b = (ttl :: (keysP b.pol).map (sLine b.pol)).flatMap (· ++ [10]) := by
    unfold hdS printR
    rw [if_pos h.p]
    rfl
  unfold openS linesB
  rw [e1, e2, e3, e4, List.flatMap_append, List.flatMap_append, List.flatMap_append, List.append_assoc, List.append_assoc]
/-- No row begins as the words behind the policy's seven lines. -/
theorem ruledN_rows (b : Book) : ruledN (b.es.map entT ++ (b.ms.map momT ++ b.rs.map remT)) = 0 := by
  have hz : ∀ (c : UInt8) (x : Bs) (r : List Bs), (c = 110 ∨ c = 116) → ruledN ((c :: x) :: r) = 0 := by
    intro c x r hc
    have h1 : ((c :: x) == sLo) = false := by
      rcases hc with rfl | rfl <;> simp [sLo]
    have h2 : ((c :: x) == sFo) = false := by
      rcases hc with rfl | rfl <;> simp [sFo]
    rw [ruledN, h1, h2]
    rfl
  match b.es, b.ms, b.rs with
  | x :: l, ms, rs => exact hz 110 _ _ (.inl rfl)
  | [], x :: l, rs => exact hz 116 _ _ (.inr rfl)
  | [], [], x :: l => exact hz 110 _ _ (.inl rfl)
  | [], [], [] => rfl
theorem nRul_B (b : Book) : nRul (linesB b) = 1 + (keysP b.pol).length := by
  have hr := ruledN_rows b
  unfold nRul linesB
  generalize b.es.map entT ++ (b.ms.map momT ++ b.rs.map remT) = r at hr ⊢
  unfold keysP
  cases b.pol.loose <;> cases b.pol.force
  · show 8 + ruledN r = 8
    rw [hr]
  · show 8 + ruledN (sFo :: r) = 9
    rw [ruledN, hr]; rfl
  · show 8 + ruledN (sLo :: r) = 9
    rw [ruledN, hr]; rfl
  · show 8 + ruledN (sLo :: sFo :: r) = 10
    rw [ruledN, ruledN, hr]; rfl
theorem read_print {b : Book} (hb : bookB b = true) (h : BkR b) : readS (openS b) = some b := by
  have hl : linesS (openS b) = (linesB b, 0) := by rw [openS_eq h]; exact linesS_of (linesB_no h)
  unfold readS
  rw [hl]
  dsimp only
  rw [if_pos rfl]
  have hn := nRul_B b
  have hk := keys_len b.pol
  have hp : polT (linesB b) (nRul (linesB b)) = ((keysP b.pol).map (sLine b.pol)).flatMap (· ++ [10]) := by
    unfold polT
    rw [hn]
    congr 1
    rw [show 1 + (keysP b.pol).length - 1 = ((keysP b.pol).map (sLine b.pol)).length by simp]
    show (((keysP b.pol).map (sLine b.pol)) ++ _).take _ = _
    rw [List.take_left']
    rfl
  have hpp : parseP (polT (linesB b) (nRul (linesB b))) = (b.pol, 0) := by
    rw [hp]
    exact parse_keys h.p (fun k hk => hk) (keys_nodup _) fun k hk => .inl hk
  have hrest : (linesB b).drop (nRul (linesB b)) = b.es.map entT ++ (b.ms.map momT ++ b.rs.map remT) := by
    unfold linesB at hn ⊢
    rw [hn, List.drop_left']
    simp only [List.length_cons, List.length_map]
    omega
  have hhead : headOk (linesB b) = true := by
    unfold headOk
    have h1 : 8 ≤ ((linesB b).length : Int) := by
      unfold linesB
      simp only [List.length_append, List.length_cons, List.length_map]
      omega
    rw [decide_eq_true h1]
    show (true && (ttl == ttl)) = true
    rw [beq_self_eq_true]
    rfl
  unfold readL
  rw [hpp, hrest]
  dsimp only
  rw [if_pos ⟨hhead, rfl⟩]
  have hrows : rowsS (bkP b.pol) (b.es.map entT ++ (b.ms.map momT ++ b.rs.map remT)) = some b := by
    rw [rowsS_app (rowsS_es b.es (bkP b.pol) h.e), rowsS_app (rowsS_ms b.ms _ h.m), rowsS_rs b.rs _ h.r]
    simp [bkP]
  rw [hrows]
  dsimp only
  rw [if_pos]
  unfold endOk
  rw [hb, beq_self_eq_true]
  rfl
/-! ## A sealed text, cut again -/
theorem trim_snoc (s : Bs) (c : UInt8) : Lib.trimSuffix (s ++ [c]) [c] = s ∧ Lib.hasSuffix (s ++ [c]) [c] = true := by
  have h : Lib.hasSuffix (s ++ [c]) [c] = true := by
    unfold Lib.hasSuffix
    exact List.isSuffixOf_iff_suffix.2 (List.suffix_append _ _)
  refine ⟨?_, h⟩
  unfold Lib.trimSuffix
  rw [if_pos h]
  simp
theorem trim_pre (p s : Bs) : Lib.trimPrefix (p ++ s) p = s ∧ Lib.hasPrefix (p ++ s) p = true := by
  have h : Lib.hasPrefix (p ++ s) p = true := by
    unfold Lib.hasPrefix
    exact List.isPrefixOf_iff_prefix.2 (List.prefix_append _ _)
  refine ⟨?_, h⟩
  unfold Lib.trimPrefix
  rw [if_pos h]
  simp
theorem sign_digs : ∀ n : Fin 256, ∃ x y : UInt8, txt (pairR (n.val : Int)) = [x, y] ∧ digI (x.toNat : Int) = (n.val : Int) / 16 ∧ digI (y.toNat : Int) = (n.val : Int) % 16 ∧ x ≠ 10 ∧ y ≠ 10 := by
  intro n
  refine ⟨UInt8.ofNat (signR ((n.val : Int) / 16)).toNat, UInt8.ofNat (signR ((n.val : Int) % 16)).toNat, rfl, ?_⟩
  revert n
  decide +kernel
theorem encR_cons {v : Int} (h : 0 ≤ v ∧ v < 256) : ∃ x y : UInt8, (∀ l, encR (v :: l) = x :: y :: encR l) ∧ digI (x.toNat : Int) = v / 16 ∧ digI (y.toNat : Int) = v % 16 ∧ x ≠ 10 ∧ y ≠ 10 := by
  obtain ⟨x, y, h1, h2⟩ := sign_digs ⟨v.toNat, by omega⟩
  have e : ((v.toNat : Nat) : Int) = v := by omega
  dsimp only at h1 h2
  rw [e] at h1 h2
  refine ⟨x, y, fun l => ?_, h2⟩
  show txt (pairR v) ++ encR l = _
  rw [h1]
  rfl
theorem encR_ok : ∀ {l : List Int}, Oc l → hexOk (encR l) ∧ decS (encR l) = l ∧ 10 ∉ encR l
  | [], _ => ⟨⟨rfl, fun i hi => absurd hi (Nat.not_lt_zero _)⟩, rfl, by simp [encR]⟩
  | v :: l, h => by
    have hv := h v List.mem_cons_self
    obtain ⟨x, y, e, dx, dy, nx, ny⟩ := encR_cons hv
    obtain ⟨h1, h2, h3⟩ := encR_ok (l := l) fun z hz => h z (List.mem_cons_of_mem _ hz)
    rw [e l]
    refine ⟨⟨?_, fun i hi => ?_⟩, ?_, ?_⟩
    · have := h1.1
      simp only [List.length_cons]
      omega
    · match i, hi with
      | 0, _ =>
        show 0 ≤ digI (x.toNat : Int)
        rw [dx]; omega
      | 1, _ =>
        show 0 ≤ digI (y.toNat : Int)
        rw [dy]; omega
      | i + 2, hi =>
        have h5 := h1.2 i (by simp only [List.length_cons] at hi; omega)
        exact h5
    · rw [decS_cons, h2, dx, dy]
      congr 1
      omega
    · intro hm
      rcases List.mem_cons.1 hm with rfl | hm
      · exact nx rfl
      rcases List.mem_cons.1 hm with rfl | hm
      · exact ny rfl
      · exact h3 hm
theorem lastI_at {s r : Bs} (h : 10 ∉ r) : lastI (s ++ 10 :: r) = (s.length : Int) := by
  unfold lastI
  have hs : (ByteArray.mk (s ++ 10 :: r).toArray).size = s.length + 1 + r.length := by simp [ByteArray.size]; omega
  have hv : ∀ j (hj : j < (s ++ 10 :: r).length), (ByteArray.mk (s ++ 10 :: r).toArray).data[j]! = (s ++ 10 :: r)[j] := fun j hj => by
    show (s ++ 10 :: r).toArray[j]! = _
    rw [getElem!_pos _ _ (by simpa using hj)]
    simp
  have hlen : (s ++ 10 :: r).length = s.length + 1 + r.length := by simp; omega
  have h0 : (s ++ 10 :: r)[s.length]'(by omega) = 10 := by simp
  have hb : ((10 : UInt8).toNat : Int) = 10 := rfl
  rcases Lib.lastIndexByte_spec ⟨(s ++ 10 :: r).toArray⟩ 10 with ⟨_, hn⟩ | ⟨i, hi, e, hc, hn⟩
  · refine absurd ?_ (hn s.length (by omega))
    rw [hv _ (by omega), h0]
    rfl
  · rw [e]
    rcases Nat.lt_trichotomy i s.length with hlt | heq | hgt
    · refine absurd ?_ (hn s.length hlt (by omega))
      rw [hv _ (by omega), h0]
      rfl
    · rw [heq]
    · exfalso
      rw [hv _ (by omega)] at hc
      have hr : (s ++ 10 :: r)[i]'(by omega) = r[i - s.length - 1]'(by omega) := by
        rw [List.getElem_append_right (by omega)]
        obtain ⟨k, hk⟩ : ∃ k, i - s.length = k + 1 := ⟨i - s.length - 1, by omega⟩
        simp only [hk, List.getElem_cons_succ, Nat.add_sub_cancel]
      rw [hr] at hc
      have hm : r[i - s.length - 1]'(by omega) ∈ r := List.getElem_mem _
      have e10 : r[i - s.length - 1]'(by omega) = 10 := by
        apply UInt8.toNat_inj.1
        show _ = 10
        omega
      exact h (e10 ▸ hm)
theorem flat_nl : ∀ (l : List Bs), l ≠ [] → ∃ s0, l.flatMap (· ++ [10]) = s0 ++ [10]
  | [], h => absurd rfl h
  | [x], _ => ⟨x, by simp⟩
  | x :: y :: r, _ => by
    obtain ⟨s0, h⟩ := flat_nl (y :: r) (by simp)
    exact ⟨x ++ [10] ++ s0, by rw [List.flatMap_cons, h, List.append_assoc (x ++ [10])]⟩
theorem sealS_eq (key : List Int) (s : Bs) : sealS key s = sealW ++ (encR (macR key (byts s)) ++ [10]) := by
  unfold sealS
  rw [List.append_assoc]
  rfl
theorem cut_at {s0 d : Bs} (h : 10 ∉ d) : cutN (s0 ++ [10] ++ (sealW ++ (d ++ [10]))) = (s0 ++ [10]).length := by
  unfold cutN
  rw [show s0 ++ [10] ++ (sealW ++ (d ++ [10])) = (s0 ++ 10 :: (sealW ++ d)) ++ [10] by simp, (trim_snoc _ _).1, lastI_at (fun hm => by
    rcases List.mem_append.1 hm with hm | hm
    · revert hm; decide
    · exact h hm)]
  simp
theorem parse_sealed {b : Book} (hb : bookB b = true) (h : BkR b) (key key2 : List Int) (ho : Oc key) :
    parseB key (openS b ++ sealS key2 (openS b)) = if macR key2 (byts (openS b)) = macR key (byts (openS b)) then (b, 0) else (BK0, 11) := by
  obtain ⟨s0, hs⟩ := flat_nl (linesB b) (by simp [linesB])
  rw [← openS_eq h] at hs
  have hr := read_print hb h
  rw [sealS_eq]
  obtain ⟨k1, k2, k3⟩ := encR_ok (macR_oc key2 (byts (openS b)))
  have k4 : (encR (macR key2 (byts (openS b)))).length = 64 := encR_mac key2 (openS b)
  generalize hd : encR (macR key2 (byts (openS b))) = d at k1 k2 k3 k4 ⊢
  have hc : cutN (openS b ++ (sealW ++ (d ++ [10]))) = (openS b).length := by rw [hs]; exact cut_at k3
  have ht : (openS b ++ (sealW ++ (d ++ [10]))).take (cutN (openS b ++ (sealW ++ (d ++ [10])))) = openS b := by rw [hc, List.take_left']; rfl
  have hp : preS (openS b ++ (sealW ++ (d ++ [10]))) = d ++ [10] := by
    unfold preS
    rw [hc, List.drop_left' rfl, (trim_pre _ _).1]
  have hg : dgsS (openS b ++ (sealW ++ (d ++ [10]))) = d := by
    unfold dgsS
    rw [hp, (trim_snoc _ _).1]
  have ok : sealOk (openS b ++ (sealW ++ (d ++ [10]))) := by
    refine ⟨?_, ?_, ?_, ?_⟩
    · rw [hc, List.drop_left' rfl]; exact (trim_pre _ _).2
    · rw [hp]; exact (trim_snoc _ _).2
    · rw [hg]; exact k1
    · rw [hg]; exact k4
  unfold parseB
  rw [if_pos ok, ht, hr, hg]
  dsimp only
  rw [k2, mac_RS key ho]
theorem seal_same {key key2 : List Int} {s : Bs} : sealS key2 s = sealS key s ↔ macR key2 (byts s) = macR key (byts s) := by
  constructor
  · intro h
    rw [sealS_eq, sealS_eq] at h
    have h2 := List.append_cancel_right (List.append_cancel_left h)
    rw [← (encR_ok (macR_oc key2 (byts s))).2.1, h2, (encR_ok (macR_oc key (byts s))).2.1]
  · intro h
    unfold sealS
    rw [h]
end Go.Proofs.YtngoaapgdfohjaaGreatDoor.T27
