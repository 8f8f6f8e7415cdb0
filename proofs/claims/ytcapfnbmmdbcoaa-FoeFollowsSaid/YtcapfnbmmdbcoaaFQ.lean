/- FoeFollows, plainly: all that is made follows of what was seen and of the stranger's own draws; the two secrets don't. -/
import Derived.Test.YtcapfnbmmdbcoaaFA
set_option linter.unusedVariables false
set_option linter.unusedSimpArgs false
namespace Go.Proofs.Ytcapfnbmmdbcoaa
open Go.RowKit
theorem known_has {bs : List Bool} {k : List Int} (hn : Kn bs.length k) (h : knownK bs k) : hasM bs k = true := by
  unfold hasM
  by_cases h0 : 0 ≤ numT bs.length k
  · rw [if_pos h0]; exact h h0
  · rw [if_neg h0]
    have hs : ¬ nameL (numK k) = k := fun e => h0 (by
      rw [numT, if_pos ⟨hn e, e⟩]
      rw [← e]
      exact numK_nonneg _)
    simp [hs]
where
  numK_nonneg (n : Int) : 0 ≤ numK (nameL n) := by
    simp only [numK, nameL, fourL, rd, List.cons_append, List.nil_append, List.getD_cons_succ, List.getD_cons_zero]
    omega
theorem has_known {bs : List Bool} {k : List Int} (h : hasM bs k = true) : knownK bs k := fun h0 => by
  unfold hasM at h
  rw [if_pos h0] at h
  exact h
theorem raw_has {bs : List Bool} {k : List Int} (h : ¬ nameL (numK k) = k) : hasM bs k = true := by
  unfold hasM
  rw [if_neg (fun h0 => by
    unfold numT at h0
    rw [if_neg (fun hh => h hh.2)] at h0
    omega)]
  simp [h]
/-! ### More that the steps keep -/
/-- Keys that are neither of the two secrets. -/
def NS (k : List Int) : Prop := k ≠ kn 0 ∧ k ≠ kn 1
structure SI (s : List Tm × List (List Int)) : Prop where
  pre : secT <+: s.1
  ns : ∀ k ∈ s.2, NS k
  bx : ∀ t ∈ s.1, t.kind = 6 → t = sT2 ∨ ∀ k ∈ t.keys.drop 2, NS k
  pb : ∀ t ∈ s.1, t.kind = 3 → ∃ k, t = pubT k
theorem sec0_at {ts : List Tm} (h : secT <+: ts) : ts[0]? = some sT0 ∧ ts[1]? = some sT1 := by
  obtain ⟨r, rfl⟩ := h
  exact ⟨rfl, rfl⟩
theorem nm_NS {ts : List Tm} (h : secT <+: ts) (hl : ts.length ≤ 900000) {t : Tm} (h0 : t ≠ sT0) (h1 : t ≠ sT1) : NS (nm ts t) := by
  obtain ⟨e0, e1⟩ := sec0_at h
  have h5 : 5 ≤ ts.length := by have := h.length_le; rw [sec_len] at this; exact this
  have hle : ts.idxOf t ≤ ts.length := List.idxOf_le_length
  have key : ∀ i, i ≤ 1 → ts.idxOf t = i → ts[i]? = some t := fun i hi e => by
    have hm : t ∈ ts := List.idxOf_lt_length_iff.1 (by omega)
    rw [← e]
    exact get_idx hm
  rw [nm_kn]
  refine ⟨fun e => ?_, fun e => ?_⟩
  · have := key 0 (by decide) (kn_inj (by omega) (by decide) e)
    rw [e0] at this
    injection this with this
    exact h0 this.symm
  · have := key 1 (by decide) (kn_inj (by omega) (by decide) e)
    rw [e1] at this
    injection this with this
    exact h1 this.symm
theorem kn_shaped (i : Nat) (h : i < 4294967296) : nameL (numK (kn i)) = kn i := by
  rw [numK_kn h]
  unfold kn
  rfl
theorem foe_ne (s : ByteArray) : (⟨1, foeS s, []⟩ : Tm) ≠ sT0 ∧ (⟨1, foeS s, []⟩ : Tm) ≠ sT1 := by
  have h4 : 4 ≤ (foeS s).size := by
    rw [foeS, ByteArray.size_append]
    have : (ByteArray.mk #[102, 111, 101, 32]).size = 4 := rfl
    omega
  refine ⟨fun e => ?_, fun e => ?_⟩
  · injection e with _ e _
    rw [e] at h4
    exact absurd h4 (by decide)
  · injection e with _ e _
    rw [e] at h4
    exact absurd h4 (by decide)
theorem kind_ne {t : Tm} (h : t.kind ≠ 1) : t ≠ sT0 ∧ t ≠ sT1 := ⟨fun e => h (by rw [e]; rfl), fun e => h (by rw [e]; rfl)⟩
theorem SI.same {s : List Tm × List (List Int)} (h : SI s) {ks : List (List Int)} (hk : ∀ k ∈ ks, NS k) : SI (s.1, s.2 ++ ks) :=
  ⟨h.pre, fun k hin => (List.mem_append.1 hin).elim (h.ns k) (hk k), h.bx, h.pb⟩
theorem SI.put {s : List Tm × List (List Int)} (h : SI s) {t : Tm} (hl : s.1.length ≤ 900000) (hn : t ≠ sT0 ∧ t ≠ sT1) (h6 : t.kind = 6 → ∀ k ∈ t.keys.drop 2, NS k) (h3 : t.kind = 3 → ∃ k, t = pubT k) : SI ((putN s.1 t).1, s.2 ++ (putN s.1 t).2) := by
  refine ⟨h.pre.trans (putL_pre _ _), fun k hin => ?_, fun u hu h6u => ?_, fun u hu h3u => ?_⟩
  · rcases List.mem_append.1 hin with hin | hin
    · exact h.ns k hin
    · simp only [putN, List.mem_singleton] at hin
      subst hin
      exact nm_NS h.pre hl hn.1 hn.2
  · rcases putL_in hu with hu | rfl
    · exact h.bx u hu h6u
    · exact .inr (h6 h6u)
  · rcases putL_in hu with hu | rfl
    · exact h.pb u hu h3u
    · exact h3 h3u
theorem SI.step {n0 i : Nat} {s : List Tm × List (List Int)} (h : SI s) (hI : CI n0 i s) (hb : n0 + i ≤ 800000) {c : Ck} : SI (cookS secK s c) := by
  have htl := hI.tl
  have h0 : SI (s.1, s.2 ++ []) := h.same (by simp)
  unfold cookS cookT
  cases hn : namedL s.2 c.keys with
  | none => exact h0
  | some l =>
    have hlk : ∀ k ∈ l, NS k := fun k hk => h.ns k (named_mem hn k hk)
    simp only []
    by_cases hl : leastT c.kind ≤ (l.length : Int)
    · rw [if_pos hl]
      obtain ⟨l4, l5, l6, l7⟩ := least_len hl
      unfold cookKind
      by_cases h1 : c.kind = 1
      · rw [if_pos h1]
        split
        · rename_i hin
          refine h.same (fun k hk => ?_)
          rw [List.mem_singleton] at hk
          subst hk
          unfold inR at hin
          simp only [Bool.and_eq_true, decide_eq_true_eq] at hin
          have hm : getK secK c.n ∈ secK := getD_mem (by omega)
          simp only [secK, List.mem_cons, List.not_mem_nil, or_false] at hm
          rcases hm with e | e | e <;> rw [← secK.eq_1] at e <;> rw [e] <;> exact ⟨kn_ne _ _ (by decide) (by decide) (by decide), kn_ne _ _ (by decide) (by decide) (by decide)⟩
        · exact h0
      rw [if_neg h1]
      by_cases h2 : c.kind = 2
      · rw [if_pos h2]
        exact h.put (by omega) (foe_ne _) (fun e => by simp at e) (fun e => by simp at e)
      rw [if_neg h2]
      by_cases h3 : c.kind = 3
      · rw [if_pos h3]
        exact h.put (by omega) (kind_ne (by simp)) (fun e => by simp at e) (fun e => by simp at e)
      rw [if_neg h3]
      by_cases h4 : c.kind = 4
      · rw [if_pos h4]
        exact h.put (by omega) (kind_ne (by simp)) (fun e => by simp at e) (fun _ => ⟨_, rfl⟩)
      rw [if_neg h4]
      by_cases h5 : c.kind = 5
      · rw [if_pos h5]
        split
        · exact h0
        · have ha := agree_two s.1 (l.getD 0 []) (l.getD 1 [])
          refine h.put (by omega) (kind_ne ?_) (fun e => ?_) (fun e => ?_)
          · rcases ha.2 with e | e <;> rw [e] <;> decide
          · rcases ha.2 with e' | e' <;> omega
          · rcases ha.2 with e' | e' <;> omega
      rw [if_neg h5]
      by_cases h6 : c.kind = 6
      · have l6' := l6 h6
        rw [if_pos h6]
        refine h.put (by omega) (kind_ne (by simp)) (fun _ k hk => ?_) (fun e => by simp at e)
        simp only [List.drop_succ_cons, List.drop_zero] at hk
        exact hlk k (List.mem_of_mem_drop hk)
      rw [if_neg h6]
      by_cases h7 : c.kind = 7
      · rw [if_pos h7]
        split
        · rename_i x ks ho
          obtain ⟨t, ht, hk6, hk0, _, rfl⟩ := open_term ho
          refine h.same (fun k hk => ?_)
          rcases h.bx t ht hk6 with rfl | hb
          · exfalso
            have hm := hlk _ (getD_mem (i := 0) (by have := l7 h7; omega))
            rw [← hk0] at hm
            exact hm.1 rfl
          · exact hb k hk
        · exact h0
      rw [if_neg h7]
      by_cases h8 : c.kind = 8
      · rw [if_pos h8]
        split
        · exact h0
        · rename_i hne
          refine h.same (fun k hk => ?_)
          rw [List.mem_singleton] at hk
          subst hk
          exact ⟨fun e => hne (by rw [e]; exact kn_shaped 0 (by decide)), fun e => hne (by rw [e]; exact kn_shaped 1 (by decide))⟩
      rw [if_neg h8]
      exact h0
    · rw [if_neg hl]
      exact h0
theorem sec_SI : SI (secT, []) := by
  refine ⟨List.prefix_refl _, by simp, fun t ht h6 => ?_, fun t ht h3 => ?_⟩
  · simp only [secT, List.mem_cons, List.not_mem_nil, or_false] at ht
    rcases ht with rfl | rfl | rfl | rfl | rfl
    · simp [sT0] at h6
    · simp [sT1] at h6
    · exact .inl rfl
    · simp [sT3] at h6
    · simp [sT4] at h6
  · simp only [secT, List.mem_cons, List.not_mem_nil, or_false] at ht
    rcases ht with rfl | rfl | rfl | rfl | rfl
    · simp [sT0] at h3
    · simp [sT1] at h3
    · simp [sT2] at h3
    · exact ⟨kn 1, rfl⟩
    · simp [sT4] at h3
theorem SI.cooks {cs : List Ck} (hc : ∀ c ∈ cs, CkOk c) (hb : 5 + cs.length ≤ 800000) : ∀ i, i ≤ cs.length → SI (Go.Proofs.Ytcapfnbmmdbcoaa.cooks secK (secT, []) (cs.take i))
  | 0, _ => sec_SI
  | i + 1, hi => by
    have hl : i < cs.length := by omega
    rw [cooks_succ (List.getElem?_eq_getElem hl)]
    exact (SI.cooks hc hb i (by omega)).step (sec_CI.cooks secK_ok hc hb i (by omega)) (by omega)
/-! ### The stranger's own draws -/
def drawS (s : List Tm × List (List Int)) (c : Ck) : List Tm × List (List Int) := if c.kind = 2 then (putL s.1 ⟨1, foeS c.text, []⟩, s.2 ++ [nm s.1 ⟨1, foeS c.text, []⟩]) else s
def draws (s : List Tm × List (List Int)) (cs : List Ck) : List Tm × List (List Int) := cs.foldl drawS s
theorem draws_succ {s : List Tm × List (List Int)} {cs : List Ck} {i : Nat} {c : Ck} (h : cs[i]? = some c) : draws s (cs.take (i + 1)) = drawS (draws s (cs.take i)) c := by
  obtain ⟨hl, he⟩ := List.getElem?_eq_some_iff.1 h
  rw [List.take_succ_eq_append_getElem hl, he, draws, List.foldl_append]
  rfl
theorem drawS_pre (s : List Tm × List (List Int)) (c : Ck) : s.1 <+: (drawS s c).1 := by
  unfold drawS
  split
  · exact putL_pre _ _
  · exact List.prefix_refl _
theorem draws_pre : ∀ (cs : List Ck) (s : List Tm × List (List Int)), s.1 <+: (draws s cs).1
  | [], s => List.prefix_refl _
  | c :: cs, s => (drawS_pre s c).trans (draws_pre cs (drawS s c))
theorem draws_take {s : List Tm × List (List Int)} (cs : List Ck) (i : Nat) : (draws s (cs.take i)).1 <+: (draws s cs).1 := by
  conv => rhs; rw [← List.take_append_drop i cs]
  rw [draws, draws, List.foldl_append]
  exact draws_pre (cs.drop i) _
/-- What draws keep: the terms behind the old ones are atoms. -/
structure DI (n : Nat) (T : List Tm) (i : Nat) (s : List Tm × List (List Int)) : Prop where
  pre : T <+: s.1
  tl : s.1.length ≤ T.length + i
  ml : s.2.length ≤ n + i
  mo : ∀ k ∈ s.2, KeyOk k
  ns : ∀ k ∈ s.2, NS k
  tw : ∀ t ∈ s.1, t ∈ T ∨ ∃ x, t = ⟨1, foeS x, []⟩
theorem DI.step {n i : Nat} {T : List Tm} {s : List Tm × List (List Int)} (h : DI n T i s) (hT : secT <+: T) (hb : T.length + i ≤ 800000) (c : Ck) : DI n T (i + 1) (drawS s c) := by
  unfold drawS
  have htl := h.tl
  have hml := h.ml
  split
  · have hl := putL_len s.1 ⟨1, foeS c.text, []⟩
    refine ⟨h.pre.trans (putL_pre _ _), by simp only; omega, by simp only [List.length_append, List.length_singleton]; omega, fun k hk => ?_, fun k hk => ?_, fun t ht => ?_⟩
    · rcases List.mem_append.1 hk with hk | hk
      · exact h.mo k hk
      · rw [List.mem_singleton] at hk; subst hk; exact nm_ok _ _
    · rcases List.mem_append.1 hk with hk | hk
      · exact h.ns k hk
      · rw [List.mem_singleton] at hk; subst hk; exact nm_NS (hT.trans h.pre) (by omega) (foe_ne _).1 (foe_ne _).2
    · rcases putL_in ht with ht | rfl
      · exact h.tw t ht
      · exact .inr ⟨_, rfl⟩
  · exact ⟨h.pre, by omega, by omega, h.mo, h.ns, h.tw⟩
theorem secK_NS : ∀ k ∈ secK, NS k := by
  intro k hk
  simp only [secK, List.mem_cons, List.not_mem_nil, or_false] at hk
  rcases hk with rfl | rfl | rfl <;> exact ⟨kn_ne _ _ (by decide) (by decide) (by decide), kn_ne _ _ (by decide) (by decide) (by decide)⟩
theorem DI.start {T : List Tm} (h : secT <+: T) : DI 3 T 0 (T, secK) := ⟨List.prefix_refl _, by simp, by simp [secK], fun k hk => (secK_ok k hk).1, secK_NS, fun t ht => .inl ht⟩
theorem DI.draws {T : List Tm} (hT : secT <+: T) {cs : List Ck} (hb : T.length + cs.length ≤ 800000) : ∀ i, i ≤ cs.length → DI 3 T i (Go.Proofs.Ytcapfnbmmdbcoaa.draws (T, secK) (cs.take i))
  | 0, _ => DI.start hT
  | i + 1, hi => by
    have hl : i < cs.length := by omega
    rw [draws_succ (List.getElem?_eq_getElem hl)]
    exact (DI.draws hT hb i (by omega)).step hT (by omega) _
/-- All that is seen is among what is kept, and each draw's name on the full table. -/
theorem draws_mem {T : List Tm} : ∀ (cs : List Ck) (s : List Tm × List (List Int)), (∀ k ∈ s.2, k ∈ (draws s cs).2) ∧ ∀ c ∈ cs, c.kind = 2 → nm (draws s cs).1 ⟨1, foeS c.text, []⟩ ∈ (draws s cs).2 ∧ (⟨1, foeS c.text, []⟩ : Tm) ∈ (draws s cs).1
  | [], s => ⟨fun k hk => hk, fun c hc => by simp at hc⟩
  | c :: cs, s => by
    obtain ⟨h1, h2⟩ := draws_mem (T := T) cs (drawS s c)
    have e : draws s (c :: cs) = draws (drawS s c) cs := rfl
    rw [e]
    refine ⟨fun k hk => h1 k ?_, fun d hd hk => ?_⟩
    · unfold drawS
      split
      · exact List.mem_append_left _ hk
      · exact hk
    · rcases List.mem_cons.1 hd with rfl | hd
      · have hp : putL s.1 ⟨1, foeS d.text, []⟩ <+: (draws (drawS s d) cs).1 := by
          have := draws_pre cs (drawS s d)
          unfold drawS at this ⊢
          rw [if_pos hk] at this ⊢
          exact this
        rw [(nm_pre hp).1]
        refine ⟨h1 _ ?_, hp.subset (putL_mem _ _)⟩
        unfold drawS
        rw [if_pos hk]
        exact List.mem_append_right _ (List.mem_singleton.2 rfl)
      · exact h2 d hd hk
/-! ### All that is made follows -/
theorem made_fol {cs : List Ck} (hc : ∀ c ∈ cs, CkOk c) (hb : 5 + cs.length ≤ 1000) {tF : List Tm} {all : List (List Int)} {bs : List Bool} (F : Follows tF all bs) (hp : (foeM cs).1 <+: tF) (hl : tF.length ≤ 900000) (hnd : tF.Nodup)
    (hseen : ∀ k ∈ secK, k ∈ all) (hdraw : ∀ c ∈ cs, c.kind = 2 → nm tF ⟨1, foeS c.text, []⟩ ∈ all) :
    ∀ i, i ≤ cs.length → ∀ k ∈ (cooks secK (secT, []) (cs.take i)).2, hasM bs k = true
  | 0, _ => by simp [cooks]
  | i + 1, hi => by
    have hil : i < cs.length := by omega
    have IH := made_fol hc hb F hp hl hnd hseen hdraw i (by omega)
    have hI := sec_CI.cooks secK_ok hc (by omega) i (by omega)
    have hS := SI.cooks hc (by omega) i (by omega)
    have hpF : (cooks secK (secT, []) (cs.take (i + 1))).1 <+: tF := (cooks_take cs (i + 1)).trans hp
    have hce := List.getElem?_eq_getElem hil
    have hcm := List.getElem_mem hil
    rw [cooks_succ hce] at hpF ⊢
    obtain ⟨c, hcc⟩ : ∃ c, c = cs[i] := ⟨_, rfl⟩
    rw [← hcc] at hpF hcm ⊢
    obtain ⟨s, hs⟩ : ∃ s, s = cooks secK (secT, []) (cs.take i) := ⟨_, rfl⟩
    rw [← hs] at IH hI hS hpF ⊢
    have hbl : bs.length = tF.length := F.len
    have hlen : (cookS secK s c).1.length ≤ tF.length := hpF.length_le
    have hpS : s.1 <+: tF := (cook_pre _ _ _ _).trans hpF
    -- a term that was put, and can be made
    have put : ∀ t : Tm, (putN s.1 t).1 <+: tF → (t.kind ≠ 1 → madeM tF bs t = true) → (t.kind = 1 → nm tF t ∈ all) → ∀ k ∈ s.2 ++ (putN s.1 t).2, hasM bs k = true := by
      intro t hpt hm h1 k hk
      rcases List.mem_append.1 hk with hk | hk
      · exact IH k hk
      · simp only [putN, List.mem_singleton] at hk
        subst hk
        have hmem : t ∈ tF := hpt.subset (putL_mem _ _)
        rw [← (nm_pre hpt).1]
        have hix : tF.idxOf t < tF.length := List.idxOf_lt_length_of_mem hmem
        have hgi := get_idx hmem
        by_cases hk1 : t.kind = 1
        · refine known_has (fun _ => ?_) (F.has _ (h1 hk1))
          rw [nm_kn, numK_kn (by omega), hbl]
          omega
        · rw [nm_kn, hasM_kn (by omega) (by omega)]
          exact (F.closed _ _ hgi).make (hm hk1)
    have same : ∀ ks : List (List Int), (∀ k ∈ ks, hasM bs k = true) → ∀ k ∈ s.2 ++ ks, hasM bs k = true := fun ks hk k hin => (List.mem_append.1 hin).elim (IH k) (hk k)
    have hpre : (cookS secK s c).1 <+: tF := hpF
    revert hpre
    unfold cookS cookT
    cases hn : namedL s.2 c.keys with
    | none => intro _; exact same [] (by simp)
    | some l =>
      have hlk : ∀ k ∈ l, hasM bs k = true := fun k hk => IH k (named_mem hn k hk)
      simp only []
      by_cases hl : leastT c.kind ≤ (l.length : Int)
      · rw [if_pos hl]
        obtain ⟨l4, l5, l6, l7⟩ := least_len hl
        unfold cookKind
        by_cases h1 : c.kind = 1
        · rw [if_pos h1]
          intro _
          split
          · rename_i hin
            refine same _ (fun k hk => ?_)
            rw [List.mem_singleton] at hk
            subst hk
            unfold inR at hin
            simp only [Bool.and_eq_true, decide_eq_true_eq] at hin
            have hm : getK secK c.n ∈ secK := getD_mem (by omega)
            refine known_has ((secK_ok _ hm).2.mono ?_) (F.has _ (hseen _ hm))
            rw [hbl]
            exact (hS.pre.trans hpS).length_le
          · exact same [] (by simp)
        rw [if_neg h1]
        by_cases h2 : c.kind = 2
        · rw [if_pos h2]
          intro hpt
          exact put _ hpt (fun h => absurd rfl h) (fun _ => hdraw c hcm h2)
        rw [if_neg h2]
        by_cases h3 : c.kind = 3
        · rw [if_pos h3]
          intro hpt
          refine put _ hpt (fun _ => ?_) (fun h => by simp at h)
          rw [madeM, if_neg (by simp), if_neg (by simp), List.all_eq_true]
          exact hlk
        rw [if_neg h3]
        by_cases h4 : c.kind = 4
        · rw [if_pos h4]
          intro hpt
          refine put _ hpt (fun _ => ?_) (fun h => by simp at h)
          rw [madeM, if_neg (by simp), if_neg (by simp), List.all_eq_true]
          intro k hk
          rw [List.mem_singleton] at hk
          subst hk
          exact hlk _ (getD_mem (l4 h4))
        rw [if_neg h4]
        by_cases h5 : c.kind = 5
        · rw [if_pos h5]
          have l5' := l5 h5
          by_cases hz : l.getD 1 [] = zK
          · rw [if_pos hz]; intro _; exact same [] (by simp)
          · rw [if_neg hz]
            intro hpt
            have ha := agree_two s.1 (l.getD 0 []) (l.getD 1 [])
            refine put _ hpt (fun _ => ?_) (fun h => by rcases ha.2 with e | e <;> omega)
            have hs0 := hlk _ (getD_mem (l := l) (i := 0) (by omega))
            have hs1 := hlk _ (getD_mem (l := l) (i := 1) (by omega))
            rw [agreeT_look]
            split
            · rename_i hk3
              -- the public key's term
              have hx : ∃ j, numT s.1.length (l.getD 1 []) = (j : Nat) ∧ j < s.1.length ∧ s.1[j]? = some (lookT s.1 (l.getD 1 [])) := by
                unfold lookT at hk3 ⊢
                by_cases h0 : 0 ≤ numT s.1.length (l.getD 1 [])
                · rw [if_pos h0] at hk3 ⊢
                  have := num_lt h0
                  refine ⟨(numT s.1.length (l.getD 1 [])).toNat, by omega, this, ?_⟩
                  rw [List.getElem?_eq_getElem this]
                  rfl
                · rw [if_neg h0] at hk3
                  simp at hk3
              obtain ⟨j, hj1, hj2, hj3⟩ := hx
              obtain ⟨o, ho⟩ := hS.pb _ (List.mem_of_getElem? hj3) hk3
              rw [ho]
              have hbj : bs.getD j false = true := by
                have h1 := has_known hs1
                have e : numT bs.length (l.getD 1 []) = (j : Nat) := by
                  rw [← hj1, hbl]
                  exact num_pre (hI.kn _ (named_mem hn _ (getD_mem (by omega)))) hpS.length_le
                unfold knownK at h1
                rw [e] at h1
                exact h1 (by omega)
              have hpb : pubM tF bs o = true := by
                unfold pubM
                have hjF : tF[j]? = some (pubT o) := by
                  obtain ⟨r, hr⟩ := hpS
                  rw [← hr, List.getElem?_append_left hj2, hj3, ho]
                have hm := List.mem_of_getElem? hjF
                have e1 := List.idxOf_lt_length_of_mem hm
                have e2 : tF.idxOf (pubT o) = j := (List.getElem?_inj e1 hnd).1 ((get_idx hm).trans hjF.symm)
                rw [e2, hbj, decide_eq_true hm]
                simp
              unfold pairT
              have e0 : (pubT o).keys.getD 0 [] = o := rfl
              rw [e0]
              split
              · rw [madeM, if_neg (by simp), if_pos rfl]
                simp [hpb]
                exact .inr (by rw [List.getD_eq_getElem?_getD] at hs0; exact hs0)
              · rw [madeM, if_neg (by simp), if_pos rfl]
                simp [hpb]
                exact .inl (by rw [List.getD_eq_getElem?_getD] at hs0; exact hs0)
            · rw [madeM, if_neg (by simp [oddT]), if_neg (by simp [oddT]), List.all_eq_true]
              intro k hk
              simp only [oddT, List.mem_cons, List.not_mem_nil, or_false] at hk
              rcases hk with rfl | rfl
              · exact hs0
              · exact hs1
        rw [if_neg h5]
        by_cases h6 : c.kind = 6
        · have l6' := l6 h6
          rw [if_pos h6]
          intro hpt
          refine put _ hpt (fun _ => ?_) (fun h => by simp at h)
          rw [madeM, if_neg (by simp), if_neg (by simp), List.all_eq_true]
          intro k hk
          simp only [List.mem_cons] at hk
          rcases hk with rfl | rfl | hk
          · exact hlk _ (getD_mem (by omega))
          · exact hlk _ (getD_mem (by omega))
          · exact hlk _ (List.mem_of_mem_drop hk)
        rw [if_neg h6]
        by_cases h7 : c.kind = 7
        · rw [if_pos h7]
          intro _
          have l7' := l7 h7
          split
          · rename_i x ks ho
            have hm2 := getD_mem (l := l) (i := 2) (by omega)
            have hko := hI.mo _ (named_mem hn _ hm2)
            refine same _ (fun k hk => ?_)
            -- the box's term
            unfold openM at ho
            split at ho
            · rename_i hcond
              rw [(strKey hko).2] at hcond ho
              split at ho
              · rename_i t ht
                split at ho
                · rename_i hh
                  simp only [Option.some.injEq, Prod.mk.injEq] at ho
                  obtain ⟨_, rfl⟩ := ho
                  have hjl := num_lt hcond.2
                  have htm := List.mem_of_getElem? ht
                  have hjF : tF[(numT s.1.length (l.getD 2 [])).toNat]? = some t := by
                    obtain ⟨r, hr⟩ := hpS
                    rw [← hr, List.getElem?_append_left hjl, ht]
                  have hbj : bs.getD (numT s.1.length (l.getD 2 [])).toNat false = true := by
                    have h1 := has_known (hlk _ hm2)
                    unfold knownK at h1
                    rw [hbl, num_pre (hI.kn _ (named_mem hn _ hm2)) hpS.length_le] at h1
                    exact h1 hcond.2
                  have hun := (F.closed _ _ hjF).unbox hbj hh.1 (by rw [hh.2.1]; exact hlk _ (getD_mem (by omega))) k hk
                  refine known_has ((hI.tk t htm k (List.mem_of_mem_drop hk)).2.mono ?_) hun
                  rw [hbl]
                  exact hpS.length_le
                · cases ho
              · cases ho
            · cases ho
          · exact same [] (by simp)
        rw [if_neg h7]
        by_cases h8 : c.kind = 8
        · rw [if_pos h8]
          intro _
          split
          · exact same [] (by simp)
          · rename_i hne
            refine same _ (fun k hk => ?_)
            rw [List.mem_singleton] at hk
            subst hk
            exact raw_has hne
        rw [if_neg h8]
        intro _
        exact same [] (by simp)
      · rw [if_neg hl]
        intro _
        exact same [] (by simp)
/-! ### The secrets don't follow -/
theorem num_kn {n i : Nat} {k : List Int} (h : numT n k = (i : Nat)) : k = kn i := by
  unfold numT at h
  split at h
  · rename_i hh
    rw [← hh.2, h]
    unfold kn
    rfl
  · omega
theorem secret_not {tF : List Tm} {all : List (List Int)} {bs : List Bool} (F : Follows tF all bs) (hT : secT <+: tF) (hl : tF.length ≤ 900000) (hnd : tF.Nodup) (hall : ∀ k ∈ all, NS k) (hbx : ∀ t ∈ tF, t.kind = 6 → t = sT2 ∨ ∀ k ∈ t.keys.drop 2, NS k) :
    bs.getD 0 false = false ∧ bs.getD 1 false = false := by
  have h5 : 5 ≤ tF.length := by have := hT.length_le; rw [sec_len] at this; exact this
  obtain ⟨X, hX⟩ : ∃ X : List Bool, X = false :: false :: List.replicate (tF.length - 2) true := ⟨_, rfl⟩
  have hXl : X.length = tF.length := by rw [hX]; simp; omega
  have hXi : ∀ i, i < tF.length → X.getD i false = decide (2 ≤ i) := fun i hi => by
    rw [hX]
    match i with
    | 0 => rfl
    | 1 => rfl
    | i + 2 =>
      simp only [List.getD_cons_succ]
      rw [List.getD_eq_getElem?_getD, List.getElem?_replicate, if_pos (by omega)]
      simp
  have hk : ∀ k, NS k → knownK X k := fun k hns h0 => by
    have hlt := num_lt h0
    rw [hXi _ (by omega)]
    have e : numT X.length k = ((numT X.length k).toNat : Nat) := by omega
    have e1 := num_kn e
    by_cases h2 : 2 ≤ (numT X.length k).toNat
    · exact decide_eq_true h2
    · exfalso
      have : (numT X.length k).toNat = 0 ∨ (numT X.length k).toNat = 1 := by omega
      rcases this with h | h
      · rw [h] at e1; exact hns.1 e1
      · rw [h] at e1; exact hns.2 e1
  have hcl : Closed tF X := fun i t hi => by
    have hil := (List.getElem?_eq_some_iff.1 hi).1
    refine ⟨fun hm => ?_, fun hb h6 h0 k hkk => ?_⟩
    · rw [hXi i hil]
      by_cases h2 : 2 ≤ i
      · exact decide_eq_true h2
      · exfalso
        obtain ⟨e0, e1⟩ := sec0_at hT
        have : i = 0 ∨ i = 1 := by omega
        have hk1 : t.kind = 1 := by
          rcases this with rfl | rfl
          · rw [e0] at hi; injection hi with hi; rw [← hi]; rfl
          · rw [e1] at hi; injection hi with hi; rw [← hi]; rfl
        rw [madeM, if_pos hk1] at hm
        cases hm
    · rcases hbx t (List.mem_of_getElem? hi) h6 with rfl | h
      · exfalso
        have e0 : sT2.keys.getD 0 [] = kn 0 := rfl
        rw [e0, hasM_kn (by omega) (by omega), hXi 0 (by omega)] at h0
        simp at h0
      · exact hk k (h k hkk)
  have hle := F.least X hXl (fun k h => hk k (hall k h)) hcl
  refine ⟨?_, ?_⟩
  · cases hb : bs.getD 0 false with
    | false => rfl
    | true =>
      have := hle.le 0 hb
      rw [hXi 0 (by omega)] at this
      simp at this
  · cases hb : bs.getD 1 false with
    | false => rfl
    | true =>
      have := hle.le 1 hb
      rw [hXi 1 (by omega)] at this
      simp at this
end Go.Proofs.Ytcapfnbmmdbcoaa
