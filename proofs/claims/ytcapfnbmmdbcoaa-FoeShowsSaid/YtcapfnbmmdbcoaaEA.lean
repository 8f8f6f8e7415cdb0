/- The reference's step: what stands, what it leaves; where keys lack. -/
import Derived.Test.YtcapfnbmmdbcoaaDC
set_option linter.unusedVariables false
set_option linter.unusedSimpArgs false
namespace Go.Proofs.Ytcapfnbmmdbcoaa
open Go.RowKit
theorem TF.runW {K0 : Nat → Prop} {P P' : Res} {w0 w : World} {L : List Item} {Pr : Program} {f : FuncId} {args : Array Value} {R : Ending → World → List Item → Prop} (h : TF K0 P w0 w L) (hc : ∀ K : Nat → Prop, P K w → (∀ b, K b → b < w.heap.size) → Calls Pr f args w fun e w' => ∃ L2, R e w' L2 ∧ TF K P' w w' L2) : Calls Pr f args w fun e w' => ∃ L2, R e w' L2 ∧ TF K0 P' w0 w' (L2 ++ L) := by
  obtain ⟨K, a1, a2, a3⟩ := h.ex
  exact (hc K a1 (fun b hb => (a2 b hb).2)).mono fun e w' ⟨L2, he, F⟩ => ⟨L2, he, h.turn a3 a2 F⟩
theorem TF.runWR {K0 : Nat → Prop} {P P' Q : Res} {w0 w : World} {L : List Item} {Pr : Program} {f : FuncId} {args : Array Value} {R : Ending → World → List Item → Prop} (h : TF K0 (starR Q P) w0 w L) (hQ : Ok Q) (hc : ∀ K : Nat → Prop, P K w → (∀ b, K b → b < w.heap.size) → Calls Pr f args w fun e w' => ∃ L2, R e w' L2 ∧ TF K P' w w' L2) : Calls Pr f args w fun e w' => ∃ L2, R e w' L2 ∧ TF K0 (starR Q P') w0 w' (L2 ++ L) := by
  refine (h.comm.runW (P' := starR P' Q) (R := R) fun K ⟨K1, K2, b1, b2, b3, b4, b5⟩ hlt => ?_).mono fun e w' ⟨L2, he, F⟩ => ⟨L2, he, F.comm⟩
  exact (hc K1 b1 (fun b hb => hlt b (b3 b hb))).mono fun e w' ⟨L2, he, F⟩ => ⟨L2, he, TF.star (K0 := K2) b2 F hQ b2 b3 b4 b5 hlt⟩
/-- What stands when a step of the reference begins. -/
structure RStepP (K : Nat → Prop) (w : World) (m : Nat) (ts : List Tm) (seen made : List (List Int)) (SA SB : Option Addr) (sc sd : Nat) (c : Ck) (I : Option Addr) (ic : Nat) : Prop where
  res : refR m ts K w
  lt : ∀ b, K b → b < w.heap.size
  tw : ∀ t ∈ ts, TmW t
  tl : ts.length ≤ 800000
  sl : seen.length ≤ 100000
  ml : made.length ≤ 100000
  sk : ∀ k ∈ seen, KeyOk k
  mo : ∀ k ∈ made, KeyOk k
  sr : RowT w 26 SA (nums .u8 seen.flatten)
  sn : ∀ ad, SA = some ad → ¬ K ad.block
  mr : RowT w 26 SB (nums .u8 made.flatten)
  mn : ∀ ad, SB = some ad → ¬ K ad.block
  ck : CkOk c
  ir : RowC w I (nums .i64 c.keys)
  inn : nums .i64 c.keys ≠ [] → ∀ ad, I = some ad → ¬ K ad.block
/-- What a step of the reference leaves. -/
def RCookR (K : Nat → Prop) (m : Nat) (w : World) (r : List Tm × List (List Int)) (e : Ending) (w' : World) : Prop :=
  ∃ B d, e = .returned (.slice B r.2.length d) ∧ RowT w' 26 B (nums .u8 r.2.flatten) ∧ TF K (refR m r.1) w w' []
theorem RCookR.no {K : Nat → Prop} {m : Nat} {w w' : World} {ts : List Tm} {L : List Item} (H : TF K (refR m ts) w w' L) : RCookR K m w (ts, []) (.returned (.slice none 0 0)) w' :=
  ⟨none, 0, rfl, RowT.nil, H.sub (List.nil_sublist _)⟩
theorem RCookR.one {K : Nat → Prop} {m b : Nat} {w w' : World} {ts : List Tm} {k : List Int} {L : List Item} (H : TF K (refR m ts) w w' L) (hb : Item.blk b (rowO .u8 26 [k].flatten) ∈ L) {r : List Tm × List (List Int)} (hr : r = (ts, [k])) : RCookR K m w r (.returned (.slice (some ⟨b, 0, none⟩) 1 1)) w' := by
  subst hr
  exact ⟨some ⟨b, 0, none⟩, 1, rfl, H.reb.blkT hb, H.sub (List.nil_sublist _)⟩
theorem named_in {made : List (List Int)} {is : List Int} {l : List (List Int)} (h : namedL made is = some l) {a : Int} (ha : a ∈ is) : inR made a = true := by
  unfold namedL at h
  split at h
  · rename_i hh
    exact List.all_eq_true.1 hh a ha
  · cases h
theorem named_map {made : List (List Int)} {is : List Int} {l : List (List Int)} (h : namedL made is = some l) : is.map (getK made) = l := by
  unfold namedL at h
  split at h
  · injection h
  · cases h
theorem named_take {made : List (List Int)} {is : List Int} {l : List (List Int)} (h : namedL made is = some l) : (is.take is.length).map (getK made) = l := by
  rw [List.take_of_length_le (Nat.le_refl _), named_map h]
theorem named_len {made : List (List Int)} {is : List Int} {l : List (List Int)} (h : namedL made is = some l) : is.length = l.length := by
  rw [← named_map h, List.length_map]
theorem RStepP.named {K : Nat → Prop} {w : World} {m : Nat} {ts : List Tm} {seen made : List (List Int)} {SA SB : Option Addr} {sc sd : Nat} {c : Ck} {I : Option Addr} {ic : Nat} (h : RStepP K w m ts seen made SA SB sc sd c I ic) {l : List (List Int)} (hc : namedL made c.keys = some l) : l.length ≤ 10 ∧ ∀ k ∈ l, KeyOk k := by
  refine ⟨by rw [← named_len hc]; exact h.ck.kl, fun k hk => ?_⟩
  rw [← named_map hc] at hk
  obtain ⟨i, hi, rfl⟩ := List.mem_map.1 hk
  exact (getK_ok h.mo (named_in hc hi)).2
theorem MakeR {K0 : Nat → Prop} {w0 w : World} {L : List Item} {m : Nat} {ts : List Tm} (H : TF K0 (refR m ts) w0 w L) {t : Tm} {B : Option Addr} {n d : Nat} (hn : n = t.keys.length) (ht : TmOk t) (hr : RowT w 26 B (nums .u8 t.keys.flatten)) (hf : ts.length ≤ 900000) :
    Calls Try.prog 45 #[.pointer (some ⟨m, 0, none⟩), .int .i64 t.kind, .string t.text, .slice B n d] w fun e w' => IsKey (nm ts t) e ∧ TF K0 (refR m (putL ts t)) w0 w' L := by
  subst hn
  exact (H.run (R := fun e L2 => IsKey (nm ts t) e ∧ L2 = []) fun K1 h1 hlt => (MakeK h1 hlt ht hr hf).mono fun e w' ⟨he, F⟩ => ⟨[], ⟨he, rfl⟩, TF.of F hlt⟩).mono fun e w' ⟨L2, ⟨he, hL⟩, F⟩ => ⟨he, by rw [hL] at F; exact F⟩
set_option maxRecDepth 100000 in
set_option maxHeartbeats 4000000 in
theorem step49_n {K : Nat → Prop} {w : World} {m : Nat} {ts : List Tm} {seen made : List (List Int)} {SA SB : Option Addr} {sc sd : Nat} {c : Ck} {I : Option Addr} {ic : Nat} (h : RStepP K w m ts seen made SA SB sc sd c I ic) (hnone : namedL made c.keys = none) :
    Calls Try.prog 49 #[.pointer (some ⟨m, 0, none⟩), .slice SA seen.length sc, .slice SB made.length sd, .agg (ckCells c I ic).toArray] w (RCookR K m w (ts, [])) := by
  have H := TF.start h.res h.lt
  have HR := hid (refR_ok m ts)
  have hP := fun ts' => hid (refR_ok m ts')
  have hs := hid h
  have hml := hs.out.ml
  have htl := hs.out.tl
  have hsl := hs.out.sl
  have hkl := hs.out.ck.kl
  clear h
  go_enter Try.func49, Try.ntmps49
  go_wp2_with (refine wpF_bxC (cs := ckCells c I ic) 7 H HR.out rfl rfl rfl rfl (fun b7 w1 H1 => ?_); clear H; (conv => arg 5; simp only [Act.put, List.setIfInBounds_toArray, List.set_cons_succ, List.set_cons_zero]))
  go_loopw [9, 10] (fun o x wr => ∃ (i : Nat) (B : Option Addr) (d : Nat), i ≤ c.keys.length ∧ x = .int .i64 i ∧ o = .slice B i d ∧ TF K (refR m ts) w wr [.vec B i d 26 32 (nums .u8 ((c.keys.take i).map (getK made)).flatten), .blk b7 (cellsO 55 (ckCells c I ic))] ∧ Hid ((c.keys.take i).all (inR made) = true)) (fun _ x _ => c.keys.length - (intOf x).toNat)
  case atStart => exact ⟨0, none, 0, by omega, rfl, rfl, H1.step HR.out (H1.reb.nil 26 32), hid rfl⟩
  case round =>
    obtain ⟨i, B, d, hi, rfl, rfl, Hi, HA⟩ := hrel
    clear H1
    have c3 := Hi.reb.cell (i := 3) (v := .slice I c.keys.length ic) (List.mem_cons_of_mem _ List.mem_cons_self) rfl
    by_cases hlt : i < c.keys.length
    · have hltI : (i : Int) < (c.keys.length : Int) := by omega
      obtain ⟨a, hae⟩ : ∃ a, c.keys[i]? = some a := ⟨c.keys[i], List.getElem?_eq_getElem hlt⟩
      obtain ⟨bi, oi, hIe, hcell⟩ := (show RowC w I (nums .i64 c.keys) from hs.out.ir).cell (i := i) (v := .int .i64 a) (by simp [nums, hae])
      have ci := ((Hi.rowC hs.out.ir hs.out.inn).cell (i := i) (v := .int .i64 a) (by simp [nums, hae]))
      subst hIe
      obtain ⟨_, _, he, ci⟩ := ci
      injection he with he
      injection he with he1 he2 _
      subst he1 he2
      have HAE := hid hae
      clear hae hcell
      cases hin : inR made a
      · unfold inR at hin
        by_cases h0 : a < 0
        · go_wp2_with (first | (apply wpList_want; (· rfl)))
          go_ret
          exact RCookR.no Hi
        · have h1 : (made.length : Int) ≤ a := by
            simp only [Bool.and_eq_false_iff, decide_eq_false_iff_not] at hin
            omega
          clear hin
          go_wp2_with (first | (apply wpList_want; (· rfl)))
          go_ret
          exact RCookR.no Hi
      · obtain ⟨hg, hgk⟩ := getK_ok hs.out.mo hin
        have HIN := hid hin
        unfold inR at hin
        simp only [Bool.and_eq_true, decide_eq_true_eq] at hin
        obtain ⟨h0, h1⟩ := hin
        obtain ⟨b2, o2, hA2, hcc⟩ := keys_at hs.out.mo (Hi.row hs.out.mr hs.out.mn) hg
        subst hA2
        have HCC := hid hcc
        have HGK := hid hgk
        have hj2 : a.toNat < made.length := by omega
        obtain ⟨j, rfl⟩ : ∃ j : Nat, a = (j : Int) := ⟨a.toNat, by omega⟩
        rw [Int.toNat_natCast] at HCC hj2
        have hkl : c.keys.length ≤ 10 := hs.out.ck.kl
        clear hcc hg hgk
        go_wp2_with (first | (apply wpList_want; (· rfl)) | (refine wpList_ldagg 41 rfl Try.underlying26 rfl rfl rfl rfl HCC.out (s26k HGK.out) ?_; (conv => arg 5; simp only [Act.put, List.setIfInBounds_toArray, List.set_cons_succ, List.set_cons_zero])) | (refine wpF_bsK1 42 Hi HR.out rfl rfl rfl rfl HGK.out (fun b42 w3 H3 => ?_); clear Hi; (conv => arg 5; simp only [Act.put, List.setIfInBounds_toArray, List.set_cons_succ, List.set_cons_zero])) | (refine wpF_appK (qs := [getK made (j : Int)]) 43 H3 HR.out rfl rfl rfl rfl rfl (fun A' cap' => Swap.tail Swap.head) (H3.reb.blkT List.mem_cons_self) (one_ok HGK.out) (by simp only [List.length_singleton]; omega) (fun A2 c2 w4 H4 => ?_); clear H3; (conv => arg 5; simp only [Act.put, List.setIfInBounds_toArray, List.set_cons_succ, List.set_cons_zero])))
        go_round
        case rel =>
          refine ⟨i + 1, A2, c2, by omega, by go_num, rfl, ?_, ?_⟩
          · have h2 : (c.keys.take (i + 1)).map (getK made) = (c.keys.take i).map (getK made) ++ [getK made (j : Int)] := by
              obtain ⟨hl, he⟩ := List.getElem?_eq_some_iff.1 HAE.out
              rw [List.take_succ_eq_append_getElem hl, he]
              simp
            rw [h2]
            exact H4.sub (by (repeat (first | exact List.Sublist.refl _ | apply List.Sublist.cons_cons | apply List.Sublist.cons)))
          · refine hid ?_
            obtain ⟨hl, he⟩ := List.getElem?_eq_some_iff.1 HAE.out
            rw [List.take_succ_eq_append_getElem hl, List.all_append, HA.out, he]
            simp [HIN.out]
        case measure => simp [intOf]; omega
    · obtain rfl : i = c.keys.length := by omega
      exfalso
      have h1 := HA.out
      rw [List.take_of_length_le (Nat.le_refl _)] at h1
      rw [namedL, if_pos h1] at hnone
      cases hnone
end Go.Proofs.Ytcapfnbmmdbcoaa
namespace Go.Proofs.Ytcapfnbmmdbcoaa
open Go.RowKit
/-- A key that isn't the name of a term to come, with n terms there. -/
def Kn (n : Nat) (k : List Int) : Prop := nameL (numK k) = k → numK k < (n : Int)
theorem Kn.mono {n n' : Nat} {k : List Int} (h : Kn n k) (hn : n ≤ n') : Kn n' k := fun e => by have := h e; omega
theorem num_pre {n n' : Nat} {k : List Int} (h : Kn n k) (hn : n ≤ n') : numT n' k = numT n k := by
  unfold numT
  by_cases e : nameL (numK k) = k
  · have := h e
    rw [if_pos ⟨by omega, e⟩, if_pos ⟨this, e⟩]
  · rw [if_neg (fun h => e h.2), if_neg (fun h => e h.2)]
theorem num_lt {n : Nat} {k : List Int} (h : 0 ≤ numT n k) : (numT n k).toNat < n := by
  unfold numT at h ⊢
  split at h
  · rename_i hh
    rw [if_pos hh]
    omega
  · omega
theorem look_pre {ts ts' : List Tm} {k : List Int} (hp : ts <+: ts') (h : Kn ts.length k) : lookT ts' k = lookT ts k := by
  unfold lookT
  rw [num_pre h hp.length_le]
  by_cases h0 : 0 ≤ numT ts.length k
  · rw [if_pos h0, if_pos h0]
    obtain ⟨r, rfl⟩ := hp
    rw [List.getElem?_append_left (num_lt h0)]
  · rw [if_neg h0, if_neg h0]
theorem putL_pre (ts : List Tm) (t : Tm) : ts <+: putL ts t := by
  unfold putL
  split
  · exact List.prefix_refl _
  · exact List.prefix_append _ _
theorem putL_mem (ts : List Tm) (t : Tm) : t ∈ putL ts t := by
  unfold putL
  split
  · assumption
  · simp
theorem putL_len (ts : List Tm) (t : Tm) : (putL ts t).length ≤ ts.length + 1 := by
  unfold putL
  split <;> simp
theorem putL_in {ts : List Tm} {t u : Tm} (h : u ∈ putL ts t) : u ∈ ts ∨ u = t := by
  unfold putL at h
  split at h
  · exact .inl h
  · simpa using h
theorem nm_pre {ts ts' : List Tm} {t : Tm} (hp : putL ts t <+: ts') : nm ts' t = nm ts t ∧ putL ts' t = ts' := by
  have hm : t ∈ ts' := hp.subset (putL_mem ts t)
  refine ⟨?_, by rw [putL, if_pos hm]⟩
  obtain ⟨r, rfl⟩ := hp
  have e : (putL ts t ++ r).idxOf t = ts.idxOf t := by
    by_cases h : t ∈ ts
    · rw [putL, if_pos h, List.idxOf_append, if_pos h]
    · rw [putL, if_neg h, List.idxOf_append, if_pos (by simp), List.idxOf_append, if_neg h, List.idxOf_eq_length h]
      simp
  unfold nm
  rw [e]
theorem nm_Kn {ts : List Tm} {t : Tm} (hl : ts.length ≤ 900000) : Kn (putL ts t).length (nm ts t) := fun _ => by
  have h1 : (putL ts t).idxOf t < (putL ts t).length := List.idxOf_lt_length_of_mem (putL_mem ts t)
  have h2 : (putL ts t).idxOf t = ts.idxOf t := by
    by_cases h : t ∈ ts
    · rw [putL, if_pos h]
    · rw [putL, if_neg h, List.idxOf_append, if_neg h, List.idxOf_eq_length h]
      simp
  have h3 := putL_len ts t
  rw [nm_kn, numK_kn (by omega)]
  omega
/-! ### What an agreement and an opened box have -/
theorem agree_keys {ts : List Tm} (hw : ∀ t ∈ ts, TmW t) (s p : List Int) : ∀ k ∈ (agreeT ts s p).keys, k = s ∨ k = p ∨ ∃ t ∈ ts, k ∈ t.keys := by
  rw [agreeT_look]
  split
  · rename_i h3
    have hx : ∃ t ∈ ts, lookT ts p = t := by
      unfold lookT at h3 ⊢
      by_cases h0 : 0 ≤ numT ts.length p
      · rw [if_pos h0] at h3 ⊢
        have := num_lt h0
        rw [List.getElem?_eq_getElem this]
        exact ⟨_, List.getElem_mem this, rfl⟩
      · rw [if_neg h0] at h3
        simp at h3
    obtain ⟨t, ht, he⟩ := hx
    rw [he] at h3 ⊢
    have hk : t.keys.getD 0 [] ∈ t.keys := by
      have := (hw t ht).k3 h3
      rw [List.getD_eq_getElem?_getD, List.getElem?_eq_getElem (by omega)]
      exact List.getElem_mem _
    unfold pairT
    intro k hin
    split at hin
    · simp only [List.mem_cons, List.not_mem_nil, or_false] at hin
      rcases hin with rfl | rfl
      · exact .inr (.inr ⟨t, ht, hk⟩)
      · exact .inl rfl
    · simp only [List.mem_cons, List.not_mem_nil, or_false] at hin
      rcases hin with rfl | rfl
      · exact .inl rfl
      · exact .inr (.inr ⟨t, ht, hk⟩)
  · intro k hin
    simp only [oddT, List.mem_cons, List.not_mem_nil, or_false] at hin
    exact hin.imp id .inl
theorem agree_two (ts : List Tm) (s p : List Int) : (agreeT ts s p).keys.length = 2 ∧ ((agreeT ts s p).kind = 4 ∨ (agreeT ts s p).kind = 5) := by
  rw [agreeT_look]
  split
  · unfold pairT
    split
    · exact ⟨rfl, .inl rfl⟩
    · exact ⟨rfl, .inl rfl⟩
  · exact ⟨rfl, .inr rfl⟩
theorem open_term {ts : List Tm} {k b : List Int} {s x : ByteArray} {ks : List (List Int)} (h : openM ts k b s = some (x, ks)) : ∃ t ∈ ts, t.kind = 6 ∧ t.keys.getD 0 [] = k ∧ t.keys.getD 1 [] = b ∧ ks = t.keys.drop 2 := by
  unfold openM at h
  split at h
  · split at h
    · rename_i t ht
      split at h
      · rename_i hh
        simp only [Option.some.injEq, Prod.mk.injEq] at h
        exact ⟨t, List.mem_of_getElem? ht, hh.1, hh.2.1, hh.2.2, h.2.symm⟩
      · cases h
    · cases h
  · cases h
/-! ### One step -/
def cookS (seen : List (List Int)) (s : List Tm × List (List Int)) (c : Ck) : List Tm × List (List Int) := ((cookT s.1 seen s.2 c).1, s.2 ++ (cookT s.1 seen s.2 c).2)
def cooks (seen : List (List Int)) (s : List Tm × List (List Int)) (cs : List Ck) : List Tm × List (List Int) := cs.foldl (cookS seen) s
theorem cooks_succ {seen : List (List Int)} {s : List Tm × List (List Int)} {cs : List Ck} {i : Nat} {c : Ck} (h : cs[i]? = some c) : cooks seen s (cs.take (i + 1)) = cookS seen (cooks seen s (cs.take i)) c := by
  obtain ⟨hl, he⟩ := List.getElem?_eq_some_iff.1 h
  rw [List.take_succ_eq_append_getElem hl, he, cooks, List.foldl_append]
  rfl
theorem getD_mem {l : List (List Int)} {i : Nat} (h : i < l.length) : l.getD i [] ∈ l := by
  rw [List.getD_eq_getElem?_getD, List.getElem?_eq_getElem h]
  exact List.getElem_mem _
theorem named_mem {made : List (List Int)} {is : List Int} {l : List (List Int)} (hc : namedL made is = some l) : ∀ k ∈ l, k ∈ made := fun k hk => by
  rw [← named_map hc] at hk
  obtain ⟨i, hi, rfl⟩ := List.mem_map.1 hk
  have h := named_in hc hi
  unfold inR at h
  simp only [Bool.and_eq_true, decide_eq_true_eq] at h
  exact getD_mem (by omega)
theorem cook_pre (ts : List Tm) (seen made : List (List Int)) (c : Ck) : ts <+: (cookT ts seen made c).1 := by
  unfold cookT
  split
  · exact List.prefix_refl _
  · split
    · unfold cookKind
      repeat' split
      all_goals first | exact List.prefix_refl _ | exact putL_pre _ _
    · exact List.prefix_refl _
theorem least_len {kind : Int} {l : List (List Int)} (h : leastT kind ≤ (l.length : Int)) : (kind = 4 → 1 ≤ l.length) ∧ (kind = 5 → 2 ≤ l.length) ∧ (kind = 6 → 2 ≤ l.length) ∧ (kind = 7 → 3 ≤ l.length) := by
  unfold leastT at h
  refine ⟨fun e => ?_, fun e => ?_, fun e => ?_, fun e => ?_⟩ <;> (subst e; simp at h; omega)
theorem put_again {ts ts' : List Tm} {t : Tm} (hp : (putN ts t).1 <+: ts') : putN ts' t = (ts', (putN ts t).2) := by
  obtain ⟨h1, h2⟩ := nm_pre hp
  unfold putN
  rw [h1, h2]
theorem kind_again {ts ts' : List Tm} {seen l : List (List Int)} {c : Ck} (hp0 : ts <+: ts') (hl : leastT c.kind ≤ (l.length : Int)) (hk : ∀ k ∈ l, Kn ts.length k) (hko : ∀ k ∈ l, KeyOk k) (hp : (cookKind ts seen c l).1 <+: ts') : cookKind ts' seen c l = (ts', (cookKind ts seen c l).2) := by
  obtain ⟨_, l5, _, l7⟩ := least_len hl
  unfold cookKind at hp ⊢
  by_cases h1 : c.kind = 1
  · rw [if_pos h1, if_pos h1]
  rw [if_neg h1] at hp ⊢
  rw [if_neg h1]
  by_cases h2 : c.kind = 2
  · rw [if_pos h2] at hp ⊢; rw [if_pos h2]; exact put_again hp
  rw [if_neg h2] at hp ⊢
  rw [if_neg h2]
  by_cases h3 : c.kind = 3
  · rw [if_pos h3] at hp ⊢; rw [if_pos h3]; exact put_again hp
  rw [if_neg h3] at hp ⊢
  rw [if_neg h3]
  by_cases h4 : c.kind = 4
  · rw [if_pos h4] at hp ⊢; rw [if_pos h4]; exact put_again hp
  rw [if_neg h4] at hp ⊢
  rw [if_neg h4]
  by_cases h5 : c.kind = 5
  · rw [if_pos h5] at hp ⊢
    rw [if_pos h5]
    by_cases hz : l.getD 1 [] = zK
    · rw [if_pos hz, if_pos hz]
    · rw [if_neg hz] at hp ⊢
      rw [if_neg hz]
      have e : agreeT ts' (l.getD 0 []) (l.getD 1 []) = agreeT ts (l.getD 0 []) (l.getD 1 []) := by
        rw [agreeT_look, agreeT_look, look_pre hp0 (hk _ (getD_mem (l5 h5)))]
      rw [e]
      exact put_again hp
  rw [if_neg h5] at hp ⊢
  rw [if_neg h5]
  by_cases h6 : c.kind = 6
  · rw [if_pos h6] at hp ⊢; rw [if_pos h6]; exact put_again hp
  rw [if_neg h6] at hp ⊢
  rw [if_neg h6]
  by_cases h7 : c.kind = 7
  · rw [if_pos h7] at hp ⊢
    rw [if_pos h7]
    have hm := getD_mem (l7 h7)
    have e : openM ts' (l.getD 0 []) (l.getD 1 []) (strOfNums (l.getD 2 [])) = openM ts (l.getD 0 []) (l.getD 1 []) (strOfNums (l.getD 2 [])) := by
      rw [openM_look, openM_look, (strKey (hko _ hm)).2, look_pre hp0 (hk _ hm)]
    rw [e]
  rw [if_neg h7] at hp ⊢
  rw [if_neg h7]
  by_cases h8 : c.kind = 8
  · rw [if_pos h8, if_pos h8]
  rw [if_neg h8, if_neg h8]
theorem cook_again {ts ts' : List Tm} {seen made : List (List Int)} {c : Ck} (hk : ∀ k ∈ made, Kn ts.length k) (hko : ∀ k ∈ made, KeyOk k) (hp : (cookT ts seen made c).1 <+: ts') : cookT ts' seen made c = (ts', (cookT ts seen made c).2) := by
  have hp0 := (cook_pre ts seen made c).trans hp
  unfold cookT at hp ⊢
  cases hc : namedL made c.keys with
  | none => rfl
  | some l =>
    simp only [hc] at hp ⊢
    by_cases hl : leastT c.kind ≤ (l.length : Int)
    · rw [if_pos hl] at hp ⊢
      rw [if_pos hl]
      exact kind_again hp0 hl (fun k h => hk k (named_mem hc k h)) (fun k h => hko k (named_mem hc k h)) hp
    · rw [if_neg hl, if_neg hl]
/-! ### What the steps keep -/
structure CI (n0 i : Nat) (s : List Tm × List (List Int)) : Prop where
  tw : ∀ t ∈ s.1, TmW t
  tl : s.1.length ≤ n0 + i
  ml : s.2.length ≤ 10 * i
  kl : ∀ t ∈ s.1, t.keys.length ≤ 10
  mo : ∀ k ∈ s.2, KeyOk k
  kn : ∀ k ∈ s.2, Kn s.1.length k
  tk : ∀ t ∈ s.1, ∀ k ∈ t.keys, KeyOk k ∧ Kn s.1.length k
theorem CI.same {n0 i : Nat} {s : List Tm × List (List Int)} (h : CI n0 i s) {ks : List (List Int)} (hl : ks.length ≤ 10) (hk : ∀ k ∈ ks, KeyOk k ∧ Kn s.1.length k) : CI n0 (i + 1) (s.1, s.2 ++ ks) := by
  refine ⟨h.tw, by have := h.tl; simp only; omega, by have := h.ml; simp only [List.length_append]; omega, h.kl, fun k hin => ?_, fun k hin => ?_, h.tk⟩
  · rcases List.mem_append.1 hin with h1 | h1
    · exact h.mo k h1
    · exact (hk k h1).1
  · rcases List.mem_append.1 hin with h1 | h1
    · exact h.kn k h1
    · exact (hk k h1).2
theorem CI.put {n0 i : Nat} {s : List Tm × List (List Int)} (h : CI n0 i s) {t : Tm} (hb : n0 + i ≤ 800000) (hw : TmW t) (hl : t.keys.length ≤ 10) (hk : ∀ k ∈ t.keys, KeyOk k ∧ Kn s.1.length k) : CI n0 (i + 1) ((putN s.1 t).1, s.2 ++ (putN s.1 t).2) := by
  have h1 := putL_len s.1 t
  have h2 := (putL_pre s.1 t).length_le
  have htl := h.tl
  refine ⟨fun u hu => ?_, by simp only [putN]; omega, by have := h.ml; simp only [putN, List.length_append, List.length_singleton]; omega, fun u hu => ?_, fun k hin => ?_, fun k hin => ?_, fun u hu k hin => ?_⟩
  · rcases putL_in hu with hu | rfl
    · exact h.tw u hu
    · exact hw
  · rcases putL_in hu with hu | rfl
    · exact h.kl u hu
    · exact hl
  · rcases List.mem_append.1 hin with hin | hin
    · exact h.mo k hin
    · simp only [putN, List.mem_singleton] at hin; subst hin; exact nm_ok _ _
  · rcases List.mem_append.1 hin with hin | hin
    · exact (h.kn k hin).mono h2
    · simp only [putN, List.mem_singleton] at hin; subst hin; exact nm_Kn (by omega)
  · rcases putL_in hu with hu | rfl
    · exact ⟨(h.tk u hu k hin).1, (h.tk u hu k hin).2.mono h2⟩
    · exact ⟨(hk k hin).1, (hk k hin).2.mono h2⟩
theorem CI.step {n0 i : Nat} {s : List Tm × List (List Int)} (h : CI n0 i s) (hb : n0 + i ≤ 800000) {seen : List (List Int)} (hs : ∀ k ∈ seen, KeyOk k ∧ Kn s.1.length k) {c : Ck} (hc : CkOk c) : CI n0 (i + 1) (cookS seen s c) := by
  have h0 : CI n0 (i + 1) (s.1, s.2 ++ []) := h.same (by simp) (by simp)
  unfold cookS cookT
  cases hn : namedL s.2 c.keys with
  | none => exact h0
  | some l =>
    have hll : l.length ≤ 10 := by rw [← named_len hn]; exact hc.kl
    have hlk : ∀ k ∈ l, KeyOk k ∧ Kn s.1.length k := fun k hk => ⟨h.mo k (named_mem hn k hk), h.kn k (named_mem hn k hk)⟩
    simp only []
    by_cases hl : leastT c.kind ≤ (l.length : Int)
    · rw [if_pos hl]
      obtain ⟨l4, l5, l6, l7⟩ := least_len hl
      unfold cookKind
      by_cases h1 : c.kind = 1
      · rw [if_pos h1]
        split
        · rename_i hin
          refine h.same (by simp) (fun k hk => ?_)
          rw [List.mem_singleton] at hk
          subst hk
          refine hs _ (getD_mem ?_)
          unfold inR at hin
          simp only [Bool.and_eq_true, decide_eq_true_eq] at hin
          omega
        · exact h0
      rw [if_neg h1]
      by_cases h2 : c.kind = 2
      · rw [if_pos h2]
        exact h.put hb ⟨fun h => by simp at h, fun h => by simp at h⟩ (by simp) (by simp)
      rw [if_neg h2]
      by_cases h3 : c.kind = 3
      · rw [if_pos h3]
        exact h.put hb ⟨fun h => by simp at h, fun h => by simp at h⟩ hll hlk
      rw [if_neg h3]
      by_cases h4 : c.kind = 4
      · rw [if_pos h4]
        refine h.put hb ⟨fun _ => by simp, fun h => by simp at h⟩ (by simp) (fun k hk => ?_)
        simp only [List.mem_singleton] at hk
        subst hk
        exact hlk _ (getD_mem (l4 h4))
      rw [if_neg h4]
      by_cases h5 : c.kind = 5
      · rw [if_pos h5]
        split
        · exact h0
        · have ha := agree_two s.1 (l.getD 0 []) (l.getD 1 [])
          have l5' := l5 h5
          refine h.put hb ⟨fun e => ?_, fun _ => by omega⟩ (by omega) (fun k hk => ?_)
          · rcases ha.2 with h | h <;> omega
          · rcases agree_keys h.tw _ _ k hk with rfl | rfl | ⟨t, ht, hk⟩
            · exact hlk _ (getD_mem (by omega))
            · exact hlk _ (getD_mem (by omega))
            · exact h.tk t ht k hk
      rw [if_neg h5]
      by_cases h6 : c.kind = 6
      · have l6' := l6 h6
        rw [if_pos h6]
        refine h.put hb ⟨fun h => by simp at h, fun _ => by simp⟩ (by simp; omega) (fun k hk => ?_)
        simp only [List.mem_cons] at hk
        rcases hk with rfl | rfl | hk
        · exact hlk _ (getD_mem (by omega))
        · exact hlk _ (getD_mem (by omega))
        · exact hlk _ (List.mem_of_mem_drop hk)
      rw [if_neg h6]
      by_cases h7 : c.kind = 7
      · rw [if_pos h7]
        split
        · rename_i x ks ho
          obtain ⟨t, ht, _, _, _, rfl⟩ := open_term ho
          refine h.same (by have := h.kl t ht; rw [List.length_drop]; omega) (fun k hk => h.tk t ht k (List.mem_of_mem_drop hk))
        · exact h0
      rw [if_neg h7]
      by_cases h8 : c.kind = 8
      · rw [if_pos h8]
        split
        · exact h0
        · rename_i hne
          refine h.same (by simp) (fun k hk => ?_)
          rw [List.mem_singleton] at hk
          subst hk
          exact ⟨hc.raw, fun e => absurd e hne⟩
      rw [if_neg h8]
      exact h0
    · rw [if_neg hl]
      exact h0
theorem cooks_pre (seen : List (List Int)) : ∀ (cs : List Ck) (s : List Tm × List (List Int)), s.1 <+: (cooks seen s cs).1
  | [], s => List.prefix_refl _
  | c :: cs, s => (cook_pre _ _ _ _).trans (cooks_pre seen cs (cookS seen s c))
theorem cooks_take {seen : List (List Int)} {s : List Tm × List (List Int)} (cs : List Ck) (i : Nat) : (cooks seen s (cs.take i)).1 <+: (cooks seen s cs).1 := by
  conv => rhs; rw [← List.take_append_drop i cs]
  rw [cooks, cooks, List.foldl_append]
  exact cooks_pre seen (cs.drop i) _
theorem CI.cooks {n0 : Nat} {s : List Tm × List (List Int)} (h : CI n0 0 s) {seen : List (List Int)} (hs : ∀ k ∈ seen, KeyOk k ∧ Kn s.1.length k) {cs : List Ck} (hc : ∀ c ∈ cs, CkOk c) (hb : n0 + cs.length ≤ 800000) : ∀ i, i ≤ cs.length → CI n0 i (cooks seen s (cs.take i))
  | 0, _ => h
  | i + 1, hi => by
    have hl : i < cs.length := by omega
    rw [cooks_succ (List.getElem?_eq_getElem hl)]
    refine (CI.cooks h hs hc hb i (by omega)).step (by omega) (fun k hk => ⟨(hs k hk).1, (hs k hk).2.mono ?_⟩) (hc _ (List.getElem_mem hl))
    exact (cooks_pre seen (cs.take i) s).length_le
/-- A step done again on the full table. -/
theorem CI.again {n0 : Nat} {s : List Tm × List (List Int)} (h : CI n0 0 s) {seen : List (List Int)} (hs : ∀ k ∈ seen, KeyOk k ∧ Kn s.1.length k) {cs : List Ck} (hc : ∀ c ∈ cs, CkOk c) (hb : n0 + cs.length ≤ 800000) {i : Nat} {c : Ck} (hi : cs[i]? = some c) :
    (cookT (Go.Proofs.Ytcapfnbmmdbcoaa.cooks seen s cs).1 seen (Go.Proofs.Ytcapfnbmmdbcoaa.cooks seen s (cs.take i)).2 c).1 = (Go.Proofs.Ytcapfnbmmdbcoaa.cooks seen s cs).1 ∧
    (Go.Proofs.Ytcapfnbmmdbcoaa.cooks seen s (cs.take i)).2 ++ (cookT (Go.Proofs.Ytcapfnbmmdbcoaa.cooks seen s cs).1 seen (Go.Proofs.Ytcapfnbmmdbcoaa.cooks seen s (cs.take i)).2 c).2 = (Go.Proofs.Ytcapfnbmmdbcoaa.cooks seen s (cs.take (i + 1))).2 := by
  have hI := h.cooks hs hc hb i (by have := (List.getElem?_eq_some_iff.1 hi).1; omega)
  have hp : (cookT (Go.Proofs.Ytcapfnbmmdbcoaa.cooks seen s (cs.take i)).1 seen (Go.Proofs.Ytcapfnbmmdbcoaa.cooks seen s (cs.take i)).2 c).1 <+: (Go.Proofs.Ytcapfnbmmdbcoaa.cooks seen s cs).1 := by
    have := cooks_take (seen := seen) (s := s) cs (i + 1)
    rw [cooks_succ hi] at this
    exact this
  rw [cook_again hI.kn hI.mo hp]
  refine ⟨rfl, ?_⟩
  rw [cooks_succ hi]
  rfl
end Go.Proofs.Ytcapfnbmmdbcoaa
namespace Go.Proofs.Ytcapfnbmmdbcoaa
open Go.RowKit
set_option maxRecDepth 100000 in
set_option maxHeartbeats 4000000 in
theorem step49_f4 {K : Nat → Prop} {w : World} {m : Nat} {ts : List Tm} {seen made : List (List Int)} {SA SB : Option Addr} {sc sd : Nat} {n : Int} {text : ByteArray} {keys raw : List Int} {I : Option Addr} {ic : Nat} (h : RStepP K w m ts seen made SA SB sc sd (⟨4, n, text, keys, raw⟩ : Ck) I ic) {l : List (List Int)} (hc : namedL made keys = some l) (hl : (l.length : Int) < 1) :
    Calls Try.prog 49 #[.pointer (some ⟨m, 0, none⟩), .slice SA seen.length sc, .slice SB made.length sd, .agg (ckCells (⟨4, n, text, keys, raw⟩ : Ck) I ic).toArray] w (RCookR K m w (ts, [])) := by
  have H := TF.start h.res h.lt
  have HR := hid (refR_ok m ts)
  have hP := fun ts' => hid (refR_ok m ts')
  have hs := hid h
  have hml := hs.out.ml
  have htl := hs.out.tl
  have hsl := hs.out.sl
  have hn := hid (And.intro hc trivial)
  clear h hc
  go_enter Try.func49, Try.ntmps49
  go_wp2_with (refine wpF_bxC (cs := ckCells (⟨4, n, text, keys, raw⟩ : Ck) I ic) 7 H HR.out rfl rfl rfl rfl (fun b7 w1 H1 => ?_); clear H; (conv => arg 5; simp only [Act.put, List.setIfInBounds_toArray, List.set_cons_succ, List.set_cons_zero]))
  go_loopw [9, 10] (fun o x wr => ∃ (i : Nat) (B : Option Addr) (d : Nat), i ≤ keys.length ∧ x = .int .i64 i ∧ o = .slice B i d ∧ TF K (refR m ts) w wr [.vec B i d 26 32 (nums .u8 ((keys.take i).map (getK made)).flatten), .blk b7 (cellsO 55 (ckCells (⟨4, n, text, keys, raw⟩ : Ck) I ic))] ∧ Hid ((keys.take i).all (inR made) = true)) (fun _ x _ => keys.length - (intOf x).toNat)
  case atStart => exact ⟨0, none, 0, by omega, rfl, rfl, H1.step HR.out (H1.reb.nil 26 32), hid rfl⟩
  case round =>
    obtain ⟨i, B, d, hi, rfl, rfl, Hi, HA⟩ := hrel
    clear H1
    have c3 := Hi.reb.cell (i := 3) (v := .slice I keys.length ic) (List.mem_cons_of_mem _ List.mem_cons_self) rfl
    by_cases hlt : i < keys.length
    · have hltI : (i : Int) < (keys.length : Int) := by omega
      obtain ⟨a, hae⟩ : ∃ a, keys[i]? = some a := ⟨keys[i], List.getElem?_eq_getElem hlt⟩
      obtain ⟨bi, oi, hIe, hcell⟩ := (show RowC w I (nums .i64 keys) from hs.out.ir).cell (i := i) (v := .int .i64 a) (by simp [nums, hae])
      have ci := ((Hi.rowC hs.out.ir hs.out.inn).cell (i := i) (v := .int .i64 a) (by simp [nums, hae]))
      subst hIe
      obtain ⟨_, _, he, ci⟩ := ci
      injection he with he
      injection he with he1 he2 _
      subst he1 he2
      have HAE := hid hae
      clear hae hcell
      cases hin : inR made a
      · exact absurd (named_in hn.out.1 (List.mem_of_getElem? HAE.out)) (by rw [hin]; simp)
      · obtain ⟨hg, hgk⟩ := getK_ok hs.out.mo hin
        have HIN := hid hin
        unfold inR at hin
        simp only [Bool.and_eq_true, decide_eq_true_eq] at hin
        obtain ⟨h0, h1⟩ := hin
        obtain ⟨b2, o2, hA2, hcc⟩ := keys_at hs.out.mo (Hi.row hs.out.mr hs.out.mn) hg
        subst hA2
        have HCC := hid hcc
        have HGK := hid hgk
        have hj2 : a.toNat < made.length := by omega
        obtain ⟨j, rfl⟩ : ∃ j : Nat, a = (j : Int) := ⟨a.toNat, by omega⟩
        rw [Int.toNat_natCast] at HCC hj2
        have hkl : keys.length ≤ 10 := hs.out.ck.kl
        clear hcc hg hgk
        go_wp2_with (first | (apply wpList_want; (· rfl)) | (refine wpList_ldagg 41 rfl Try.underlying26 rfl rfl rfl rfl HCC.out (s26k HGK.out) ?_; (conv => arg 5; simp only [Act.put, List.setIfInBounds_toArray, List.set_cons_succ, List.set_cons_zero])) | (refine wpF_bsK1 42 Hi HR.out rfl rfl rfl rfl HGK.out (fun b42 w3 H3 => ?_); clear Hi; (conv => arg 5; simp only [Act.put, List.setIfInBounds_toArray, List.set_cons_succ, List.set_cons_zero])) | (refine wpF_appK (qs := [getK made (j : Int)]) 43 H3 HR.out rfl rfl rfl rfl rfl (fun A' cap' => Swap.tail Swap.head) (H3.reb.blkT List.mem_cons_self) (one_ok HGK.out) (by simp only [List.length_singleton]; omega) (fun A2 c2 w4 H4 => ?_); clear H3; (conv => arg 5; simp only [Act.put, List.setIfInBounds_toArray, List.set_cons_succ, List.set_cons_zero])))
        go_round
        case rel =>
          refine ⟨i + 1, A2, c2, by omega, by go_num, rfl, ?_, ?_⟩
          · have h2 : (keys.take (i + 1)).map (getK made) = (keys.take i).map (getK made) ++ [getK made (j : Int)] := by
              obtain ⟨hl, he⟩ := List.getElem?_eq_some_iff.1 HAE.out
              rw [List.take_succ_eq_append_getElem hl, he]
              simp
            rw [h2]
            exact H4.sub (by (repeat (first | exact List.Sublist.refl _ | apply List.Sublist.cons_cons | apply List.Sublist.cons)))
          · refine hid ?_
            obtain ⟨hl, he⟩ := List.getElem?_eq_some_iff.1 HAE.out
            rw [List.take_succ_eq_append_getElem hl, List.all_append, HA.out, he]
            simp [HIN.out]
        case measure => simp [intOf]; omega
    · obtain rfl : i = keys.length := by omega
      have hkl := named_len hn.out.1
      have hsl2 : Value.slice B keys.length d = Value.slice B l.length d := by rw [hkl]
      rw [named_take hn.out.1, hkl] at Hi
      rw [hsl2]
      clear hsl2 HA hi hlt
      have c0 := Hi.reb.cell (i := 0) (v := .int .i64 4) (List.mem_cons_of_mem _ List.mem_cons_self) rfl
      go_wp2_with fail
      go_ret
      exact RCookR.no Hi
set_option maxRecDepth 100000 in
set_option maxHeartbeats 4000000 in
theorem step49_f5 {K : Nat → Prop} {w : World} {m : Nat} {ts : List Tm} {seen made : List (List Int)} {SA SB : Option Addr} {sc sd : Nat} {n : Int} {text : ByteArray} {keys raw : List Int} {I : Option Addr} {ic : Nat} (h : RStepP K w m ts seen made SA SB sc sd (⟨5, n, text, keys, raw⟩ : Ck) I ic) {l : List (List Int)} (hc : namedL made keys = some l) (hl : (l.length : Int) < 2) :
    Calls Try.prog 49 #[.pointer (some ⟨m, 0, none⟩), .slice SA seen.length sc, .slice SB made.length sd, .agg (ckCells (⟨5, n, text, keys, raw⟩ : Ck) I ic).toArray] w (RCookR K m w (ts, [])) := by
  have H := TF.start h.res h.lt
  have HR := hid (refR_ok m ts)
  have hP := fun ts' => hid (refR_ok m ts')
  have hs := hid h
  have hml := hs.out.ml
  have htl := hs.out.tl
  have hsl := hs.out.sl
  have hn := hid (And.intro hc trivial)
  clear h hc
  go_enter Try.func49, Try.ntmps49
  go_wp2_with (refine wpF_bxC (cs := ckCells (⟨5, n, text, keys, raw⟩ : Ck) I ic) 7 H HR.out rfl rfl rfl rfl (fun b7 w1 H1 => ?_); clear H; (conv => arg 5; simp only [Act.put, List.setIfInBounds_toArray, List.set_cons_succ, List.set_cons_zero]))
  go_loopw [9, 10] (fun o x wr => ∃ (i : Nat) (B : Option Addr) (d : Nat), i ≤ keys.length ∧ x = .int .i64 i ∧ o = .slice B i d ∧ TF K (refR m ts) w wr [.vec B i d 26 32 (nums .u8 ((keys.take i).map (getK made)).flatten), .blk b7 (cellsO 55 (ckCells (⟨5, n, text, keys, raw⟩ : Ck) I ic))] ∧ Hid ((keys.take i).all (inR made) = true)) (fun _ x _ => keys.length - (intOf x).toNat)
  case atStart => exact ⟨0, none, 0, by omega, rfl, rfl, H1.step HR.out (H1.reb.nil 26 32), hid rfl⟩
  case round =>
    obtain ⟨i, B, d, hi, rfl, rfl, Hi, HA⟩ := hrel
    clear H1
    have c3 := Hi.reb.cell (i := 3) (v := .slice I keys.length ic) (List.mem_cons_of_mem _ List.mem_cons_self) rfl
    by_cases hlt : i < keys.length
    · have hltI : (i : Int) < (keys.length : Int) := by omega
      obtain ⟨a, hae⟩ : ∃ a, keys[i]? = some a := ⟨keys[i], List.getElem?_eq_getElem hlt⟩
      obtain ⟨bi, oi, hIe, hcell⟩ := (show RowC w I (nums .i64 keys) from hs.out.ir).cell (i := i) (v := .int .i64 a) (by simp [nums, hae])
      have ci := ((Hi.rowC hs.out.ir hs.out.inn).cell (i := i) (v := .int .i64 a) (by simp [nums, hae]))
      subst hIe
      obtain ⟨_, _, he, ci⟩ := ci
      injection he with he
      injection he with he1 he2 _
      subst he1 he2
      have HAE := hid hae
      clear hae hcell
      cases hin : inR made a
      · exact absurd (named_in hn.out.1 (List.mem_of_getElem? HAE.out)) (by rw [hin]; simp)
      · obtain ⟨hg, hgk⟩ := getK_ok hs.out.mo hin
        have HIN := hid hin
        unfold inR at hin
        simp only [Bool.and_eq_true, decide_eq_true_eq] at hin
        obtain ⟨h0, h1⟩ := hin
        obtain ⟨b2, o2, hA2, hcc⟩ := keys_at hs.out.mo (Hi.row hs.out.mr hs.out.mn) hg
        subst hA2
        have HCC := hid hcc
        have HGK := hid hgk
        have hj2 : a.toNat < made.length := by omega
        obtain ⟨j, rfl⟩ : ∃ j : Nat, a = (j : Int) := ⟨a.toNat, by omega⟩
        rw [Int.toNat_natCast] at HCC hj2
        have hkl : keys.length ≤ 10 := hs.out.ck.kl
        clear hcc hg hgk
        go_wp2_with (first | (apply wpList_want; (· rfl)) | (refine wpList_ldagg 41 rfl Try.underlying26 rfl rfl rfl rfl HCC.out (s26k HGK.out) ?_; (conv => arg 5; simp only [Act.put, List.setIfInBounds_toArray, List.set_cons_succ, List.set_cons_zero])) | (refine wpF_bsK1 42 Hi HR.out rfl rfl rfl rfl HGK.out (fun b42 w3 H3 => ?_); clear Hi; (conv => arg 5; simp only [Act.put, List.setIfInBounds_toArray, List.set_cons_succ, List.set_cons_zero])) | (refine wpF_appK (qs := [getK made (j : Int)]) 43 H3 HR.out rfl rfl rfl rfl rfl (fun A' cap' => Swap.tail Swap.head) (H3.reb.blkT List.mem_cons_self) (one_ok HGK.out) (by simp only [List.length_singleton]; omega) (fun A2 c2 w4 H4 => ?_); clear H3; (conv => arg 5; simp only [Act.put, List.setIfInBounds_toArray, List.set_cons_succ, List.set_cons_zero])))
        go_round
        case rel =>
          refine ⟨i + 1, A2, c2, by omega, by go_num, rfl, ?_, ?_⟩
          · have h2 : (keys.take (i + 1)).map (getK made) = (keys.take i).map (getK made) ++ [getK made (j : Int)] := by
              obtain ⟨hl, he⟩ := List.getElem?_eq_some_iff.1 HAE.out
              rw [List.take_succ_eq_append_getElem hl, he]
              simp
            rw [h2]
            exact H4.sub (by (repeat (first | exact List.Sublist.refl _ | apply List.Sublist.cons_cons | apply List.Sublist.cons)))
          · refine hid ?_
            obtain ⟨hl, he⟩ := List.getElem?_eq_some_iff.1 HAE.out
            rw [List.take_succ_eq_append_getElem hl, List.all_append, HA.out, he]
            simp [HIN.out]
        case measure => simp [intOf]; omega
    · obtain rfl : i = keys.length := by omega
      have hkl := named_len hn.out.1
      have hsl2 : Value.slice B keys.length d = Value.slice B l.length d := by rw [hkl]
      rw [named_take hn.out.1, hkl] at Hi
      rw [hsl2]
      clear hsl2 HA hi hlt
      have c0 := Hi.reb.cell (i := 0) (v := .int .i64 5) (List.mem_cons_of_mem _ List.mem_cons_self) rfl
      go_wp2_with fail
      go_ret
      exact RCookR.no Hi
set_option maxRecDepth 100000 in
set_option maxHeartbeats 4000000 in
theorem step49_f6 {K : Nat → Prop} {w : World} {m : Nat} {ts : List Tm} {seen made : List (List Int)} {SA SB : Option Addr} {sc sd : Nat} {n : Int} {text : ByteArray} {keys raw : List Int} {I : Option Addr} {ic : Nat} (h : RStepP K w m ts seen made SA SB sc sd (⟨6, n, text, keys, raw⟩ : Ck) I ic) {l : List (List Int)} (hc : namedL made keys = some l) (hl : (l.length : Int) < 2) :
    Calls Try.prog 49 #[.pointer (some ⟨m, 0, none⟩), .slice SA seen.length sc, .slice SB made.length sd, .agg (ckCells (⟨6, n, text, keys, raw⟩ : Ck) I ic).toArray] w (RCookR K m w (ts, [])) := by
  have H := TF.start h.res h.lt
  have HR := hid (refR_ok m ts)
  have hP := fun ts' => hid (refR_ok m ts')
  have hs := hid h
  have hml := hs.out.ml
  have htl := hs.out.tl
  have hsl := hs.out.sl
  have hn := hid (And.intro hc trivial)
  clear h hc
  go_enter Try.func49, Try.ntmps49
  go_wp2_with (refine wpF_bxC (cs := ckCells (⟨6, n, text, keys, raw⟩ : Ck) I ic) 7 H HR.out rfl rfl rfl rfl (fun b7 w1 H1 => ?_); clear H; (conv => arg 5; simp only [Act.put, List.setIfInBounds_toArray, List.set_cons_succ, List.set_cons_zero]))
  go_loopw [9, 10] (fun o x wr => ∃ (i : Nat) (B : Option Addr) (d : Nat), i ≤ keys.length ∧ x = .int .i64 i ∧ o = .slice B i d ∧ TF K (refR m ts) w wr [.vec B i d 26 32 (nums .u8 ((keys.take i).map (getK made)).flatten), .blk b7 (cellsO 55 (ckCells (⟨6, n, text, keys, raw⟩ : Ck) I ic))] ∧ Hid ((keys.take i).all (inR made) = true)) (fun _ x _ => keys.length - (intOf x).toNat)
  case atStart => exact ⟨0, none, 0, by omega, rfl, rfl, H1.step HR.out (H1.reb.nil 26 32), hid rfl⟩
  case round =>
    obtain ⟨i, B, d, hi, rfl, rfl, Hi, HA⟩ := hrel
    clear H1
    have c3 := Hi.reb.cell (i := 3) (v := .slice I keys.length ic) (List.mem_cons_of_mem _ List.mem_cons_self) rfl
    by_cases hlt : i < keys.length
    · have hltI : (i : Int) < (keys.length : Int) := by omega
      obtain ⟨a, hae⟩ : ∃ a, keys[i]? = some a := ⟨keys[i], List.getElem?_eq_getElem hlt⟩
      obtain ⟨bi, oi, hIe, hcell⟩ := (show RowC w I (nums .i64 keys) from hs.out.ir).cell (i := i) (v := .int .i64 a) (by simp [nums, hae])
      have ci := ((Hi.rowC hs.out.ir hs.out.inn).cell (i := i) (v := .int .i64 a) (by simp [nums, hae]))
      subst hIe
      obtain ⟨_, _, he, ci⟩ := ci
      injection he with he
      injection he with he1 he2 _
      subst he1 he2
      have HAE := hid hae
      clear hae hcell
      cases hin : inR made a
      · exact absurd (named_in hn.out.1 (List.mem_of_getElem? HAE.out)) (by rw [hin]; simp)
      · obtain ⟨hg, hgk⟩ := getK_ok hs.out.mo hin
        have HIN := hid hin
        unfold inR at hin
        simp only [Bool.and_eq_true, decide_eq_true_eq] at hin
        obtain ⟨h0, h1⟩ := hin
        obtain ⟨b2, o2, hA2, hcc⟩ := keys_at hs.out.mo (Hi.row hs.out.mr hs.out.mn) hg
        subst hA2
        have HCC := hid hcc
        have HGK := hid hgk
        have hj2 : a.toNat < made.length := by omega
        obtain ⟨j, rfl⟩ : ∃ j : Nat, a = (j : Int) := ⟨a.toNat, by omega⟩
        rw [Int.toNat_natCast] at HCC hj2
        have hkl : keys.length ≤ 10 := hs.out.ck.kl
        clear hcc hg hgk
        go_wp2_with (first | (apply wpList_want; (· rfl)) | (refine wpList_ldagg 41 rfl Try.underlying26 rfl rfl rfl rfl HCC.out (s26k HGK.out) ?_; (conv => arg 5; simp only [Act.put, List.setIfInBounds_toArray, List.set_cons_succ, List.set_cons_zero])) | (refine wpF_bsK1 42 Hi HR.out rfl rfl rfl rfl HGK.out (fun b42 w3 H3 => ?_); clear Hi; (conv => arg 5; simp only [Act.put, List.setIfInBounds_toArray, List.set_cons_succ, List.set_cons_zero])) | (refine wpF_appK (qs := [getK made (j : Int)]) 43 H3 HR.out rfl rfl rfl rfl rfl (fun A' cap' => Swap.tail Swap.head) (H3.reb.blkT List.mem_cons_self) (one_ok HGK.out) (by simp only [List.length_singleton]; omega) (fun A2 c2 w4 H4 => ?_); clear H3; (conv => arg 5; simp only [Act.put, List.setIfInBounds_toArray, List.set_cons_succ, List.set_cons_zero])))
        go_round
        case rel =>
          refine ⟨i + 1, A2, c2, by omega, by go_num, rfl, ?_, ?_⟩
          · have h2 : (keys.take (i + 1)).map (getK made) = (keys.take i).map (getK made) ++ [getK made (j : Int)] := by
              obtain ⟨hl, he⟩ := List.getElem?_eq_some_iff.1 HAE.out
              rw [List.take_succ_eq_append_getElem hl, he]
              simp
            rw [h2]
            exact H4.sub (by (repeat (first | exact List.Sublist.refl _ | apply List.Sublist.cons_cons | apply List.Sublist.cons)))
          · refine hid ?_
            obtain ⟨hl, he⟩ := List.getElem?_eq_some_iff.1 HAE.out
            rw [List.take_succ_eq_append_getElem hl, List.all_append, HA.out, he]
            simp [HIN.out]
        case measure => simp [intOf]; omega
    · obtain rfl : i = keys.length := by omega
      have hkl := named_len hn.out.1
      have hsl2 : Value.slice B keys.length d = Value.slice B l.length d := by rw [hkl]
      rw [named_take hn.out.1, hkl] at Hi
      rw [hsl2]
      clear hsl2 HA hi hlt
      have c0 := Hi.reb.cell (i := 0) (v := .int .i64 6) (List.mem_cons_of_mem _ List.mem_cons_self) rfl
      go_wp2_with fail
      go_ret
      exact RCookR.no Hi
set_option maxRecDepth 100000 in
set_option maxHeartbeats 4000000 in
theorem step49_f7 {K : Nat → Prop} {w : World} {m : Nat} {ts : List Tm} {seen made : List (List Int)} {SA SB : Option Addr} {sc sd : Nat} {n : Int} {text : ByteArray} {keys raw : List Int} {I : Option Addr} {ic : Nat} (h : RStepP K w m ts seen made SA SB sc sd (⟨7, n, text, keys, raw⟩ : Ck) I ic) {l : List (List Int)} (hc : namedL made keys = some l) (hl : (l.length : Int) < 3) :
    Calls Try.prog 49 #[.pointer (some ⟨m, 0, none⟩), .slice SA seen.length sc, .slice SB made.length sd, .agg (ckCells (⟨7, n, text, keys, raw⟩ : Ck) I ic).toArray] w (RCookR K m w (ts, [])) := by
  have H := TF.start h.res h.lt
  have HR := hid (refR_ok m ts)
  have hP := fun ts' => hid (refR_ok m ts')
  have hs := hid h
  have hml := hs.out.ml
  have htl := hs.out.tl
  have hsl := hs.out.sl
  have hn := hid (And.intro hc trivial)
  clear h hc
  go_enter Try.func49, Try.ntmps49
  go_wp2_with (refine wpF_bxC (cs := ckCells (⟨7, n, text, keys, raw⟩ : Ck) I ic) 7 H HR.out rfl rfl rfl rfl (fun b7 w1 H1 => ?_); clear H; (conv => arg 5; simp only [Act.put, List.setIfInBounds_toArray, List.set_cons_succ, List.set_cons_zero]))
  go_loopw [9, 10] (fun o x wr => ∃ (i : Nat) (B : Option Addr) (d : Nat), i ≤ keys.length ∧ x = .int .i64 i ∧ o = .slice B i d ∧ TF K (refR m ts) w wr [.vec B i d 26 32 (nums .u8 ((keys.take i).map (getK made)).flatten), .blk b7 (cellsO 55 (ckCells (⟨7, n, text, keys, raw⟩ : Ck) I ic))] ∧ Hid ((keys.take i).all (inR made) = true)) (fun _ x _ => keys.length - (intOf x).toNat)
  case atStart => exact ⟨0, none, 0, by omega, rfl, rfl, H1.step HR.out (H1.reb.nil 26 32), hid rfl⟩
  case round =>
    obtain ⟨i, B, d, hi, rfl, rfl, Hi, HA⟩ := hrel
    clear H1
    have c3 := Hi.reb.cell (i := 3) (v := .slice I keys.length ic) (List.mem_cons_of_mem _ List.mem_cons_self) rfl
    by_cases hlt : i < keys.length
    · have hltI : (i : Int) < (keys.length : Int) := by omega
      obtain ⟨a, hae⟩ : ∃ a, keys[i]? = some a := ⟨keys[i], List.getElem?_eq_getElem hlt⟩
      obtain ⟨bi, oi, hIe, hcell⟩ := (show RowC w I (nums .i64 keys) from hs.out.ir).cell (i := i) (v := .int .i64 a) (by simp [nums, hae])
      have ci := ((Hi.rowC hs.out.ir hs.out.inn).cell (i := i) (v := .int .i64 a) (by simp [nums, hae]))
      subst hIe
      obtain ⟨_, _, he, ci⟩ := ci
      injection he with he
      injection he with he1 he2 _
      subst he1 he2
      have HAE := hid hae
      clear hae hcell
      cases hin : inR made a
      · exact absurd (named_in hn.out.1 (List.mem_of_getElem? HAE.out)) (by rw [hin]; simp)
      · obtain ⟨hg, hgk⟩ := getK_ok hs.out.mo hin
        have HIN := hid hin
        unfold inR at hin
        simp only [Bool.and_eq_true, decide_eq_true_eq] at hin
        obtain ⟨h0, h1⟩ := hin
        obtain ⟨b2, o2, hA2, hcc⟩ := keys_at hs.out.mo (Hi.row hs.out.mr hs.out.mn) hg
        subst hA2
        have HCC := hid hcc
        have HGK := hid hgk
        have hj2 : a.toNat < made.length := by omega
        obtain ⟨j, rfl⟩ : ∃ j : Nat, a = (j : Int) := ⟨a.toNat, by omega⟩
        rw [Int.toNat_natCast] at HCC hj2
        have hkl : keys.length ≤ 10 := hs.out.ck.kl
        clear hcc hg hgk
        go_wp2_with (first | (apply wpList_want; (· rfl)) | (refine wpList_ldagg 41 rfl Try.underlying26 rfl rfl rfl rfl HCC.out (s26k HGK.out) ?_; (conv => arg 5; simp only [Act.put, List.setIfInBounds_toArray, List.set_cons_succ, List.set_cons_zero])) | (refine wpF_bsK1 42 Hi HR.out rfl rfl rfl rfl HGK.out (fun b42 w3 H3 => ?_); clear Hi; (conv => arg 5; simp only [Act.put, List.setIfInBounds_toArray, List.set_cons_succ, List.set_cons_zero])) | (refine wpF_appK (qs := [getK made (j : Int)]) 43 H3 HR.out rfl rfl rfl rfl rfl (fun A' cap' => Swap.tail Swap.head) (H3.reb.blkT List.mem_cons_self) (one_ok HGK.out) (by simp only [List.length_singleton]; omega) (fun A2 c2 w4 H4 => ?_); clear H3; (conv => arg 5; simp only [Act.put, List.setIfInBounds_toArray, List.set_cons_succ, List.set_cons_zero])))
        go_round
        case rel =>
          refine ⟨i + 1, A2, c2, by omega, by go_num, rfl, ?_, ?_⟩
          · have h2 : (keys.take (i + 1)).map (getK made) = (keys.take i).map (getK made) ++ [getK made (j : Int)] := by
              obtain ⟨hl, he⟩ := List.getElem?_eq_some_iff.1 HAE.out
              rw [List.take_succ_eq_append_getElem hl, he]
              simp
            rw [h2]
            exact H4.sub (by (repeat (first | exact List.Sublist.refl _ | apply List.Sublist.cons_cons | apply List.Sublist.cons)))
          · refine hid ?_
            obtain ⟨hl, he⟩ := List.getElem?_eq_some_iff.1 HAE.out
            rw [List.take_succ_eq_append_getElem hl, List.all_append, HA.out, he]
            simp [HIN.out]
        case measure => simp [intOf]; omega
    · obtain rfl : i = keys.length := by omega
      have hkl := named_len hn.out.1
      have hsl2 : Value.slice B keys.length d = Value.slice B l.length d := by rw [hkl]
      rw [named_take hn.out.1, hkl] at Hi
      rw [hsl2]
      clear hsl2 HA hi hlt
      have c0 := Hi.reb.cell (i := 0) (v := .int .i64 7) (List.mem_cons_of_mem _ List.mem_cons_self) rfl
      go_wp2_with fail
      go_ret
      exact RCookR.no Hi
end Go.Proofs.Ytcapfnbmmdbcoaa
namespace Go.Proofs.Ytcapfnbmmdbcoaa
open Go.RowKit
theorem take_one {l : List (List Int)} {k : List Int} (h : l[0]? = some k) : l.take 1 = [k] := by
  cases l with
  | nil => cases h
  | cons a t => injection h with h; rw [h]; rfl
theorem take_row {w : World} {A : Option Addr} {k : Nat} {l : List (List Int)} (hl : ∀ x ∈ l, KeyOk x) (hr : RowT w 26 A (nums .u8 l.flatten)) : RowT w 26 A (nums .u8 (l.take k).flatten) := by
  have h := hr.take (k * 32)
  have e : (nums .u8 l.flatten).take (k * 32) = nums .u8 (l.take k).flatten := by
    rw [nums, ← List.map_take]
    refine congrArg _ ?_
    have h2 : l = l.take k ++ l.drop k := (List.take_append_drop k l).symm
    by_cases hk : k ≤ l.length
    · have e1 : (l.take k).flatten.length = k * 32 := by
        rw [flat_len (fun x hx => hl x (List.mem_of_mem_take hx)), List.length_take, Nat.min_eq_left hk]
        (try omega)
      rw [show l.flatten = (l.take k).flatten ++ (l.drop k).flatten from by rw [← List.flatten_append, ← h2], ← e1, List.take_left]
    · rw [List.take_of_length_le (l := l) (by omega), List.take_of_length_le (by rw [flat_len hl]; omega)]
  rwa [e] at h
set_option maxRecDepth 100000 in
set_option maxHeartbeats 4000000 in
theorem step49_2 {K : Nat → Prop} {w : World} {m : Nat} {ts : List Tm} {seen made : List (List Int)} {SA SB : Option Addr} {sc sd : Nat} {n : Int} {text : ByteArray} {keys raw : List Int} {I : Option Addr} {ic : Nat} (h : RStepP K w m ts seen made SA SB sc sd (⟨2, n, text, keys, raw⟩ : Ck) I ic) {l : List (List Int)} (hc : namedL made keys = some l) (hl : leastT 2 ≤ (l.length : Int)) :
    Calls Try.prog 49 #[.pointer (some ⟨m, 0, none⟩), .slice SA seen.length sc, .slice SB made.length sd, .agg (ckCells (⟨2, n, text, keys, raw⟩ : Ck) I ic).toArray] w (RCookR K m w (putN ts ⟨1, foeS text, []⟩)) := by
  have H := TF.start h.res h.lt
  have HR := hid (refR_ok m ts)
  have hP := fun ts' => hid (refR_ok m ts')
  have hs := hid h
  have hml := hs.out.ml
  have htl := hs.out.tl
  have hsl := hs.out.sl
  have hn := hid (And.intro hc (decide_eq_true hl))
  clear h hc hl
  have htx : text.size ≤ 200 := hs.out.ck.tx
  obtain ⟨hl10, hlk⟩ := hs.out.named hn.out.1
  have hfo : (ByteArray.mk #[102, 111, 101, 32]).size = 4 := rfl
  have hf5 : ByteArray.size ⟨#[102, 111, 101, 32]⟩ + text.size ≤ 1000 := by omega
  have HOK := hid (show TmOk ⟨1, foeS text, []⟩ from tmOk (by decide) (by decide) (foe_size htx) (by simp) (by simp))
  clear hlk
  go_enter Try.func49, Try.ntmps49
  go_wp2_with (refine wpF_bxC (cs := ckCells (⟨2, n, text, keys, raw⟩ : Ck) I ic) 7 H HR.out rfl rfl rfl rfl (fun b7 w1 H1 => ?_); clear H; (conv => arg 5; simp only [Act.put, List.setIfInBounds_toArray, List.set_cons_succ, List.set_cons_zero]))
  go_loopw [9, 10] (fun o x wr => ∃ (i : Nat) (B : Option Addr) (d : Nat), i ≤ keys.length ∧ x = .int .i64 i ∧ o = .slice B i d ∧ TF K (refR m ts) w wr [.vec B i d 26 32 (nums .u8 ((keys.take i).map (getK made)).flatten), .blk b7 (cellsO 55 (ckCells (⟨2, n, text, keys, raw⟩ : Ck) I ic))] ∧ Hid ((keys.take i).all (inR made) = true)) (fun _ x _ => keys.length - (intOf x).toNat)
  case atStart => exact ⟨0, none, 0, by omega, rfl, rfl, H1.step HR.out (H1.reb.nil 26 32), hid rfl⟩
  case round =>
    obtain ⟨i, B, d, hi, rfl, rfl, Hi, HA⟩ := hrel
    clear H1
    have c3 := Hi.reb.cell (i := 3) (v := .slice I keys.length ic) (List.mem_cons_of_mem _ List.mem_cons_self) rfl
    by_cases hlt : i < keys.length
    · have hltI : (i : Int) < (keys.length : Int) := by omega
      obtain ⟨a, hae⟩ : ∃ a, keys[i]? = some a := ⟨keys[i], List.getElem?_eq_getElem hlt⟩
      obtain ⟨bi, oi, hIe, hcell⟩ := (show RowC w I (nums .i64 keys) from hs.out.ir).cell (i := i) (v := .int .i64 a) (by simp [nums, hae])
      have ci := ((Hi.rowC hs.out.ir hs.out.inn).cell (i := i) (v := .int .i64 a) (by simp [nums, hae]))
      subst hIe
      obtain ⟨_, _, he, ci⟩ := ci
      injection he with he
      injection he with he1 he2 _
      subst he1 he2
      have HAE := hid hae
      clear hae hcell
      cases hin : inR made a
      · exact absurd (named_in hn.out.1 (List.mem_of_getElem? HAE.out)) (by rw [hin]; simp)
      · obtain ⟨hg, hgk⟩ := getK_ok hs.out.mo hin
        have HIN := hid hin
        unfold inR at hin
        simp only [Bool.and_eq_true, decide_eq_true_eq] at hin
        obtain ⟨h0, h1⟩ := hin
        obtain ⟨b2, o2, hA2, hcc⟩ := keys_at hs.out.mo (Hi.row hs.out.mr hs.out.mn) hg
        subst hA2
        have HCC := hid hcc
        have HGK := hid hgk
        have hj2 : a.toNat < made.length := by omega
        obtain ⟨j, rfl⟩ : ∃ j : Nat, a = (j : Int) := ⟨a.toNat, by omega⟩
        rw [Int.toNat_natCast] at HCC hj2
        have hkl : keys.length ≤ 10 := hs.out.ck.kl
        clear hcc hg hgk
        go_wp2_with (first | (apply wpList_want; (· rfl)) | (refine wpList_ldagg 41 rfl Try.underlying26 rfl rfl rfl rfl HCC.out (s26k HGK.out) ?_; (conv => arg 5; simp only [Act.put, List.setIfInBounds_toArray, List.set_cons_succ, List.set_cons_zero])) | (refine wpF_bsK1 42 Hi HR.out rfl rfl rfl rfl HGK.out (fun b42 w3 H3 => ?_); clear Hi; (conv => arg 5; simp only [Act.put, List.setIfInBounds_toArray, List.set_cons_succ, List.set_cons_zero])) | (refine wpF_appK (qs := [getK made (j : Int)]) 43 H3 HR.out rfl rfl rfl rfl rfl (fun A' cap' => Swap.tail Swap.head) (H3.reb.blkT List.mem_cons_self) (one_ok HGK.out) (by simp only [List.length_singleton]; omega) (fun A2 c2 w4 H4 => ?_); clear H3; (conv => arg 5; simp only [Act.put, List.setIfInBounds_toArray, List.set_cons_succ, List.set_cons_zero])))
        go_round
        case rel =>
          refine ⟨i + 1, A2, c2, by omega, by go_num, rfl, ?_, ?_⟩
          · have h2 : (keys.take (i + 1)).map (getK made) = (keys.take i).map (getK made) ++ [getK made (j : Int)] := by
              obtain ⟨hl, he⟩ := List.getElem?_eq_some_iff.1 HAE.out
              rw [List.take_succ_eq_append_getElem hl, he]
              simp
            rw [h2]
            exact H4.sub (by (repeat (first | exact List.Sublist.refl _ | apply List.Sublist.cons_cons | apply List.Sublist.cons)))
          · refine hid ?_
            obtain ⟨hl, he⟩ := List.getElem?_eq_some_iff.1 HAE.out
            rw [List.take_succ_eq_append_getElem hl, List.all_append, HA.out, he]
            simp [HIN.out]
        case measure => simp [intOf]; omega
    · obtain rfl : i = keys.length := by omega
      have hkl := named_len hn.out.1
      have hsl2 : Value.slice B keys.length d = Value.slice B l.length d := by rw [hkl]
      rw [named_take hn.out.1, hkl] at Hi
      rw [hsl2]
      clear hsl2 HA hi hlt
      have c0 := Hi.reb.cell (i := 0) (v := .int .i64 2) (List.mem_cons_of_mem _ List.mem_cons_self) rfl
      have c2 := Hi.reb.cell (i := 2) (v := .string text) (List.mem_cons_of_mem _ List.mem_cons_self) rfl
      go_wp2_with (first | fail | (go_at_call 45; refine (MakeR (t := ⟨1, foeS text, []⟩) (B := none) (d := 0) Hi rfl HOK.out RowT.nil (by omega)).mono ?_; clear Hi c0 c2; rintro e wn ⟨rfl, H⟩) | (refine wpF_bsK1 104 H (hP _).out rfl rfl rfl rfl (nm_ok _ _) (fun b104 wn Hn => ?_); clear H; rename TF _ _ _ _ _ => H; (conv => arg 5; simp only [Act.put, List.setIfInBounds_toArray, List.set_cons_succ, List.set_cons_zero])))
      go_ret
      exact RCookR.one H (by (repeat (first | exact List.mem_cons_self | refine List.mem_cons_of_mem _ ?_))) rfl
set_option maxRecDepth 100000 in
set_option maxHeartbeats 4000000 in
theorem step49_3 {K : Nat → Prop} {w : World} {m : Nat} {ts : List Tm} {seen made : List (List Int)} {SA SB : Option Addr} {sc sd : Nat} {n : Int} {text : ByteArray} {keys raw : List Int} {I : Option Addr} {ic : Nat} (h : RStepP K w m ts seen made SA SB sc sd (⟨3, n, text, keys, raw⟩ : Ck) I ic) {l : List (List Int)} (hc : namedL made keys = some l) (hl : leastT 3 ≤ (l.length : Int)) :
    Calls Try.prog 49 #[.pointer (some ⟨m, 0, none⟩), .slice SA seen.length sc, .slice SB made.length sd, .agg (ckCells (⟨3, n, text, keys, raw⟩ : Ck) I ic).toArray] w (RCookR K m w (putN ts ⟨2, text, l⟩)) := by
  have H := TF.start h.res h.lt
  have HR := hid (refR_ok m ts)
  have hP := fun ts' => hid (refR_ok m ts')
  have hs := hid h
  have hml := hs.out.ml
  have htl := hs.out.tl
  have hsl := hs.out.sl
  have hn := hid (And.intro hc (decide_eq_true hl))
  clear h hc hl
  have htx : text.size ≤ 200 := hs.out.ck.tx
  obtain ⟨hl10, hlk⟩ := hs.out.named hn.out.1
  have HOK := hid (show TmOk ⟨2, text, l⟩ from tmOk (by decide) (by decide) (by omega) (show l.length ≤ 1000 from by omega) (by simpa using hlk))
  clear hlk
  go_enter Try.func49, Try.ntmps49
  go_wp2_with (refine wpF_bxC (cs := ckCells (⟨3, n, text, keys, raw⟩ : Ck) I ic) 7 H HR.out rfl rfl rfl rfl (fun b7 w1 H1 => ?_); clear H; (conv => arg 5; simp only [Act.put, List.setIfInBounds_toArray, List.set_cons_succ, List.set_cons_zero]))
  go_loopw [9, 10] (fun o x wr => ∃ (i : Nat) (B : Option Addr) (d : Nat), i ≤ keys.length ∧ x = .int .i64 i ∧ o = .slice B i d ∧ TF K (refR m ts) w wr [.vec B i d 26 32 (nums .u8 ((keys.take i).map (getK made)).flatten), .blk b7 (cellsO 55 (ckCells (⟨3, n, text, keys, raw⟩ : Ck) I ic))] ∧ Hid ((keys.take i).all (inR made) = true)) (fun _ x _ => keys.length - (intOf x).toNat)
  case atStart => exact ⟨0, none, 0, by omega, rfl, rfl, H1.step HR.out (H1.reb.nil 26 32), hid rfl⟩
  case round =>
    obtain ⟨i, B, d, hi, rfl, rfl, Hi, HA⟩ := hrel
    clear H1
    have c3 := Hi.reb.cell (i := 3) (v := .slice I keys.length ic) (List.mem_cons_of_mem _ List.mem_cons_self) rfl
    by_cases hlt : i < keys.length
    · have hltI : (i : Int) < (keys.length : Int) := by omega
      obtain ⟨a, hae⟩ : ∃ a, keys[i]? = some a := ⟨keys[i], List.getElem?_eq_getElem hlt⟩
      obtain ⟨bi, oi, hIe, hcell⟩ := (show RowC w I (nums .i64 keys) from hs.out.ir).cell (i := i) (v := .int .i64 a) (by simp [nums, hae])
      have ci := ((Hi.rowC hs.out.ir hs.out.inn).cell (i := i) (v := .int .i64 a) (by simp [nums, hae]))
      subst hIe
      obtain ⟨_, _, he, ci⟩ := ci
      injection he with he
      injection he with he1 he2 _
      subst he1 he2
      have HAE := hid hae
      clear hae hcell
      cases hin : inR made a
      · exact absurd (named_in hn.out.1 (List.mem_of_getElem? HAE.out)) (by rw [hin]; simp)
      · obtain ⟨hg, hgk⟩ := getK_ok hs.out.mo hin
        have HIN := hid hin
        unfold inR at hin
        simp only [Bool.and_eq_true, decide_eq_true_eq] at hin
        obtain ⟨h0, h1⟩ := hin
        obtain ⟨b2, o2, hA2, hcc⟩ := keys_at hs.out.mo (Hi.row hs.out.mr hs.out.mn) hg
        subst hA2
        have HCC := hid hcc
        have HGK := hid hgk
        have hj2 : a.toNat < made.length := by omega
        obtain ⟨j, rfl⟩ : ∃ j : Nat, a = (j : Int) := ⟨a.toNat, by omega⟩
        rw [Int.toNat_natCast] at HCC hj2
        have hkl : keys.length ≤ 10 := hs.out.ck.kl
        clear hcc hg hgk
        go_wp2_with (first | (apply wpList_want; (· rfl)) | (refine wpList_ldagg 41 rfl Try.underlying26 rfl rfl rfl rfl HCC.out (s26k HGK.out) ?_; (conv => arg 5; simp only [Act.put, List.setIfInBounds_toArray, List.set_cons_succ, List.set_cons_zero])) | (refine wpF_bsK1 42 Hi HR.out rfl rfl rfl rfl HGK.out (fun b42 w3 H3 => ?_); clear Hi; (conv => arg 5; simp only [Act.put, List.setIfInBounds_toArray, List.set_cons_succ, List.set_cons_zero])) | (refine wpF_appK (qs := [getK made (j : Int)]) 43 H3 HR.out rfl rfl rfl rfl rfl (fun A' cap' => Swap.tail Swap.head) (H3.reb.blkT List.mem_cons_self) (one_ok HGK.out) (by simp only [List.length_singleton]; omega) (fun A2 c2 w4 H4 => ?_); clear H3; (conv => arg 5; simp only [Act.put, List.setIfInBounds_toArray, List.set_cons_succ, List.set_cons_zero])))
        go_round
        case rel =>
          refine ⟨i + 1, A2, c2, by omega, by go_num, rfl, ?_, ?_⟩
          · have h2 : (keys.take (i + 1)).map (getK made) = (keys.take i).map (getK made) ++ [getK made (j : Int)] := by
              obtain ⟨hl, he⟩ := List.getElem?_eq_some_iff.1 HAE.out
              rw [List.take_succ_eq_append_getElem hl, he]
              simp
            rw [h2]
            exact H4.sub (by (repeat (first | exact List.Sublist.refl _ | apply List.Sublist.cons_cons | apply List.Sublist.cons)))
          · refine hid ?_
            obtain ⟨hl, he⟩ := List.getElem?_eq_some_iff.1 HAE.out
            rw [List.take_succ_eq_append_getElem hl, List.all_append, HA.out, he]
            simp [HIN.out]
        case measure => simp [intOf]; omega
    · obtain rfl : i = keys.length := by omega
      have hkl := named_len hn.out.1
      have hsl2 : Value.slice B keys.length d = Value.slice B l.length d := by rw [hkl]
      rw [named_take hn.out.1, hkl] at Hi
      rw [hsl2]
      clear hsl2 HA hi hlt
      have c0 := Hi.reb.cell (i := 0) (v := .int .i64 3) (List.mem_cons_of_mem _ List.mem_cons_self) rfl
      have c2 := Hi.reb.cell (i := 2) (v := .string text) (List.mem_cons_of_mem _ List.mem_cons_self) rfl
      go_wp2_with (first | fail | (go_at_call 45; refine (MakeR (t := ⟨2, text, l⟩) Hi rfl HOK.out (Hi.reb.vecT List.mem_cons_self) (by omega)).mono ?_; clear Hi c0 c2; rintro e wn ⟨rfl, H⟩) | (refine wpF_bsK1 112 H (hP _).out rfl rfl rfl rfl (nm_ok _ _) (fun b112 wn Hn => ?_); clear H; rename TF _ _ _ _ _ => H; (conv => arg 5; simp only [Act.put, List.setIfInBounds_toArray, List.set_cons_succ, List.set_cons_zero])))
      go_ret
      exact RCookR.one H (by (repeat (first | exact List.mem_cons_self | refine List.mem_cons_of_mem _ ?_))) rfl
set_option maxRecDepth 100000 in
set_option maxHeartbeats 4000000 in
theorem step49_4 {K : Nat → Prop} {w : World} {m : Nat} {ts : List Tm} {seen made : List (List Int)} {SA SB : Option Addr} {sc sd : Nat} {n : Int} {text : ByteArray} {keys raw : List Int} {I : Option Addr} {ic : Nat} (h : RStepP K w m ts seen made SA SB sc sd (⟨4, n, text, keys, raw⟩ : Ck) I ic) {l : List (List Int)} (hc : namedL made keys = some l) (hl : leastT 4 ≤ (l.length : Int)) :
    Calls Try.prog 49 #[.pointer (some ⟨m, 0, none⟩), .slice SA seen.length sc, .slice SB made.length sd, .agg (ckCells (⟨4, n, text, keys, raw⟩ : Ck) I ic).toArray] w (RCookR K m w (putN ts ⟨3, ⟨#[]⟩, [l.getD 0 []]⟩)) := by
  have H := TF.start h.res h.lt
  have HR := hid (refR_ok m ts)
  have hP := fun ts' => hid (refR_ok m ts')
  have hs := hid h
  have hml := hs.out.ml
  have htl := hs.out.tl
  have hsl := hs.out.sl
  have hn := hid (And.intro hc (decide_eq_true hl))
  clear h hc hl
  have htx : text.size ≤ 200 := hs.out.ck.tx
  obtain ⟨hl10, hlk⟩ := hs.out.named hn.out.1
  have hl1 : 1 ≤ l.length := by have := of_decide_eq_true hn.out.2; simp [leastT] at this; omega
  have hl0 : ¬ l = [] := fun e => by rw [e] at hl1; simp at hl1
  have HA := hid (at_getD (l := l) (i := 0) (by omega))
  obtain ⟨ka, ha⟩ : ∃ a, a = l.getD 0 [] := ⟨_, rfl⟩
  rw [← ha] at HA ⊢
  have HAK := hid (hlk _ (List.mem_of_getElem? HA.out))
  have HLK := hid hlk
  have HT1 := hid (take_one HA.out)
  have HOK := hid (show TmOk ⟨3, ⟨#[]⟩, [ka]⟩ from tmOk (by decide) (by decide) (by decide) (by simp) (by simpa using HAK.out))
  have hl1I : ¬ (l.length : Int) < 1 := by omega
  clear hlk ha
  go_enter Try.func49, Try.ntmps49
  go_wp2_with (refine wpF_bxC (cs := ckCells (⟨4, n, text, keys, raw⟩ : Ck) I ic) 7 H HR.out rfl rfl rfl rfl (fun b7 w1 H1 => ?_); clear H; (conv => arg 5; simp only [Act.put, List.setIfInBounds_toArray, List.set_cons_succ, List.set_cons_zero]))
  go_loopw [9, 10] (fun o x wr => ∃ (i : Nat) (B : Option Addr) (d : Nat), i ≤ keys.length ∧ x = .int .i64 i ∧ o = .slice B i d ∧ TF K (refR m ts) w wr [.vec B i d 26 32 (nums .u8 ((keys.take i).map (getK made)).flatten), .blk b7 (cellsO 55 (ckCells (⟨4, n, text, keys, raw⟩ : Ck) I ic))] ∧ Hid ((keys.take i).all (inR made) = true)) (fun _ x _ => keys.length - (intOf x).toNat)
  case atStart => exact ⟨0, none, 0, by omega, rfl, rfl, H1.step HR.out (H1.reb.nil 26 32), hid rfl⟩
  case round =>
    obtain ⟨i, B, d, hi, rfl, rfl, Hi, HA⟩ := hrel
    clear H1
    have c3 := Hi.reb.cell (i := 3) (v := .slice I keys.length ic) (List.mem_cons_of_mem _ List.mem_cons_self) rfl
    by_cases hlt : i < keys.length
    · have hltI : (i : Int) < (keys.length : Int) := by omega
      obtain ⟨a, hae⟩ : ∃ a, keys[i]? = some a := ⟨keys[i], List.getElem?_eq_getElem hlt⟩
      obtain ⟨bi, oi, hIe, hcell⟩ := (show RowC w I (nums .i64 keys) from hs.out.ir).cell (i := i) (v := .int .i64 a) (by simp [nums, hae])
      have ci := ((Hi.rowC hs.out.ir hs.out.inn).cell (i := i) (v := .int .i64 a) (by simp [nums, hae]))
      subst hIe
      obtain ⟨_, _, he, ci⟩ := ci
      injection he with he
      injection he with he1 he2 _
      subst he1 he2
      have HAE := hid hae
      clear hae hcell
      cases hin : inR made a
      · exact absurd (named_in hn.out.1 (List.mem_of_getElem? HAE.out)) (by rw [hin]; simp)
      · obtain ⟨hg, hgk⟩ := getK_ok hs.out.mo hin
        have HIN := hid hin
        unfold inR at hin
        simp only [Bool.and_eq_true, decide_eq_true_eq] at hin
        obtain ⟨h0, h1⟩ := hin
        obtain ⟨b2, o2, hA2, hcc⟩ := keys_at hs.out.mo (Hi.row hs.out.mr hs.out.mn) hg
        subst hA2
        have HCC := hid hcc
        have HGK := hid hgk
        have hj2 : a.toNat < made.length := by omega
        obtain ⟨j, rfl⟩ : ∃ j : Nat, a = (j : Int) := ⟨a.toNat, by omega⟩
        rw [Int.toNat_natCast] at HCC hj2
        have hkl : keys.length ≤ 10 := hs.out.ck.kl
        clear hcc hg hgk
        go_wp2_with (first | (apply wpList_want; (· rfl)) | (refine wpList_ldagg 41 rfl Try.underlying26 rfl rfl rfl rfl HCC.out (s26k HGK.out) ?_; (conv => arg 5; simp only [Act.put, List.setIfInBounds_toArray, List.set_cons_succ, List.set_cons_zero])) | (refine wpF_bsK1 42 Hi HR.out rfl rfl rfl rfl HGK.out (fun b42 w3 H3 => ?_); clear Hi; (conv => arg 5; simp only [Act.put, List.setIfInBounds_toArray, List.set_cons_succ, List.set_cons_zero])) | (refine wpF_appK (qs := [getK made (j : Int)]) 43 H3 HR.out rfl rfl rfl rfl rfl (fun A' cap' => Swap.tail Swap.head) (H3.reb.blkT List.mem_cons_self) (one_ok HGK.out) (by simp only [List.length_singleton]; omega) (fun A2 c2 w4 H4 => ?_); clear H3; (conv => arg 5; simp only [Act.put, List.setIfInBounds_toArray, List.set_cons_succ, List.set_cons_zero])))
        go_round
        case rel =>
          refine ⟨i + 1, A2, c2, by omega, by go_num, rfl, ?_, ?_⟩
          · have h2 : (keys.take (i + 1)).map (getK made) = (keys.take i).map (getK made) ++ [getK made (j : Int)] := by
              obtain ⟨hl, he⟩ := List.getElem?_eq_some_iff.1 HAE.out
              rw [List.take_succ_eq_append_getElem hl, he]
              simp
            rw [h2]
            exact H4.sub (by (repeat (first | exact List.Sublist.refl _ | apply List.Sublist.cons_cons | apply List.Sublist.cons)))
          · refine hid ?_
            obtain ⟨hl, he⟩ := List.getElem?_eq_some_iff.1 HAE.out
            rw [List.take_succ_eq_append_getElem hl, List.all_append, HA.out, he]
            simp [HIN.out]
        case measure => simp [intOf]; omega
    · obtain rfl : i = keys.length := by omega
      have hkl := named_len hn.out.1
      have hsl2 : Value.slice B keys.length d = Value.slice B l.length d := by rw [hkl]
      rw [named_take hn.out.1, hkl] at Hi
      rw [hsl2]
      clear hsl2 HA hi hlt
      have c0 := Hi.reb.cell (i := 0) (v := .int .i64 4) (List.mem_cons_of_mem _ List.mem_cons_self) rfl
      have hcap := Hi.reb.vec_cap List.mem_cons_self
      have HKR := hid (take_row (k := 1) HLK.out (Hi.reb.vecT List.mem_cons_self))
      rw [HT1.out] at HKR
      go_wp2_with (first | fail | (refine wpList_slHighM 1 Try.underlying34 s26 rfl rfl rfl rfl rfl (by omega) ?_; (conv => arg 5; simp only [Act.put, List.setIfInBounds_toArray, List.set_cons_succ, List.set_cons_zero])) | (go_at_call 45; refine (MakeR (t := ⟨3, ⟨#[]⟩, [ka]⟩) Hi rfl HOK.out HKR.out (by omega)).mono ?_; clear Hi c0 hcap HKR; rintro e wn ⟨rfl, H⟩) | (refine wpF_bsK1 119 H (hP _).out rfl rfl rfl rfl (nm_ok _ _) (fun b119 wn Hn => ?_); clear H; rename TF _ _ _ _ _ => H; (conv => arg 5; simp only [Act.put, List.setIfInBounds_toArray, List.set_cons_succ, List.set_cons_zero])))
      go_ret
      exact RCookR.one H (by (repeat (first | exact List.mem_cons_self | refine List.mem_cons_of_mem _ ?_))) rfl
end Go.Proofs.Ytcapfnbmmdbcoaa
namespace Go.Proofs.Ytcapfnbmmdbcoaa
open Go.RowKit
set_option maxRecDepth 100000 in
set_option maxHeartbeats 4000000 in
theorem step49_1a {K : Nat → Prop} {w : World} {m : Nat} {ts : List Tm} {seen made : List (List Int)} {SA SB : Option Addr} {sc sd : Nat} {n : Int} {text : ByteArray} {keys raw : List Int} {I : Option Addr} {ic : Nat} (h : RStepP K w m ts seen made SA SB sc sd (⟨1, n, text, keys, raw⟩ : Ck) I ic) {l : List (List Int)} (hc : namedL made keys = some l) (hl : leastT 1 ≤ (l.length : Int)) (h0 : n < 0) :
    Calls Try.prog 49 #[.pointer (some ⟨m, 0, none⟩), .slice SA seen.length sc, .slice SB made.length sd, .agg (ckCells (⟨1, n, text, keys, raw⟩ : Ck) I ic).toArray] w (RCookR K m w (ts, [])) := by
  have H := TF.start h.res h.lt
  have HR := hid (refR_ok m ts)
  have hP := fun ts' => hid (refR_ok m ts')
  have hs := hid h
  have hml := hs.out.ml
  have htl := hs.out.tl
  have hsl := hs.out.sl
  have hn := hid (And.intro hc (decide_eq_true hl))
  clear h hc hl
  have htx : text.size ≤ 200 := hs.out.ck.tx
  obtain ⟨hl10, hlk⟩ := hs.out.named hn.out.1
  clear hlk
  go_enter Try.func49, Try.ntmps49
  go_wp2_with (refine wpF_bxC (cs := ckCells (⟨1, n, text, keys, raw⟩ : Ck) I ic) 7 H HR.out rfl rfl rfl rfl (fun b7 w1 H1 => ?_); clear H; (conv => arg 5; simp only [Act.put, List.setIfInBounds_toArray, List.set_cons_succ, List.set_cons_zero]))
  go_loopw [9, 10] (fun o x wr => ∃ (i : Nat) (B : Option Addr) (d : Nat), i ≤ keys.length ∧ x = .int .i64 i ∧ o = .slice B i d ∧ TF K (refR m ts) w wr [.vec B i d 26 32 (nums .u8 ((keys.take i).map (getK made)).flatten), .blk b7 (cellsO 55 (ckCells (⟨1, n, text, keys, raw⟩ : Ck) I ic))] ∧ Hid ((keys.take i).all (inR made) = true)) (fun _ x _ => keys.length - (intOf x).toNat)
  case atStart => exact ⟨0, none, 0, by omega, rfl, rfl, H1.step HR.out (H1.reb.nil 26 32), hid rfl⟩
  case round =>
    obtain ⟨i, B, d, hi, rfl, rfl, Hi, HA⟩ := hrel
    clear H1
    have c3 := Hi.reb.cell (i := 3) (v := .slice I keys.length ic) (List.mem_cons_of_mem _ List.mem_cons_self) rfl
    by_cases hlt : i < keys.length
    · have hltI : (i : Int) < (keys.length : Int) := by omega
      obtain ⟨a, hae⟩ : ∃ a, keys[i]? = some a := ⟨keys[i], List.getElem?_eq_getElem hlt⟩
      obtain ⟨bi, oi, hIe, hcell⟩ := (show RowC w I (nums .i64 keys) from hs.out.ir).cell (i := i) (v := .int .i64 a) (by simp [nums, hae])
      have ci := ((Hi.rowC hs.out.ir hs.out.inn).cell (i := i) (v := .int .i64 a) (by simp [nums, hae]))
      subst hIe
      obtain ⟨_, _, he, ci⟩ := ci
      injection he with he
      injection he with he1 he2 _
      subst he1 he2
      have HAE := hid hae
      clear hae hcell
      cases hin : inR made a
      · exact absurd (named_in hn.out.1 (List.mem_of_getElem? HAE.out)) (by rw [hin]; simp)
      · obtain ⟨hg, hgk⟩ := getK_ok hs.out.mo hin
        have HIN := hid hin
        unfold inR at hin
        simp only [Bool.and_eq_true, decide_eq_true_eq] at hin
        obtain ⟨h0, h1⟩ := hin
        obtain ⟨b2, o2, hA2, hcc⟩ := keys_at hs.out.mo (Hi.row hs.out.mr hs.out.mn) hg
        subst hA2
        have HCC := hid hcc
        have HGK := hid hgk
        have hj2 : a.toNat < made.length := by omega
        obtain ⟨j, rfl⟩ : ∃ j : Nat, a = (j : Int) := ⟨a.toNat, by omega⟩
        rw [Int.toNat_natCast] at HCC hj2
        have hkl : keys.length ≤ 10 := hs.out.ck.kl
        clear hcc hg hgk
        go_wp2_with (first | (apply wpList_want; (· rfl)) | (refine wpList_ldagg 41 rfl Try.underlying26 rfl rfl rfl rfl HCC.out (s26k HGK.out) ?_; (conv => arg 5; simp only [Act.put, List.setIfInBounds_toArray, List.set_cons_succ, List.set_cons_zero])) | (refine wpF_bsK1 42 Hi HR.out rfl rfl rfl rfl HGK.out (fun b42 w3 H3 => ?_); clear Hi; (conv => arg 5; simp only [Act.put, List.setIfInBounds_toArray, List.set_cons_succ, List.set_cons_zero])) | (refine wpF_appK (qs := [getK made (j : Int)]) 43 H3 HR.out rfl rfl rfl rfl rfl (fun A' cap' => Swap.tail Swap.head) (H3.reb.blkT List.mem_cons_self) (one_ok HGK.out) (by simp only [List.length_singleton]; omega) (fun A2 c2 w4 H4 => ?_); clear H3; (conv => arg 5; simp only [Act.put, List.setIfInBounds_toArray, List.set_cons_succ, List.set_cons_zero])))
        go_round
        case rel =>
          refine ⟨i + 1, A2, c2, by omega, by go_num, rfl, ?_, ?_⟩
          · have h2 : (keys.take (i + 1)).map (getK made) = (keys.take i).map (getK made) ++ [getK made (j : Int)] := by
              obtain ⟨hl, he⟩ := List.getElem?_eq_some_iff.1 HAE.out
              rw [List.take_succ_eq_append_getElem hl, he]
              simp
            rw [h2]
            exact H4.sub (by (repeat (first | exact List.Sublist.refl _ | apply List.Sublist.cons_cons | apply List.Sublist.cons)))
          · refine hid ?_
            obtain ⟨hl, he⟩ := List.getElem?_eq_some_iff.1 HAE.out
            rw [List.take_succ_eq_append_getElem hl, List.all_append, HA.out, he]
            simp [HIN.out]
        case measure => simp [intOf]; omega
    · obtain rfl : i = keys.length := by omega
      have hkl := named_len hn.out.1
      have hsl2 : Value.slice B keys.length d = Value.slice B l.length d := by rw [hkl]
      rw [named_take hn.out.1, hkl] at Hi
      rw [hsl2]
      clear hsl2 HA hi hlt
      have c0 := Hi.reb.cell (i := 0) (v := .int .i64 1) (List.mem_cons_of_mem _ List.mem_cons_self) rfl
      have c1 := Hi.reb.cell (i := 1) (v := .int .i64 n) (List.mem_cons_of_mem _ List.mem_cons_self) rfl
      go_wp2_with (first | fail)
      go_ret
      exact RCookR.no Hi
set_option maxRecDepth 100000 in
set_option maxHeartbeats 4000000 in
theorem step49_1b {K : Nat → Prop} {w : World} {m : Nat} {ts : List Tm} {seen made : List (List Int)} {SA SB : Option Addr} {sc sd : Nat} {n : Int} {text : ByteArray} {keys raw : List Int} {I : Option Addr} {ic : Nat} (h : RStepP K w m ts seen made SA SB sc sd (⟨1, n, text, keys, raw⟩ : Ck) I ic) {l : List (List Int)} (hc : namedL made keys = some l) (hl : leastT 1 ≤ (l.length : Int)) (h0 : 0 ≤ n) (h1 : (seen.length : Int) ≤ n) :
    Calls Try.prog 49 #[.pointer (some ⟨m, 0, none⟩), .slice SA seen.length sc, .slice SB made.length sd, .agg (ckCells (⟨1, n, text, keys, raw⟩ : Ck) I ic).toArray] w (RCookR K m w (ts, [])) := by
  have H := TF.start h.res h.lt
  have HR := hid (refR_ok m ts)
  have hP := fun ts' => hid (refR_ok m ts')
  have hs := hid h
  have hml := hs.out.ml
  have htl := hs.out.tl
  have hsl := hs.out.sl
  have hn := hid (And.intro hc (decide_eq_true hl))
  clear h hc hl
  have htx : text.size ≤ 200 := hs.out.ck.tx
  obtain ⟨hl10, hlk⟩ := hs.out.named hn.out.1
  clear hlk
  go_enter Try.func49, Try.ntmps49
  go_wp2_with (refine wpF_bxC (cs := ckCells (⟨1, n, text, keys, raw⟩ : Ck) I ic) 7 H HR.out rfl rfl rfl rfl (fun b7 w1 H1 => ?_); clear H; (conv => arg 5; simp only [Act.put, List.setIfInBounds_toArray, List.set_cons_succ, List.set_cons_zero]))
  go_loopw [9, 10] (fun o x wr => ∃ (i : Nat) (B : Option Addr) (d : Nat), i ≤ keys.length ∧ x = .int .i64 i ∧ o = .slice B i d ∧ TF K (refR m ts) w wr [.vec B i d 26 32 (nums .u8 ((keys.take i).map (getK made)).flatten), .blk b7 (cellsO 55 (ckCells (⟨1, n, text, keys, raw⟩ : Ck) I ic))] ∧ Hid ((keys.take i).all (inR made) = true)) (fun _ x _ => keys.length - (intOf x).toNat)
  case atStart => exact ⟨0, none, 0, by omega, rfl, rfl, H1.step HR.out (H1.reb.nil 26 32), hid rfl⟩
  case round =>
    obtain ⟨i, B, d, hi, rfl, rfl, Hi, HA⟩ := hrel
    clear H1
    have c3 := Hi.reb.cell (i := 3) (v := .slice I keys.length ic) (List.mem_cons_of_mem _ List.mem_cons_self) rfl
    by_cases hlt : i < keys.length
    · have hltI : (i : Int) < (keys.length : Int) := by omega
      obtain ⟨a, hae⟩ : ∃ a, keys[i]? = some a := ⟨keys[i], List.getElem?_eq_getElem hlt⟩
      obtain ⟨bi, oi, hIe, hcell⟩ := (show RowC w I (nums .i64 keys) from hs.out.ir).cell (i := i) (v := .int .i64 a) (by simp [nums, hae])
      have ci := ((Hi.rowC hs.out.ir hs.out.inn).cell (i := i) (v := .int .i64 a) (by simp [nums, hae]))
      subst hIe
      obtain ⟨_, _, he, ci⟩ := ci
      injection he with he
      injection he with he1 he2 _
      subst he1 he2
      have HAE := hid hae
      clear hae hcell
      cases hin : inR made a
      · exact absurd (named_in hn.out.1 (List.mem_of_getElem? HAE.out)) (by rw [hin]; simp)
      · obtain ⟨hg, hgk⟩ := getK_ok hs.out.mo hin
        have HIN := hid hin
        unfold inR at hin
        simp only [Bool.and_eq_true, decide_eq_true_eq] at hin
        obtain ⟨h0, h1⟩ := hin
        obtain ⟨b2, o2, hA2, hcc⟩ := keys_at hs.out.mo (Hi.row hs.out.mr hs.out.mn) hg
        subst hA2
        have HCC := hid hcc
        have HGK := hid hgk
        have hj2 : a.toNat < made.length := by omega
        obtain ⟨j, rfl⟩ : ∃ j : Nat, a = (j : Int) := ⟨a.toNat, by omega⟩
        rw [Int.toNat_natCast] at HCC hj2
        have hkl : keys.length ≤ 10 := hs.out.ck.kl
        clear hcc hg hgk
        go_wp2_with (first | (apply wpList_want; (· rfl)) | (refine wpList_ldagg 41 rfl Try.underlying26 rfl rfl rfl rfl HCC.out (s26k HGK.out) ?_; (conv => arg 5; simp only [Act.put, List.setIfInBounds_toArray, List.set_cons_succ, List.set_cons_zero])) | (refine wpF_bsK1 42 Hi HR.out rfl rfl rfl rfl HGK.out (fun b42 w3 H3 => ?_); clear Hi; (conv => arg 5; simp only [Act.put, List.setIfInBounds_toArray, List.set_cons_succ, List.set_cons_zero])) | (refine wpF_appK (qs := [getK made (j : Int)]) 43 H3 HR.out rfl rfl rfl rfl rfl (fun A' cap' => Swap.tail Swap.head) (H3.reb.blkT List.mem_cons_self) (one_ok HGK.out) (by simp only [List.length_singleton]; omega) (fun A2 c2 w4 H4 => ?_); clear H3; (conv => arg 5; simp only [Act.put, List.setIfInBounds_toArray, List.set_cons_succ, List.set_cons_zero])))
        go_round
        case rel =>
          refine ⟨i + 1, A2, c2, by omega, by go_num, rfl, ?_, ?_⟩
          · have h2 : (keys.take (i + 1)).map (getK made) = (keys.take i).map (getK made) ++ [getK made (j : Int)] := by
              obtain ⟨hl, he⟩ := List.getElem?_eq_some_iff.1 HAE.out
              rw [List.take_succ_eq_append_getElem hl, he]
              simp
            rw [h2]
            exact H4.sub (by (repeat (first | exact List.Sublist.refl _ | apply List.Sublist.cons_cons | apply List.Sublist.cons)))
          · refine hid ?_
            obtain ⟨hl, he⟩ := List.getElem?_eq_some_iff.1 HAE.out
            rw [List.take_succ_eq_append_getElem hl, List.all_append, HA.out, he]
            simp [HIN.out]
        case measure => simp [intOf]; omega
    · obtain rfl : i = keys.length := by omega
      have hkl := named_len hn.out.1
      have hsl2 : Value.slice B keys.length d = Value.slice B l.length d := by rw [hkl]
      rw [named_take hn.out.1, hkl] at Hi
      rw [hsl2]
      clear hsl2 HA hi hlt
      have c0 := Hi.reb.cell (i := 0) (v := .int .i64 1) (List.mem_cons_of_mem _ List.mem_cons_self) rfl
      have c1 := Hi.reb.cell (i := 1) (v := .int .i64 n) (List.mem_cons_of_mem _ List.mem_cons_self) rfl
      go_wp2_with (first | fail)
      go_ret
      exact RCookR.no Hi
set_option maxRecDepth 100000 in
set_option maxHeartbeats 4000000 in
theorem step49_1c {K : Nat → Prop} {w : World} {m : Nat} {ts : List Tm} {seen made : List (List Int)} {SA SB : Option Addr} {sc sd : Nat} {n : Int} {text : ByteArray} {keys raw : List Int} {I : Option Addr} {ic : Nat} (h : RStepP K w m ts seen made SA SB sc sd (⟨1, n, text, keys, raw⟩ : Ck) I ic) {l : List (List Int)} (hc : namedL made keys = some l) (hl : leastT 1 ≤ (l.length : Int)) (hin1 : inR seen n = true) :
    Calls Try.prog 49 #[.pointer (some ⟨m, 0, none⟩), .slice SA seen.length sc, .slice SB made.length sd, .agg (ckCells (⟨1, n, text, keys, raw⟩ : Ck) I ic).toArray] w (RCookR K m w (ts, [getK seen n])) := by
  have H := TF.start h.res h.lt
  have HR := hid (refR_ok m ts)
  have hP := fun ts' => hid (refR_ok m ts')
  have hs := hid h
  have hml := hs.out.ml
  have htl := hs.out.tl
  have hsl := hs.out.sl
  have hn := hid (And.intro hc (decide_eq_true hl))
  clear h hc hl
  have htx : text.size ≤ 200 := hs.out.ck.tx
  obtain ⟨hl10, hlk⟩ := hs.out.named hn.out.1
  clear hlk
  obtain ⟨hg, hgk⟩ := getK_ok hs.out.sk hin1
  have hjs : n.toNat < seen.length := (List.getElem?_eq_some_iff.1 hg).1
  have HGS := hid hgk
  have hn0 : 0 ≤ n := by unfold inR at hin1; simp only [Bool.and_eq_true, decide_eq_true_eq] at hin1; exact hin1.1
  obtain ⟨q, rfl⟩ : ∃ q : Nat, n = (q : Int) := ⟨n.toNat, by omega⟩
  rw [Int.toNat_natCast] at hjs
  have hn1 : (q : Int) < (seen.length : Int) := by omega
  obtain ⟨key, hkey⟩ : ∃ key, key = getK seen (q : Int) := ⟨_, rfl⟩
  rw [← hkey] at HGS ⊢
  rw [Int.toNat_natCast, ← hkey] at hg
  have HG := hid hg
  clear hg hgk hkey hin1
  go_enter Try.func49, Try.ntmps49
  go_wp2_with (refine wpF_bxC (cs := ckCells (⟨1, (q : Int), text, keys, raw⟩ : Ck) I ic) 7 H HR.out rfl rfl rfl rfl (fun b7 w1 H1 => ?_); clear H; (conv => arg 5; simp only [Act.put, List.setIfInBounds_toArray, List.set_cons_succ, List.set_cons_zero]))
  go_loopw [9, 10] (fun o x wr => ∃ (i : Nat) (B : Option Addr) (d : Nat), i ≤ keys.length ∧ x = .int .i64 i ∧ o = .slice B i d ∧ TF K (refR m ts) w wr [.vec B i d 26 32 (nums .u8 ((keys.take i).map (getK made)).flatten), .blk b7 (cellsO 55 (ckCells (⟨1, (q : Int), text, keys, raw⟩ : Ck) I ic))] ∧ Hid ((keys.take i).all (inR made) = true)) (fun _ x _ => keys.length - (intOf x).toNat)
  case atStart => exact ⟨0, none, 0, by omega, rfl, rfl, H1.step HR.out (H1.reb.nil 26 32), hid rfl⟩
  case round =>
    obtain ⟨i, B, d, hi, rfl, rfl, Hi, HA⟩ := hrel
    clear H1
    have c3 := Hi.reb.cell (i := 3) (v := .slice I keys.length ic) (List.mem_cons_of_mem _ List.mem_cons_self) rfl
    by_cases hlt : i < keys.length
    · have hltI : (i : Int) < (keys.length : Int) := by omega
      obtain ⟨a, hae⟩ : ∃ a, keys[i]? = some a := ⟨keys[i], List.getElem?_eq_getElem hlt⟩
      obtain ⟨bi, oi, hIe, hcell⟩ := (show RowC w I (nums .i64 keys) from hs.out.ir).cell (i := i) (v := .int .i64 a) (by simp [nums, hae])
      have ci := ((Hi.rowC hs.out.ir hs.out.inn).cell (i := i) (v := .int .i64 a) (by simp [nums, hae]))
      subst hIe
      obtain ⟨_, _, he, ci⟩ := ci
      injection he with he
      injection he with he1 he2 _
      subst he1 he2
      have HAE := hid hae
      clear hae hcell
      cases hin : inR made a
      · exact absurd (named_in hn.out.1 (List.mem_of_getElem? HAE.out)) (by rw [hin]; simp)
      · obtain ⟨hg, hgk⟩ := getK_ok hs.out.mo hin
        have HIN := hid hin
        unfold inR at hin
        simp only [Bool.and_eq_true, decide_eq_true_eq] at hin
        obtain ⟨h0, h1⟩ := hin
        obtain ⟨b2, o2, hA2, hcc⟩ := keys_at hs.out.mo (Hi.row hs.out.mr hs.out.mn) hg
        subst hA2
        have HCC := hid hcc
        have HGK := hid hgk
        have hj2 : a.toNat < made.length := by omega
        obtain ⟨j, rfl⟩ : ∃ j : Nat, a = (j : Int) := ⟨a.toNat, by omega⟩
        rw [Int.toNat_natCast] at HCC hj2
        have hkl : keys.length ≤ 10 := hs.out.ck.kl
        clear hcc hg hgk
        go_wp2_with (first | (apply wpList_want; (· rfl)) | (refine wpList_ldagg 41 rfl Try.underlying26 rfl rfl rfl rfl HCC.out (s26k HGK.out) ?_; (conv => arg 5; simp only [Act.put, List.setIfInBounds_toArray, List.set_cons_succ, List.set_cons_zero])) | (refine wpF_bsK1 42 Hi HR.out rfl rfl rfl rfl HGK.out (fun b42 w3 H3 => ?_); clear Hi; (conv => arg 5; simp only [Act.put, List.setIfInBounds_toArray, List.set_cons_succ, List.set_cons_zero])) | (refine wpF_appK (qs := [getK made (j : Int)]) 43 H3 HR.out rfl rfl rfl rfl rfl (fun A' cap' => Swap.tail Swap.head) (H3.reb.blkT List.mem_cons_self) (one_ok HGK.out) (by simp only [List.length_singleton]; omega) (fun A2 c2 w4 H4 => ?_); clear H3; (conv => arg 5; simp only [Act.put, List.setIfInBounds_toArray, List.set_cons_succ, List.set_cons_zero])))
        go_round
        case rel =>
          refine ⟨i + 1, A2, c2, by omega, by go_num, rfl, ?_, ?_⟩
          · have h2 : (keys.take (i + 1)).map (getK made) = (keys.take i).map (getK made) ++ [getK made (j : Int)] := by
              obtain ⟨hl, he⟩ := List.getElem?_eq_some_iff.1 HAE.out
              rw [List.take_succ_eq_append_getElem hl, he]
              simp
            rw [h2]
            exact H4.sub (by (repeat (first | exact List.Sublist.refl _ | apply List.Sublist.cons_cons | apply List.Sublist.cons)))
          · refine hid ?_
            obtain ⟨hl, he⟩ := List.getElem?_eq_some_iff.1 HAE.out
            rw [List.take_succ_eq_append_getElem hl, List.all_append, HA.out, he]
            simp [HIN.out]
        case measure => simp [intOf]; omega
    · obtain rfl : i = keys.length := by omega
      have hkl := named_len hn.out.1
      have hsl2 : Value.slice B keys.length d = Value.slice B l.length d := by rw [hkl]
      rw [named_take hn.out.1, hkl] at Hi
      rw [hsl2]
      clear hsl2 HA hi hlt
      have c0 := Hi.reb.cell (i := 0) (v := .int .i64 1) (List.mem_cons_of_mem _ List.mem_cons_self) rfl
      have c1 := Hi.reb.cell (i := 1) (v := .int .i64 (q : Int)) (List.mem_cons_of_mem _ List.mem_cons_self) rfl
      obtain ⟨bs, os, hSA, hcs⟩ := keys_at hs.out.sk (Hi.row hs.out.sr hs.out.sn) HG.out
      subst hSA
      have HCS := hid hcs
      clear hcs
      go_wp2_with (first | fail | (refine wpList_ldagg 95 rfl Try.underlying26 rfl rfl rfl rfl HCS.out (s26k HGS.out) ?_; have H := Hi; clear Hi; (conv => arg 5; simp only [Act.put, List.setIfInBounds_toArray, List.set_cons_succ, List.set_cons_zero])) | (refine wpF_bsK1 96 H (hP _).out rfl rfl rfl rfl HGS.out (fun b96 wn Hn => ?_); clear H; rename TF _ _ _ _ _ => H; (conv => arg 5; simp only [Act.put, List.setIfInBounds_toArray, List.set_cons_succ, List.set_cons_zero])))
      go_ret
      exact RCookR.one H (by (repeat (first | exact List.mem_cons_self | refine List.mem_cons_of_mem _ ?_))) rfl
set_option maxRecDepth 100000 in
set_option maxHeartbeats 4000000 in
theorem step49_8a {K : Nat → Prop} {w : World} {m : Nat} {ts : List Tm} {seen made : List (List Int)} {SA SB : Option Addr} {sc sd : Nat} {n : Int} {text : ByteArray} {keys raw : List Int} {I : Option Addr} {ic : Nat} (h : RStepP K w m ts seen made SA SB sc sd (⟨8, n, text, keys, raw⟩ : Ck) I ic) {l : List (List Int)} (hc : namedL made keys = some l) (hl : leastT 8 ≤ (l.length : Int)) (hsh : nameL (numK raw) = raw) :
    Calls Try.prog 49 #[.pointer (some ⟨m, 0, none⟩), .slice SA seen.length sc, .slice SB made.length sd, .agg (ckCells (⟨8, n, text, keys, raw⟩ : Ck) I ic).toArray] w (RCookR K m w (ts, [])) := by
  have H := TF.start h.res h.lt
  have HR := hid (refR_ok m ts)
  have hP := fun ts' => hid (refR_ok m ts')
  have hs := hid h
  have hml := hs.out.ml
  have htl := hs.out.tl
  have hsl := hs.out.sl
  have hn := hid (And.intro hc (decide_eq_true hl))
  clear h hc hl
  have htx : text.size ≤ 200 := hs.out.ck.tx
  obtain ⟨hl10, hlk⟩ := hs.out.named hn.out.1
  have HRK := hid (show KeyOk raw from hs.out.ck.raw)
  clear hlk
  have HSH := hid (decide_eq_true hsh)
  clear hsh
  go_enter Try.func49, Try.ntmps49
  go_wp2_with (refine wpF_bxC (cs := ckCells (⟨8, n, text, keys, raw⟩ : Ck) I ic) 7 H HR.out rfl rfl rfl rfl (fun b7 w1 H1 => ?_); clear H; (conv => arg 5; simp only [Act.put, List.setIfInBounds_toArray, List.set_cons_succ, List.set_cons_zero]))
  go_loopw [9, 10] (fun o x wr => ∃ (i : Nat) (B : Option Addr) (d : Nat), i ≤ keys.length ∧ x = .int .i64 i ∧ o = .slice B i d ∧ TF K (refR m ts) w wr [.vec B i d 26 32 (nums .u8 ((keys.take i).map (getK made)).flatten), .blk b7 (cellsO 55 (ckCells (⟨8, n, text, keys, raw⟩ : Ck) I ic))] ∧ Hid ((keys.take i).all (inR made) = true)) (fun _ x _ => keys.length - (intOf x).toNat)
  case atStart => exact ⟨0, none, 0, by omega, rfl, rfl, H1.step HR.out (H1.reb.nil 26 32), hid rfl⟩
  case round =>
    obtain ⟨i, B, d, hi, rfl, rfl, Hi, HA⟩ := hrel
    clear H1
    have c3 := Hi.reb.cell (i := 3) (v := .slice I keys.length ic) (List.mem_cons_of_mem _ List.mem_cons_self) rfl
    by_cases hlt : i < keys.length
    · have hltI : (i : Int) < (keys.length : Int) := by omega
      obtain ⟨a, hae⟩ : ∃ a, keys[i]? = some a := ⟨keys[i], List.getElem?_eq_getElem hlt⟩
      obtain ⟨bi, oi, hIe, hcell⟩ := (show RowC w I (nums .i64 keys) from hs.out.ir).cell (i := i) (v := .int .i64 a) (by simp [nums, hae])
      have ci := ((Hi.rowC hs.out.ir hs.out.inn).cell (i := i) (v := .int .i64 a) (by simp [nums, hae]))
      subst hIe
      obtain ⟨_, _, he, ci⟩ := ci
      injection he with he
      injection he with he1 he2 _
      subst he1 he2
      have HAE := hid hae
      clear hae hcell
      cases hin : inR made a
      · exact absurd (named_in hn.out.1 (List.mem_of_getElem? HAE.out)) (by rw [hin]; simp)
      · obtain ⟨hg, hgk⟩ := getK_ok hs.out.mo hin
        have HIN := hid hin
        unfold inR at hin
        simp only [Bool.and_eq_true, decide_eq_true_eq] at hin
        obtain ⟨h0, h1⟩ := hin
        obtain ⟨b2, o2, hA2, hcc⟩ := keys_at hs.out.mo (Hi.row hs.out.mr hs.out.mn) hg
        subst hA2
        have HCC := hid hcc
        have HGK := hid hgk
        have hj2 : a.toNat < made.length := by omega
        obtain ⟨j, rfl⟩ : ∃ j : Nat, a = (j : Int) := ⟨a.toNat, by omega⟩
        rw [Int.toNat_natCast] at HCC hj2
        have hkl : keys.length ≤ 10 := hs.out.ck.kl
        clear hcc hg hgk
        go_wp2_with (first | (apply wpList_want; (· rfl)) | (refine wpList_ldagg 41 rfl Try.underlying26 rfl rfl rfl rfl HCC.out (s26k HGK.out) ?_; (conv => arg 5; simp only [Act.put, List.setIfInBounds_toArray, List.set_cons_succ, List.set_cons_zero])) | (refine wpF_bsK1 42 Hi HR.out rfl rfl rfl rfl HGK.out (fun b42 w3 H3 => ?_); clear Hi; (conv => arg 5; simp only [Act.put, List.setIfInBounds_toArray, List.set_cons_succ, List.set_cons_zero])) | (refine wpF_appK (qs := [getK made (j : Int)]) 43 H3 HR.out rfl rfl rfl rfl rfl (fun A' cap' => Swap.tail Swap.head) (H3.reb.blkT List.mem_cons_self) (one_ok HGK.out) (by simp only [List.length_singleton]; omega) (fun A2 c2 w4 H4 => ?_); clear H3; (conv => arg 5; simp only [Act.put, List.setIfInBounds_toArray, List.set_cons_succ, List.set_cons_zero])))
        go_round
        case rel =>
          refine ⟨i + 1, A2, c2, by omega, by go_num, rfl, ?_, ?_⟩
          · have h2 : (keys.take (i + 1)).map (getK made) = (keys.take i).map (getK made) ++ [getK made (j : Int)] := by
              obtain ⟨hl, he⟩ := List.getElem?_eq_some_iff.1 HAE.out
              rw [List.take_succ_eq_append_getElem hl, he]
              simp
            rw [h2]
            exact H4.sub (by (repeat (first | exact List.Sublist.refl _ | apply List.Sublist.cons_cons | apply List.Sublist.cons)))
          · refine hid ?_
            obtain ⟨hl, he⟩ := List.getElem?_eq_some_iff.1 HAE.out
            rw [List.take_succ_eq_append_getElem hl, List.all_append, HA.out, he]
            simp [HIN.out]
        case measure => simp [intOf]; omega
    · obtain rfl : i = keys.length := by omega
      have hkl := named_len hn.out.1
      have hsl2 : Value.slice B keys.length d = Value.slice B l.length d := by rw [hkl]
      rw [named_take hn.out.1, hkl] at Hi
      rw [hsl2]
      clear hsl2 HA hi hlt
      have c0 := Hi.reb.cell (i := 0) (v := .int .i64 8) (List.mem_cons_of_mem _ List.mem_cons_self) rfl
      go_wp2_with (first | fail | (refine wpList_ldagg 176 rfl Try.underlying26 rfl rfl rfl rfl (Hi.cellRaw (List.mem_cons_of_mem _ List.mem_cons_self)) (s26k HRK.out) ?_; (conv => arg 5; simp only [Act.put, List.setIfInBounds_toArray, List.set_cons_succ, List.set_cons_zero])) | (go_at_call 62; refine (Shaped62 _ _ HRK.out.1 HRK.out.2).mono ?_; rw [HSH.out]; rintro e wn ⟨rfl, M⟩; have H := Hi.call0 HR.out M; clear M Hi c0))
      go_ret
      exact RCookR.no H
set_option maxRecDepth 100000 in
set_option maxHeartbeats 4000000 in
theorem step49_8b {K : Nat → Prop} {w : World} {m : Nat} {ts : List Tm} {seen made : List (List Int)} {SA SB : Option Addr} {sc sd : Nat} {n : Int} {text : ByteArray} {keys raw : List Int} {I : Option Addr} {ic : Nat} (h : RStepP K w m ts seen made SA SB sc sd (⟨8, n, text, keys, raw⟩ : Ck) I ic) {l : List (List Int)} (hc : namedL made keys = some l) (hl : leastT 8 ≤ (l.length : Int)) (hsh : ¬ nameL (numK raw) = raw) :
    Calls Try.prog 49 #[.pointer (some ⟨m, 0, none⟩), .slice SA seen.length sc, .slice SB made.length sd, .agg (ckCells (⟨8, n, text, keys, raw⟩ : Ck) I ic).toArray] w (RCookR K m w (ts, [raw])) := by
  have H := TF.start h.res h.lt
  have HR := hid (refR_ok m ts)
  have hP := fun ts' => hid (refR_ok m ts')
  have hs := hid h
  have hml := hs.out.ml
  have htl := hs.out.tl
  have hsl := hs.out.sl
  have hn := hid (And.intro hc (decide_eq_true hl))
  clear h hc hl
  have htx : text.size ≤ 200 := hs.out.ck.tx
  obtain ⟨hl10, hlk⟩ := hs.out.named hn.out.1
  have HRK := hid (show KeyOk raw from hs.out.ck.raw)
  clear hlk
  have HSH := hid (decide_eq_false hsh)
  clear hsh
  go_enter Try.func49, Try.ntmps49
  go_wp2_with (refine wpF_bxC (cs := ckCells (⟨8, n, text, keys, raw⟩ : Ck) I ic) 7 H HR.out rfl rfl rfl rfl (fun b7 w1 H1 => ?_); clear H; (conv => arg 5; simp only [Act.put, List.setIfInBounds_toArray, List.set_cons_succ, List.set_cons_zero]))
  go_loopw [9, 10] (fun o x wr => ∃ (i : Nat) (B : Option Addr) (d : Nat), i ≤ keys.length ∧ x = .int .i64 i ∧ o = .slice B i d ∧ TF K (refR m ts) w wr [.vec B i d 26 32 (nums .u8 ((keys.take i).map (getK made)).flatten), .blk b7 (cellsO 55 (ckCells (⟨8, n, text, keys, raw⟩ : Ck) I ic))] ∧ Hid ((keys.take i).all (inR made) = true)) (fun _ x _ => keys.length - (intOf x).toNat)
  case atStart => exact ⟨0, none, 0, by omega, rfl, rfl, H1.step HR.out (H1.reb.nil 26 32), hid rfl⟩
  case round =>
    obtain ⟨i, B, d, hi, rfl, rfl, Hi, HA⟩ := hrel
    clear H1
    have c3 := Hi.reb.cell (i := 3) (v := .slice I keys.length ic) (List.mem_cons_of_mem _ List.mem_cons_self) rfl
    by_cases hlt : i < keys.length
    · have hltI : (i : Int) < (keys.length : Int) := by omega
      obtain ⟨a, hae⟩ : ∃ a, keys[i]? = some a := ⟨keys[i], List.getElem?_eq_getElem hlt⟩
      obtain ⟨bi, oi, hIe, hcell⟩ := (show RowC w I (nums .i64 keys) from hs.out.ir).cell (i := i) (v := .int .i64 a) (by simp [nums, hae])
      have ci := ((Hi.rowC hs.out.ir hs.out.inn).cell (i := i) (v := .int .i64 a) (by simp [nums, hae]))
      subst hIe
      obtain ⟨_, _, he, ci⟩ := ci
      injection he with he
      injection he with he1 he2 _
      subst he1 he2
      have HAE := hid hae
      clear hae hcell
      cases hin : inR made a
      · exact absurd (named_in hn.out.1 (List.mem_of_getElem? HAE.out)) (by rw [hin]; simp)
      · obtain ⟨hg, hgk⟩ := getK_ok hs.out.mo hin
        have HIN := hid hin
        unfold inR at hin
        simp only [Bool.and_eq_true, decide_eq_true_eq] at hin
        obtain ⟨h0, h1⟩ := hin
        obtain ⟨b2, o2, hA2, hcc⟩ := keys_at hs.out.mo (Hi.row hs.out.mr hs.out.mn) hg
        subst hA2
        have HCC := hid hcc
        have HGK := hid hgk
        have hj2 : a.toNat < made.length := by omega
        obtain ⟨j, rfl⟩ : ∃ j : Nat, a = (j : Int) := ⟨a.toNat, by omega⟩
        rw [Int.toNat_natCast] at HCC hj2
        have hkl : keys.length ≤ 10 := hs.out.ck.kl
        clear hcc hg hgk
        go_wp2_with (first | (apply wpList_want; (· rfl)) | (refine wpList_ldagg 41 rfl Try.underlying26 rfl rfl rfl rfl HCC.out (s26k HGK.out) ?_; (conv => arg 5; simp only [Act.put, List.setIfInBounds_toArray, List.set_cons_succ, List.set_cons_zero])) | (refine wpF_bsK1 42 Hi HR.out rfl rfl rfl rfl HGK.out (fun b42 w3 H3 => ?_); clear Hi; (conv => arg 5; simp only [Act.put, List.setIfInBounds_toArray, List.set_cons_succ, List.set_cons_zero])) | (refine wpF_appK (qs := [getK made (j : Int)]) 43 H3 HR.out rfl rfl rfl rfl rfl (fun A' cap' => Swap.tail Swap.head) (H3.reb.blkT List.mem_cons_self) (one_ok HGK.out) (by simp only [List.length_singleton]; omega) (fun A2 c2 w4 H4 => ?_); clear H3; (conv => arg 5; simp only [Act.put, List.setIfInBounds_toArray, List.set_cons_succ, List.set_cons_zero])))
        go_round
        case rel =>
          refine ⟨i + 1, A2, c2, by omega, by go_num, rfl, ?_, ?_⟩
          · have h2 : (keys.take (i + 1)).map (getK made) = (keys.take i).map (getK made) ++ [getK made (j : Int)] := by
              obtain ⟨hl, he⟩ := List.getElem?_eq_some_iff.1 HAE.out
              rw [List.take_succ_eq_append_getElem hl, he]
              simp
            rw [h2]
            exact H4.sub (by (repeat (first | exact List.Sublist.refl _ | apply List.Sublist.cons_cons | apply List.Sublist.cons)))
          · refine hid ?_
            obtain ⟨hl, he⟩ := List.getElem?_eq_some_iff.1 HAE.out
            rw [List.take_succ_eq_append_getElem hl, List.all_append, HA.out, he]
            simp [HIN.out]
        case measure => simp [intOf]; omega
    · obtain rfl : i = keys.length := by omega
      have hkl := named_len hn.out.1
      have hsl2 : Value.slice B keys.length d = Value.slice B l.length d := by rw [hkl]
      rw [named_take hn.out.1, hkl] at Hi
      rw [hsl2]
      clear hsl2 HA hi hlt
      have c0 := Hi.reb.cell (i := 0) (v := .int .i64 8) (List.mem_cons_of_mem _ List.mem_cons_self) rfl
      go_wp2_with (first | fail | (refine wpList_ldagg 176 rfl Try.underlying26 rfl rfl rfl rfl (Hi.cellRaw (List.mem_cons_of_mem _ List.mem_cons_self)) (s26k HRK.out) ?_; (conv => arg 5; simp only [Act.put, List.setIfInBounds_toArray, List.set_cons_succ, List.set_cons_zero])) | (go_at_call 62; refine (Shaped62 _ _ HRK.out.1 HRK.out.2).mono ?_; rw [HSH.out]; rintro e wn ⟨rfl, M⟩; have H := Hi.call0 HR.out M; clear M Hi c0) | (refine wpList_ldagg 179 rfl Try.underlying26 rfl rfl rfl rfl (H.cellRaw (List.mem_cons_of_mem _ List.mem_cons_self)) (s26k HRK.out) ?_; (conv => arg 5; simp only [Act.put, List.setIfInBounds_toArray, List.set_cons_succ, List.set_cons_zero])) | (refine wpF_bsK1 180 H (hP _).out rfl rfl rfl rfl HRK.out (fun b180 wn Hn => ?_); clear H; rename TF _ _ _ _ _ => H; (conv => arg 5; simp only [Act.put, List.setIfInBounds_toArray, List.set_cons_succ, List.set_cons_zero])))
      go_ret
      exact RCookR.one H (by (repeat (first | exact List.mem_cons_self | refine List.mem_cons_of_mem _ ?_))) rfl
end Go.Proofs.Ytcapfnbmmdbcoaa
namespace Go.Proofs.Ytcapfnbmmdbcoaa
open Go.RowKit
set_option maxRecDepth 100000 in
set_option maxHeartbeats 4000000 in
theorem step49_x {K : Nat → Prop} {w : World} {m : Nat} {ts : List Tm} {seen made : List (List Int)} {SA SB : Option Addr} {sc sd : Nat} {c : Ck} {I : Option Addr} {ic : Nat} (h : RStepP K w m ts seen made SA SB sc sd c I ic) {l : List (List Int)} (hc : namedL made c.keys = some l) (h1 : ¬ c.kind = 1) (h2 : ¬ c.kind = 2) (h3 : ¬ c.kind = 3) (h4 : ¬ c.kind = 4) (h5 : ¬ c.kind = 5) (h6 : ¬ c.kind = 6) (h7 : ¬ c.kind = 7) (h8 : ¬ c.kind = 8) :
    Calls Try.prog 49 #[.pointer (some ⟨m, 0, none⟩), .slice SA seen.length sc, .slice SB made.length sd, .agg (ckCells c I ic).toArray] w (RCookR K m w (ts, [])) := by
  have H := TF.start h.res h.lt
  have HR := hid (refR_ok m ts)
  have hP := fun ts' => hid (refR_ok m ts')
  have hs := hid h
  have hml := hs.out.ml
  have htl := hs.out.tl
  have hsl := hs.out.sl
  have hn := hid (And.intro hc trivial)
  have hkk := hid (And.intro h1 (And.intro h2 (And.intro h3 (And.intro h4 (And.intro h5 (And.intro h6 (And.intro h7 h8)))))))
  clear h hc h1 h2 h3 h4 h5 h6 h7 h8
  go_enter Try.func49, Try.ntmps49
  go_wp2_with (refine wpF_bxC (cs := ckCells c I ic) 7 H HR.out rfl rfl rfl rfl (fun b7 w1 H1 => ?_); clear H; (conv => arg 5; simp only [Act.put, List.setIfInBounds_toArray, List.set_cons_succ, List.set_cons_zero]))
  go_loopw [9, 10] (fun o x wr => ∃ (i : Nat) (B : Option Addr) (d : Nat), i ≤ c.keys.length ∧ x = .int .i64 i ∧ o = .slice B i d ∧ TF K (refR m ts) w wr [.vec B i d 26 32 (nums .u8 ((c.keys.take i).map (getK made)).flatten), .blk b7 (cellsO 55 (ckCells c I ic))] ∧ Hid ((c.keys.take i).all (inR made) = true)) (fun _ x _ => c.keys.length - (intOf x).toNat)
  case atStart => exact ⟨0, none, 0, by omega, rfl, rfl, H1.step HR.out (H1.reb.nil 26 32), hid rfl⟩
  case round =>
    obtain ⟨i, B, d, hi, rfl, rfl, Hi, HA⟩ := hrel
    clear H1
    have c3 := Hi.reb.cell (i := 3) (v := .slice I c.keys.length ic) (List.mem_cons_of_mem _ List.mem_cons_self) rfl
    by_cases hlt : i < c.keys.length
    · have hltI : (i : Int) < (c.keys.length : Int) := by omega
      obtain ⟨a, hae⟩ : ∃ a, c.keys[i]? = some a := ⟨c.keys[i], List.getElem?_eq_getElem hlt⟩
      obtain ⟨bi, oi, hIe, hcell⟩ := (show RowC w I (nums .i64 c.keys) from hs.out.ir).cell (i := i) (v := .int .i64 a) (by simp [nums, hae])
      have ci := ((Hi.rowC hs.out.ir hs.out.inn).cell (i := i) (v := .int .i64 a) (by simp [nums, hae]))
      subst hIe
      obtain ⟨_, _, he, ci⟩ := ci
      injection he with he
      injection he with he1 he2 _
      subst he1 he2
      have HAE := hid hae
      clear hae hcell
      cases hin : inR made a
      · exact absurd (named_in hn.out.1 (List.mem_of_getElem? HAE.out)) (by rw [hin]; simp)
      · obtain ⟨hg, hgk⟩ := getK_ok hs.out.mo hin
        have HIN := hid hin
        unfold inR at hin
        simp only [Bool.and_eq_true, decide_eq_true_eq] at hin
        obtain ⟨h0, h1⟩ := hin
        obtain ⟨b2, o2, hA2, hcc⟩ := keys_at hs.out.mo (Hi.row hs.out.mr hs.out.mn) hg
        subst hA2
        have HCC := hid hcc
        have HGK := hid hgk
        have hj2 : a.toNat < made.length := by omega
        obtain ⟨j, rfl⟩ : ∃ j : Nat, a = (j : Int) := ⟨a.toNat, by omega⟩
        rw [Int.toNat_natCast] at HCC hj2
        have hkl : c.keys.length ≤ 10 := hs.out.ck.kl
        clear hcc hg hgk
        go_wp2_with (first | (apply wpList_want; (· rfl)) | (refine wpList_ldagg 41 rfl Try.underlying26 rfl rfl rfl rfl HCC.out (s26k HGK.out) ?_; (conv => arg 5; simp only [Act.put, List.setIfInBounds_toArray, List.set_cons_succ, List.set_cons_zero])) | (refine wpF_bsK1 42 Hi HR.out rfl rfl rfl rfl HGK.out (fun b42 w3 H3 => ?_); clear Hi; (conv => arg 5; simp only [Act.put, List.setIfInBounds_toArray, List.set_cons_succ, List.set_cons_zero])) | (refine wpF_appK (qs := [getK made (j : Int)]) 43 H3 HR.out rfl rfl rfl rfl rfl (fun A' cap' => Swap.tail Swap.head) (H3.reb.blkT List.mem_cons_self) (one_ok HGK.out) (by simp only [List.length_singleton]; omega) (fun A2 c2 w4 H4 => ?_); clear H3; (conv => arg 5; simp only [Act.put, List.setIfInBounds_toArray, List.set_cons_succ, List.set_cons_zero])))
        go_round
        case rel =>
          refine ⟨i + 1, A2, c2, by omega, by go_num, rfl, ?_, ?_⟩
          · have h2 : (c.keys.take (i + 1)).map (getK made) = (c.keys.take i).map (getK made) ++ [getK made (j : Int)] := by
              obtain ⟨hl, he⟩ := List.getElem?_eq_some_iff.1 HAE.out
              rw [List.take_succ_eq_append_getElem hl, he]
              simp
            rw [h2]
            exact H4.sub (by (repeat (first | exact List.Sublist.refl _ | apply List.Sublist.cons_cons | apply List.Sublist.cons)))
          · refine hid ?_
            obtain ⟨hl, he⟩ := List.getElem?_eq_some_iff.1 HAE.out
            rw [List.take_succ_eq_append_getElem hl, List.all_append, HA.out, he]
            simp [HIN.out]
        case measure => simp [intOf]; omega
    · obtain rfl : i = c.keys.length := by omega
      obtain ⟨h1, h2, h3, h4, h5, h6, h7, h8⟩ := hkk.out
      have c0 := Hi.reb.cell (i := 0) (v := .int .i64 c.kind) (List.mem_cons_of_mem _ List.mem_cons_self) rfl
      go_wp2_with (first | fail)
      go_ret
      exact RCookR.no Hi
end Go.Proofs.Ytcapfnbmmdbcoaa
namespace Go.Proofs.Ytcapfnbmmdbcoaa
open Go.RowKit
theorem AgreeRT {K0 : Nat → Prop} {w0 w : World} {L : List Item} {m : Nat} {ts : List Tm} (H : TF K0 (refR m ts) w0 w L) {s p : List Int} (hw : ∀ t ∈ ts, TmW t) (hs : KeyOk s) (hp : KeyOk p) (hf : ts.length ≤ 900000) (hz : p ≠ zK) :
    Calls Try.prog 54 #[.pointer (some ⟨m, 0, none⟩), .agg (nums .u8 s).toArray, .agg (nums .u8 p).toArray] w fun e w' => IsKeyB (nm ts (agreeT ts s p)) true e ∧ TF K0 (refR m (putL ts (agreeT ts s p))) w0 w' L :=
  (H.run (R := fun e L2 => IsKeyB (nm ts (agreeT ts s p)) true e ∧ L2 = []) fun K1 h1 hlt => (Agree54 h1 hlt hw hs hp hf hz).mono fun e w' ⟨he, F⟩ => ⟨[], ⟨he, rfl⟩, TF.of F hlt⟩).mono fun e w' ⟨L2, ⟨he, hL⟩, F⟩ => ⟨he, by rw [hL] at F; exact F⟩
set_option maxRecDepth 100000 in
set_option maxHeartbeats 4000000 in
theorem step49_5a {K : Nat → Prop} {w : World} {m : Nat} {ts : List Tm} {seen made : List (List Int)} {SA SB : Option Addr} {sc sd : Nat} {n : Int} {text : ByteArray} {keys raw : List Int} {I : Option Addr} {ic : Nat} (h : RStepP K w m ts seen made SA SB sc sd (⟨5, n, text, keys, raw⟩ : Ck) I ic) {l : List (List Int)} (hc : namedL made keys = some l) (hl : leastT 5 ≤ (l.length : Int)) (hz : l.getD 1 [] = zK) :
    Calls Try.prog 49 #[.pointer (some ⟨m, 0, none⟩), .slice SA seen.length sc, .slice SB made.length sd, .agg (ckCells (⟨5, n, text, keys, raw⟩ : Ck) I ic).toArray] w (RCookR K m w (ts, [])) := by
  have H := TF.start h.res h.lt
  have HR := hid (refR_ok m ts)
  have hP := fun ts' => hid (refR_ok m ts')
  have hs := hid h
  have hml := hs.out.ml
  have htl := hs.out.tl
  have hsl := hs.out.sl
  have hn := hid (And.intro hc (decide_eq_true hl))
  clear h hc hl
  have htx : text.size ≤ 200 := hs.out.ck.tx
  obtain ⟨hl10, hlk⟩ := hs.out.named hn.out.1
  have hl1 : 2 ≤ l.length := by have := of_decide_eq_true hn.out.2; simp [leastT] at this; omega
  have hl0 : ¬ l = [] := fun e => by rw [e] at hl1; simp at hl1
  have HA := hid (at_getD (l := l) (i := 0) (by omega))
  have HB := hid (at_getD (l := l) (i := 1) (by omega))
  obtain ⟨ka, ha⟩ : ∃ a, a = l.getD 0 [] := ⟨_, rfl⟩
  obtain ⟨kb, hb⟩ : ∃ a, a = l.getD 1 [] := ⟨_, rfl⟩
  rw [← ha] at HA
  rw [← hb] at HB hz
  subst hz
  have HAK := hid (hlk _ (List.mem_of_getElem? HA.out))
  have HBK := hid (hlk _ (List.mem_of_getElem? HB.out))
  have HLK := hid hlk
  have hl1I : ¬ (l.length : Int) < 2 := by omega
  clear hlk ha hb
  have HKL := hid (show zK.length = 32 from by decide)
  go_enter Try.func49, Try.ntmps49
  go_wp2_with (refine wpF_bxC (cs := ckCells (⟨5, n, text, keys, raw⟩ : Ck) I ic) 7 H HR.out rfl rfl rfl rfl (fun b7 w1 H1 => ?_); clear H; (conv => arg 5; simp only [Act.put, List.setIfInBounds_toArray, List.set_cons_succ, List.set_cons_zero]))
  go_loopw [9, 10] (fun o x wr => ∃ (i : Nat) (B : Option Addr) (d : Nat), i ≤ keys.length ∧ x = .int .i64 i ∧ o = .slice B i d ∧ TF K (refR m ts) w wr [.vec B i d 26 32 (nums .u8 ((keys.take i).map (getK made)).flatten), .blk b7 (cellsO 55 (ckCells (⟨5, n, text, keys, raw⟩ : Ck) I ic))] ∧ Hid ((keys.take i).all (inR made) = true)) (fun _ x _ => keys.length - (intOf x).toNat)
  case atStart => exact ⟨0, none, 0, by omega, rfl, rfl, H1.step HR.out (H1.reb.nil 26 32), hid rfl⟩
  case round =>
    obtain ⟨i, B, d, hi, rfl, rfl, Hi, HA⟩ := hrel
    clear H1
    have c3 := Hi.reb.cell (i := 3) (v := .slice I keys.length ic) (List.mem_cons_of_mem _ List.mem_cons_self) rfl
    by_cases hlt : i < keys.length
    · have hltI : (i : Int) < (keys.length : Int) := by omega
      obtain ⟨a, hae⟩ : ∃ a, keys[i]? = some a := ⟨keys[i], List.getElem?_eq_getElem hlt⟩
      obtain ⟨bi, oi, hIe, hcell⟩ := (show RowC w I (nums .i64 keys) from hs.out.ir).cell (i := i) (v := .int .i64 a) (by simp [nums, hae])
      have ci := ((Hi.rowC hs.out.ir hs.out.inn).cell (i := i) (v := .int .i64 a) (by simp [nums, hae]))
      subst hIe
      obtain ⟨_, _, he, ci⟩ := ci
      injection he with he
      injection he with he1 he2 _
      subst he1 he2
      have HAE := hid hae
      clear hae hcell
      cases hin : inR made a
      · exact absurd (named_in hn.out.1 (List.mem_of_getElem? HAE.out)) (by rw [hin]; simp)
      · obtain ⟨hg, hgk⟩ := getK_ok hs.out.mo hin
        have HIN := hid hin
        unfold inR at hin
        simp only [Bool.and_eq_true, decide_eq_true_eq] at hin
        obtain ⟨h0, h1⟩ := hin
        obtain ⟨b2, o2, hA2, hcc⟩ := keys_at hs.out.mo (Hi.row hs.out.mr hs.out.mn) hg
        subst hA2
        have HCC := hid hcc
        have HGK := hid hgk
        have hj2 : a.toNat < made.length := by omega
        obtain ⟨j, rfl⟩ : ∃ j : Nat, a = (j : Int) := ⟨a.toNat, by omega⟩
        rw [Int.toNat_natCast] at HCC hj2
        have hkl : keys.length ≤ 10 := hs.out.ck.kl
        clear hcc hg hgk
        go_wp2_with (first | (apply wpList_want; (· rfl)) | (refine wpList_ldagg 41 rfl Try.underlying26 rfl rfl rfl rfl HCC.out (s26k HGK.out) ?_; (conv => arg 5; simp only [Act.put, List.setIfInBounds_toArray, List.set_cons_succ, List.set_cons_zero])) | (refine wpF_bsK1 42 Hi HR.out rfl rfl rfl rfl HGK.out (fun b42 w3 H3 => ?_); clear Hi; (conv => arg 5; simp only [Act.put, List.setIfInBounds_toArray, List.set_cons_succ, List.set_cons_zero])) | (refine wpF_appK (qs := [getK made (j : Int)]) 43 H3 HR.out rfl rfl rfl rfl rfl (fun A' cap' => Swap.tail Swap.head) (H3.reb.blkT List.mem_cons_self) (one_ok HGK.out) (by simp only [List.length_singleton]; omega) (fun A2 c2 w4 H4 => ?_); clear H3; (conv => arg 5; simp only [Act.put, List.setIfInBounds_toArray, List.set_cons_succ, List.set_cons_zero])))
        go_round
        case rel =>
          refine ⟨i + 1, A2, c2, by omega, by go_num, rfl, ?_, ?_⟩
          · have h2 : (keys.take (i + 1)).map (getK made) = (keys.take i).map (getK made) ++ [getK made (j : Int)] := by
              obtain ⟨hl, he⟩ := List.getElem?_eq_some_iff.1 HAE.out
              rw [List.take_succ_eq_append_getElem hl, he]
              simp
            rw [h2]
            exact H4.sub (by (repeat (first | exact List.Sublist.refl _ | apply List.Sublist.cons_cons | apply List.Sublist.cons)))
          · refine hid ?_
            obtain ⟨hl, he⟩ := List.getElem?_eq_some_iff.1 HAE.out
            rw [List.take_succ_eq_append_getElem hl, List.all_append, HA.out, he]
            simp [HIN.out]
        case measure => simp [intOf]; omega
    · obtain rfl : i = keys.length := by omega
      have hkl := named_len hn.out.1
      have hsl2 : Value.slice B keys.length d = Value.slice B l.length d := by rw [hkl]
      rw [named_take hn.out.1, hkl] at Hi
      rw [hsl2]
      clear hsl2 HA hi hlt
      have c0 := Hi.reb.cell (i := 0) (v := .int .i64 5) (List.mem_cons_of_mem _ List.mem_cons_self) rfl
      obtain ⟨bv, rfl⟩ := Hi.reb.vecB List.mem_cons_self (by omega)
      go_upto_region 23 with (first | fail)
      refine wp_region_planTF (fun _ => True) (.free 0 (.free 1 (.free 2 (.free 3 (.free 4 (.free 5 (.free 6 (.two 7 (.free 8 (.free 9 (.free 10 (.one 11 (.one 12 (.free 13 (.done))))))) 11 (.one 7 (.free 8 (.free 9 (.free 10 (.one 12 (.free 13 (.done))))))))))))))) (by kernel_rfl) (by kernel_rfl) (fun _ _ _ _ _ h => h) Hi HR.out ?_
      clear Hi c0
      intro ops Q HO HQ w8 H
      (refine wpT_free (by rw [HO.out]; rfl) rfl (.inl ⟨rfl, fun w _ => by go_simp; rfl⟩) (by exact ⟨⟨_, _, H.reb.sub (by (repeat (first | exact List.Sublist.refl _ | apply List.Sublist.cons_cons | apply List.Sublist.cons)))⟩, trivial⟩) ?_; (conv => arg 6; simp only [Act.put, List.setIfInBounds_toArray, List.set_cons_succ, List.set_cons_zero]))
      (refine wpT_free (by rw [HO.out]; rfl) rfl (.inl ⟨rfl, fun w _ => by go_simp; rfl⟩) (by exact ⟨⟨_, _, H.reb.sub (by (repeat (first | exact List.Sublist.refl _ | apply List.Sublist.cons_cons | apply List.Sublist.cons)))⟩, trivial⟩) ?_; (conv => arg 6; simp only [Act.put, List.setIfInBounds_toArray, List.set_cons_succ, List.set_cons_zero]))
      (refine wpT_free (v := .pointer (some ⟨bv, 0, none⟩)) (by rw [HO.out]; rfl) rfl (.inl ⟨rfl, fun w _ => by go_simp; (try omega)⟩) (by exact ⟨⟨_, _, H.reb.sub (by (repeat (first | exact List.Sublist.refl _ | apply List.Sublist.cons_cons | apply List.Sublist.cons)))⟩, trivial⟩) ?_; (conv => arg 6; simp only [Act.put, List.setIfInBounds_toArray, List.set_cons_succ, List.set_cons_zero]))
      (refine wpT_free (by rw [HO.out]; rfl) rfl (.inl ⟨rfl, fun w hw => run_ldK Try.underlying26 rfl rfl rfl (st_key (T := fun _ => True) (off := 0) hw HLK.out List.mem_cons_self HA.out rfl) (s26k HAK.out)⟩) (by exact ⟨⟨_, _, H.reb.sub (by (repeat (first | exact List.Sublist.refl _ | apply List.Sublist.cons_cons | apply List.Sublist.cons)))⟩, trivial⟩) ?_; (conv => arg 6; simp only [Act.put, List.setIfInBounds_toArray, List.set_cons_succ, List.set_cons_zero]))
      (refine wpT_free (by rw [HO.out]; rfl) rfl (.inl ⟨rfl, fun w _ => by go_simp; rfl⟩) (by exact ⟨⟨_, _, H.reb.sub (by (repeat (first | exact List.Sublist.refl _ | apply List.Sublist.cons_cons | apply List.Sublist.cons)))⟩, trivial⟩) ?_; (conv => arg 6; simp only [Act.put, List.setIfInBounds_toArray, List.set_cons_succ, List.set_cons_zero]))
      (refine wpT_free (v := .pointer (some ⟨bv, 32, none⟩)) (by rw [HO.out]; rfl) rfl (.inl ⟨rfl, fun w _ => by go_simp; (try omega)⟩) (by exact ⟨⟨_, _, H.reb.sub (by (repeat (first | exact List.Sublist.refl _ | apply List.Sublist.cons_cons | apply List.Sublist.cons)))⟩, trivial⟩) ?_; (conv => arg 6; simp only [Act.put, List.setIfInBounds_toArray, List.set_cons_succ, List.set_cons_zero]))
      (refine wpT_free (by rw [HO.out]; rfl) rfl (.inl ⟨rfl, fun w hw => run_ldK Try.underlying26 rfl rfl rfl (st_key (T := fun _ => True) (off := 32) hw HLK.out List.mem_cons_self HB.out rfl) (s26k HBK.out)⟩) (by exact ⟨⟨_, _, H.reb.sub (by (repeat (first | exact List.Sublist.refl _ | apply List.Sublist.cons_cons | apply List.Sublist.cons)))⟩, trivial⟩) ?_; (conv => arg 6; simp only [Act.put, List.setIfInBounds_toArray, List.set_cons_succ, List.set_cons_zero]))
      refine wpT_two (by rw [HO.out]; rfl) (by rw [HO.out]; rfl) ?_ ?_
      · go_wp2_with (go_at_call 54; refine (Agree54z _ _ _ HAK.out).mono ?_; rintro e wn ⟨rfl, M⟩; replace H := H.call0 HR.out M; clear M)
        refine PlanTQ.mk (by exact ⟨⟨_, _, H.reb.sub (by (repeat (first | exact List.Sublist.refl _ | apply List.Sublist.cons_cons | apply List.Sublist.cons)))⟩, trivial⟩) ?_
        (refine wpT_free (by rw [HO.out]; rfl) rfl (.inl ⟨rfl, fun w _ => by go_simp; rfl⟩) (by exact ⟨⟨_, _, H.reb.sub (by (repeat (first | exact List.Sublist.refl _ | apply List.Sublist.cons_cons | apply List.Sublist.cons)))⟩, trivial⟩) ?_; (conv => arg 6; simp only [Act.put, List.setIfInBounds_toArray, List.set_cons_succ, List.set_cons_zero]))
        (refine wpT_free (by rw [HO.out]; rfl) rfl (.inl ⟨rfl, fun w _ => by go_simp; rfl⟩) (by exact ⟨⟨_, _, H.reb.sub (by (repeat (first | exact List.Sublist.refl _ | apply List.Sublist.cons_cons | apply List.Sublist.cons)))⟩, trivial⟩) ?_; (conv => arg 6; simp only [Act.put, List.setIfInBounds_toArray, List.set_cons_succ, List.set_cons_zero]))
        (refine wpT_free (by rw [HO.out]; rfl) rfl (.inl ⟨rfl, fun w _ => by go_simp; rfl⟩) (by exact ⟨⟨_, _, H.reb.sub (by (repeat (first | exact List.Sublist.refl _ | apply List.Sublist.cons_cons | apply List.Sublist.cons)))⟩, trivial⟩) ?_; (conv => arg 6; simp only [Act.put, List.setIfInBounds_toArray, List.set_cons_succ, List.set_cons_zero]))
        refine wpT_op (by rw [HO.out]; rfl) ?_
        go_wp2_with (refine wpF_al 12 H HR.out z26 rfl rfl rfl (fun b12 wn Hn => ?_); clear H; rename TF _ _ _ _ _ => H; (conv => arg 5; simp only [Act.put, List.setIfInBounds_toArray, List.set_cons_succ, List.set_cons_zero]))
        refine PlanTQ.mk (by exact ⟨⟨_, _, H.reb.sub (by (repeat (first | exact List.Sublist.refl _ | apply List.Sublist.cons_cons | apply List.Sublist.cons)))⟩, trivial⟩) ?_
        refine wpT_op (by rw [HO.out]; rfl) ?_
        go_wp2_with (refine wpF_st0 (ys := zK) rfl H HR.out s26 rfl rfl rfl rfl (by (repeat (first | exact Swap.head | apply Swap.tail))) (by simp) HKL.out (fun wn Hn => ?_); clear H; rename TF _ _ _ _ _ => H; (try (conv => arg 5; simp only [Act.put, List.setIfInBounds_toArray, List.set_cons_succ, List.set_cons_zero])))
        refine PlanTQ.mk (by exact ⟨⟨_, _, H.reb.sub (by (repeat (first | exact List.Sublist.refl _ | apply List.Sublist.cons_cons | apply List.Sublist.cons)))⟩, trivial⟩) ?_
        (refine wpT_free (by rw [HO.out]; rfl) rfl (.inl ⟨rfl, fun w _ => by go_simp; rfl⟩) (by exact ⟨⟨_, _, H.reb.sub (by (repeat (first | exact List.Sublist.refl _ | apply List.Sublist.cons_cons | apply List.Sublist.cons)))⟩, trivial⟩) ?_; (conv => arg 6; simp only [Act.put, List.setIfInBounds_toArray, List.set_cons_succ, List.set_cons_zero]))
        refine wpT_done ?_
        rw [HQ.out]
        go_wp2_with fail
        go_ret
        exact RCookR.no H
      · go_wp2_with (refine wpF_al 12 H HR.out z26 rfl rfl rfl (fun b12 wn Hn => ?_); clear H; rename TF _ _ _ _ _ => H; (conv => arg 5; simp only [Act.put, List.setIfInBounds_toArray, List.set_cons_succ, List.set_cons_zero]))
        refine PlanTQ.mk (by exact ⟨⟨_, _, H.reb.sub (by (repeat (first | exact List.Sublist.refl _ | apply List.Sublist.cons_cons | apply List.Sublist.cons)))⟩, trivial⟩) ?_
        refine wpT_op (by rw [HO.out]; rfl) ?_
        go_wp2_with (go_at_call 54; refine (Agree54z _ _ _ HAK.out).mono ?_; rintro e wn ⟨rfl, M⟩; replace H := H.call0 HR.out M; clear M)
        refine PlanTQ.mk (by exact ⟨⟨_, _, H.reb.sub (by (repeat (first | exact List.Sublist.refl _ | apply List.Sublist.cons_cons | apply List.Sublist.cons)))⟩, trivial⟩) ?_
        (refine wpT_free (by rw [HO.out]; rfl) rfl (.inl ⟨rfl, fun w _ => by go_simp; rfl⟩) (by exact ⟨⟨_, _, H.reb.sub (by (repeat (first | exact List.Sublist.refl _ | apply List.Sublist.cons_cons | apply List.Sublist.cons)))⟩, trivial⟩) ?_; (conv => arg 6; simp only [Act.put, List.setIfInBounds_toArray, List.set_cons_succ, List.set_cons_zero]))
        (refine wpT_free (by rw [HO.out]; rfl) rfl (.inl ⟨rfl, fun w _ => by go_simp; rfl⟩) (by exact ⟨⟨_, _, H.reb.sub (by (repeat (first | exact List.Sublist.refl _ | apply List.Sublist.cons_cons | apply List.Sublist.cons)))⟩, trivial⟩) ?_; (conv => arg 6; simp only [Act.put, List.setIfInBounds_toArray, List.set_cons_succ, List.set_cons_zero]))
        (refine wpT_free (by rw [HO.out]; rfl) rfl (.inl ⟨rfl, fun w _ => by go_simp; rfl⟩) (by exact ⟨⟨_, _, H.reb.sub (by (repeat (first | exact List.Sublist.refl _ | apply List.Sublist.cons_cons | apply List.Sublist.cons)))⟩, trivial⟩) ?_; (conv => arg 6; simp only [Act.put, List.setIfInBounds_toArray, List.set_cons_succ, List.set_cons_zero]))
        refine wpT_op (by rw [HO.out]; rfl) ?_
        go_wp2_with (refine wpF_st0 (ys := zK) rfl H HR.out s26 rfl rfl rfl rfl (by (repeat (first | exact Swap.head | apply Swap.tail))) (by simp) HKL.out (fun wn Hn => ?_); clear H; rename TF _ _ _ _ _ => H; (try (conv => arg 5; simp only [Act.put, List.setIfInBounds_toArray, List.set_cons_succ, List.set_cons_zero])))
        refine PlanTQ.mk (by exact ⟨⟨_, _, H.reb.sub (by (repeat (first | exact List.Sublist.refl _ | apply List.Sublist.cons_cons | apply List.Sublist.cons)))⟩, trivial⟩) ?_
        (refine wpT_free (by rw [HO.out]; rfl) rfl (.inl ⟨rfl, fun w _ => by go_simp; rfl⟩) (by exact ⟨⟨_, _, H.reb.sub (by (repeat (first | exact List.Sublist.refl _ | apply List.Sublist.cons_cons | apply List.Sublist.cons)))⟩, trivial⟩) ?_; (conv => arg 6; simp only [Act.put, List.setIfInBounds_toArray, List.set_cons_succ, List.set_cons_zero]))
        refine wpT_done ?_
        rw [HQ.out]
        go_wp2_with fail
        go_ret
        exact RCookR.no H
set_option maxRecDepth 100000 in
set_option maxHeartbeats 4000000 in
theorem step49_5b {K : Nat → Prop} {w : World} {m : Nat} {ts : List Tm} {seen made : List (List Int)} {SA SB : Option Addr} {sc sd : Nat} {n : Int} {text : ByteArray} {keys raw : List Int} {I : Option Addr} {ic : Nat} (h : RStepP K w m ts seen made SA SB sc sd (⟨5, n, text, keys, raw⟩ : Ck) I ic) {l : List (List Int)} (hc : namedL made keys = some l) (hl : leastT 5 ≤ (l.length : Int)) (hz : ¬ l.getD 1 [] = zK) :
    Calls Try.prog 49 #[.pointer (some ⟨m, 0, none⟩), .slice SA seen.length sc, .slice SB made.length sd, .agg (ckCells (⟨5, n, text, keys, raw⟩ : Ck) I ic).toArray] w (RCookR K m w (putN ts (agreeT ts (l.getD 0 []) (l.getD 1 [])))) := by
  have H := TF.start h.res h.lt
  have HR := hid (refR_ok m ts)
  have hP := fun ts' => hid (refR_ok m ts')
  have hs := hid h
  have hml := hs.out.ml
  have htl := hs.out.tl
  have hsl := hs.out.sl
  have hn := hid (And.intro hc (decide_eq_true hl))
  clear h hc hl
  have htx : text.size ≤ 200 := hs.out.ck.tx
  obtain ⟨hl10, hlk⟩ := hs.out.named hn.out.1
  have hl1 : 2 ≤ l.length := by have := of_decide_eq_true hn.out.2; simp [leastT] at this; omega
  have hl0 : ¬ l = [] := fun e => by rw [e] at hl1; simp at hl1
  have HA := hid (at_getD (l := l) (i := 0) (by omega))
  have HB := hid (at_getD (l := l) (i := 1) (by omega))
  obtain ⟨ka, ha⟩ : ∃ a, a = l.getD 0 [] := ⟨_, rfl⟩
  obtain ⟨kb, hb⟩ : ∃ a, a = l.getD 1 [] := ⟨_, rfl⟩
  rw [← ha] at HA ⊢
  rw [← hb] at HB hz ⊢
  have HAK := hid (hlk _ (List.mem_of_getElem? HA.out))
  have HBK := hid (hlk _ (List.mem_of_getElem? HB.out))
  have HLK := hid hlk
  have hl1I : ¬ (l.length : Int) < 2 := by omega
  clear hlk ha hb
  have HZ := hid hz
  clear hz
  have HKL := hid (nm_ok ts (agreeT ts ka kb)).1
  go_enter Try.func49, Try.ntmps49
  go_wp2_with (refine wpF_bxC (cs := ckCells (⟨5, n, text, keys, raw⟩ : Ck) I ic) 7 H HR.out rfl rfl rfl rfl (fun b7 w1 H1 => ?_); clear H; (conv => arg 5; simp only [Act.put, List.setIfInBounds_toArray, List.set_cons_succ, List.set_cons_zero]))
  go_loopw [9, 10] (fun o x wr => ∃ (i : Nat) (B : Option Addr) (d : Nat), i ≤ keys.length ∧ x = .int .i64 i ∧ o = .slice B i d ∧ TF K (refR m ts) w wr [.vec B i d 26 32 (nums .u8 ((keys.take i).map (getK made)).flatten), .blk b7 (cellsO 55 (ckCells (⟨5, n, text, keys, raw⟩ : Ck) I ic))] ∧ Hid ((keys.take i).all (inR made) = true)) (fun _ x _ => keys.length - (intOf x).toNat)
  case atStart => exact ⟨0, none, 0, by omega, rfl, rfl, H1.step HR.out (H1.reb.nil 26 32), hid rfl⟩
  case round =>
    obtain ⟨i, B, d, hi, rfl, rfl, Hi, HA⟩ := hrel
    clear H1
    have c3 := Hi.reb.cell (i := 3) (v := .slice I keys.length ic) (List.mem_cons_of_mem _ List.mem_cons_self) rfl
    by_cases hlt : i < keys.length
    · have hltI : (i : Int) < (keys.length : Int) := by omega
      obtain ⟨a, hae⟩ : ∃ a, keys[i]? = some a := ⟨keys[i], List.getElem?_eq_getElem hlt⟩
      obtain ⟨bi, oi, hIe, hcell⟩ := (show RowC w I (nums .i64 keys) from hs.out.ir).cell (i := i) (v := .int .i64 a) (by simp [nums, hae])
      have ci := ((Hi.rowC hs.out.ir hs.out.inn).cell (i := i) (v := .int .i64 a) (by simp [nums, hae]))
      subst hIe
      obtain ⟨_, _, he, ci⟩ := ci
      injection he with he
      injection he with he1 he2 _
      subst he1 he2
      have HAE := hid hae
      clear hae hcell
      cases hin : inR made a
      · exact absurd (named_in hn.out.1 (List.mem_of_getElem? HAE.out)) (by rw [hin]; simp)
      · obtain ⟨hg, hgk⟩ := getK_ok hs.out.mo hin
        have HIN := hid hin
        unfold inR at hin
        simp only [Bool.and_eq_true, decide_eq_true_eq] at hin
        obtain ⟨h0, h1⟩ := hin
        obtain ⟨b2, o2, hA2, hcc⟩ := keys_at hs.out.mo (Hi.row hs.out.mr hs.out.mn) hg
        subst hA2
        have HCC := hid hcc
        have HGK := hid hgk
        have hj2 : a.toNat < made.length := by omega
        obtain ⟨j, rfl⟩ : ∃ j : Nat, a = (j : Int) := ⟨a.toNat, by omega⟩
        rw [Int.toNat_natCast] at HCC hj2
        have hkl : keys.length ≤ 10 := hs.out.ck.kl
        clear hcc hg hgk
        go_wp2_with (first | (apply wpList_want; (· rfl)) | (refine wpList_ldagg 41 rfl Try.underlying26 rfl rfl rfl rfl HCC.out (s26k HGK.out) ?_; (conv => arg 5; simp only [Act.put, List.setIfInBounds_toArray, List.set_cons_succ, List.set_cons_zero])) | (refine wpF_bsK1 42 Hi HR.out rfl rfl rfl rfl HGK.out (fun b42 w3 H3 => ?_); clear Hi; (conv => arg 5; simp only [Act.put, List.setIfInBounds_toArray, List.set_cons_succ, List.set_cons_zero])) | (refine wpF_appK (qs := [getK made (j : Int)]) 43 H3 HR.out rfl rfl rfl rfl rfl (fun A' cap' => Swap.tail Swap.head) (H3.reb.blkT List.mem_cons_self) (one_ok HGK.out) (by simp only [List.length_singleton]; omega) (fun A2 c2 w4 H4 => ?_); clear H3; (conv => arg 5; simp only [Act.put, List.setIfInBounds_toArray, List.set_cons_succ, List.set_cons_zero])))
        go_round
        case rel =>
          refine ⟨i + 1, A2, c2, by omega, by go_num, rfl, ?_, ?_⟩
          · have h2 : (keys.take (i + 1)).map (getK made) = (keys.take i).map (getK made) ++ [getK made (j : Int)] := by
              obtain ⟨hl, he⟩ := List.getElem?_eq_some_iff.1 HAE.out
              rw [List.take_succ_eq_append_getElem hl, he]
              simp
            rw [h2]
            exact H4.sub (by (repeat (first | exact List.Sublist.refl _ | apply List.Sublist.cons_cons | apply List.Sublist.cons)))
          · refine hid ?_
            obtain ⟨hl, he⟩ := List.getElem?_eq_some_iff.1 HAE.out
            rw [List.take_succ_eq_append_getElem hl, List.all_append, HA.out, he]
            simp [HIN.out]
        case measure => simp [intOf]; omega
    · obtain rfl : i = keys.length := by omega
      have hkl := named_len hn.out.1
      have hsl2 : Value.slice B keys.length d = Value.slice B l.length d := by rw [hkl]
      rw [named_take hn.out.1, hkl] at Hi
      rw [hsl2]
      clear hsl2 HA hi hlt
      have c0 := Hi.reb.cell (i := 0) (v := .int .i64 5) (List.mem_cons_of_mem _ List.mem_cons_self) rfl
      obtain ⟨bv, rfl⟩ := Hi.reb.vecB List.mem_cons_self (by omega)
      go_upto_region 23 with (first | fail)
      refine wp_region_planTF (fun _ => True) (.free 0 (.free 1 (.free 2 (.free 3 (.free 4 (.free 5 (.free 6 (.two 7 (.free 8 (.free 9 (.free 10 (.one 11 (.one 12 (.free 13 (.done))))))) 11 (.one 7 (.free 8 (.free 9 (.free 10 (.one 12 (.free 13 (.done))))))))))))))) (by kernel_rfl) (by kernel_rfl) (fun _ _ _ _ _ h => h) Hi HR.out ?_
      clear Hi c0
      intro ops Q HO HQ w8 H
      (refine wpT_free (by rw [HO.out]; rfl) rfl (.inl ⟨rfl, fun w _ => by go_simp; rfl⟩) (by exact ⟨⟨_, _, H.reb.sub (by (repeat (first | exact List.Sublist.refl _ | apply List.Sublist.cons_cons | apply List.Sublist.cons)))⟩, trivial⟩) ?_; (conv => arg 6; simp only [Act.put, List.setIfInBounds_toArray, List.set_cons_succ, List.set_cons_zero]))
      (refine wpT_free (by rw [HO.out]; rfl) rfl (.inl ⟨rfl, fun w _ => by go_simp; rfl⟩) (by exact ⟨⟨_, _, H.reb.sub (by (repeat (first | exact List.Sublist.refl _ | apply List.Sublist.cons_cons | apply List.Sublist.cons)))⟩, trivial⟩) ?_; (conv => arg 6; simp only [Act.put, List.setIfInBounds_toArray, List.set_cons_succ, List.set_cons_zero]))
      (refine wpT_free (v := .pointer (some ⟨bv, 0, none⟩)) (by rw [HO.out]; rfl) rfl (.inl ⟨rfl, fun w _ => by go_simp; (try omega)⟩) (by exact ⟨⟨_, _, H.reb.sub (by (repeat (first | exact List.Sublist.refl _ | apply List.Sublist.cons_cons | apply List.Sublist.cons)))⟩, trivial⟩) ?_; (conv => arg 6; simp only [Act.put, List.setIfInBounds_toArray, List.set_cons_succ, List.set_cons_zero]))
      (refine wpT_free (by rw [HO.out]; rfl) rfl (.inl ⟨rfl, fun w hw => run_ldK Try.underlying26 rfl rfl rfl (st_key (T := fun _ => True) (off := 0) hw HLK.out List.mem_cons_self HA.out rfl) (s26k HAK.out)⟩) (by exact ⟨⟨_, _, H.reb.sub (by (repeat (first | exact List.Sublist.refl _ | apply List.Sublist.cons_cons | apply List.Sublist.cons)))⟩, trivial⟩) ?_; (conv => arg 6; simp only [Act.put, List.setIfInBounds_toArray, List.set_cons_succ, List.set_cons_zero]))
      (refine wpT_free (by rw [HO.out]; rfl) rfl (.inl ⟨rfl, fun w _ => by go_simp; rfl⟩) (by exact ⟨⟨_, _, H.reb.sub (by (repeat (first | exact List.Sublist.refl _ | apply List.Sublist.cons_cons | apply List.Sublist.cons)))⟩, trivial⟩) ?_; (conv => arg 6; simp only [Act.put, List.setIfInBounds_toArray, List.set_cons_succ, List.set_cons_zero]))
      (refine wpT_free (v := .pointer (some ⟨bv, 32, none⟩)) (by rw [HO.out]; rfl) rfl (.inl ⟨rfl, fun w _ => by go_simp; (try omega)⟩) (by exact ⟨⟨_, _, H.reb.sub (by (repeat (first | exact List.Sublist.refl _ | apply List.Sublist.cons_cons | apply List.Sublist.cons)))⟩, trivial⟩) ?_; (conv => arg 6; simp only [Act.put, List.setIfInBounds_toArray, List.set_cons_succ, List.set_cons_zero]))
      (refine wpT_free (by rw [HO.out]; rfl) rfl (.inl ⟨rfl, fun w hw => run_ldK Try.underlying26 rfl rfl rfl (st_key (T := fun _ => True) (off := 32) hw HLK.out List.mem_cons_self HB.out rfl) (s26k HBK.out)⟩) (by exact ⟨⟨_, _, H.reb.sub (by (repeat (first | exact List.Sublist.refl _ | apply List.Sublist.cons_cons | apply List.Sublist.cons)))⟩, trivial⟩) ?_; (conv => arg 6; simp only [Act.put, List.setIfInBounds_toArray, List.set_cons_succ, List.set_cons_zero]))
      refine wpT_two (by rw [HO.out]; rfl) (by rw [HO.out]; rfl) ?_ ?_
      · go_wp2_with (go_at_call 54; refine (AgreeRT H hs.out.tw HAK.out HBK.out (by omega) HZ.out).mono ?_; clear H; rintro e wn ⟨rfl, H⟩)
        refine PlanTQ.mk (by exact ⟨⟨_, _, H.reb.sub (by (repeat (first | exact List.Sublist.refl _ | apply List.Sublist.cons_cons | apply List.Sublist.cons)))⟩, trivial⟩) ?_
        (refine wpT_free (by rw [HO.out]; rfl) rfl (.inl ⟨rfl, fun w _ => by go_simp; rfl⟩) (by exact ⟨⟨_, _, H.reb.sub (by (repeat (first | exact List.Sublist.refl _ | apply List.Sublist.cons_cons | apply List.Sublist.cons)))⟩, trivial⟩) ?_; (conv => arg 6; simp only [Act.put, List.setIfInBounds_toArray, List.set_cons_succ, List.set_cons_zero]))
        (refine wpT_free (by rw [HO.out]; rfl) rfl (.inl ⟨rfl, fun w _ => by go_simp; rfl⟩) (by exact ⟨⟨_, _, H.reb.sub (by (repeat (first | exact List.Sublist.refl _ | apply List.Sublist.cons_cons | apply List.Sublist.cons)))⟩, trivial⟩) ?_; (conv => arg 6; simp only [Act.put, List.setIfInBounds_toArray, List.set_cons_succ, List.set_cons_zero]))
        (refine wpT_free (by rw [HO.out]; rfl) rfl (.inl ⟨rfl, fun w _ => by go_simp; rfl⟩) (by exact ⟨⟨_, _, H.reb.sub (by (repeat (first | exact List.Sublist.refl _ | apply List.Sublist.cons_cons | apply List.Sublist.cons)))⟩, trivial⟩) ?_; (conv => arg 6; simp only [Act.put, List.setIfInBounds_toArray, List.set_cons_succ, List.set_cons_zero]))
        refine wpT_op (by rw [HO.out]; rfl) ?_
        go_wp2_with (refine wpF_al 12 H (hP _).out z26 rfl rfl rfl (fun b12 wn Hn => ?_); clear H; rename TF _ _ _ _ _ => H; (conv => arg 5; simp only [Act.put, List.setIfInBounds_toArray, List.set_cons_succ, List.set_cons_zero]))
        refine PlanTQ.mk (by exact ⟨⟨_, _, H.reb.sub (by (repeat (first | exact List.Sublist.refl _ | apply List.Sublist.cons_cons | apply List.Sublist.cons)))⟩, trivial⟩) ?_
        refine wpT_op (by rw [HO.out]; rfl) ?_
        go_wp2_with (refine wpF_st0 (ys := nm ts (agreeT ts ka kb)) rfl H (hP _).out s26 rfl rfl rfl rfl (by (repeat (first | exact Swap.head | apply Swap.tail))) (by simp) HKL.out (fun wn Hn => ?_); clear H; rename TF _ _ _ _ _ => H; (try (conv => arg 5; simp only [Act.put, List.setIfInBounds_toArray, List.set_cons_succ, List.set_cons_zero])))
        refine PlanTQ.mk (by exact ⟨⟨_, _, H.reb.sub (by (repeat (first | exact List.Sublist.refl _ | apply List.Sublist.cons_cons | apply List.Sublist.cons)))⟩, trivial⟩) ?_
        (refine wpT_free (by rw [HO.out]; rfl) rfl (.inl ⟨rfl, fun w _ => by go_simp; rfl⟩) (by exact ⟨⟨_, _, H.reb.sub (by (repeat (first | exact List.Sublist.refl _ | apply List.Sublist.cons_cons | apply List.Sublist.cons)))⟩, trivial⟩) ?_; (conv => arg 6; simp only [Act.put, List.setIfInBounds_toArray, List.set_cons_succ, List.set_cons_zero]))
        refine wpT_done ?_
        rw [HQ.out]
        go_wp2_with (first | (refine wpF_ld H Try.underlying26 s26 rfl rfl rfl rfl (by (repeat (first | exact List.mem_cons_self | refine List.mem_cons_of_mem _ ?_))) (by exact HKL.out) ?_; (conv => arg 5; simp only [Act.put, List.setIfInBounds_toArray, List.set_cons_succ, List.set_cons_zero])) | (refine wpF_bsK1 136 H (hP _).out rfl rfl rfl rfl (nm_ok _ _) (fun b136 wn Hn => ?_); clear H; rename TF _ _ _ _ _ => H; (conv => arg 5; simp only [Act.put, List.setIfInBounds_toArray, List.set_cons_succ, List.set_cons_zero])))
        go_ret
        exact RCookR.one H (by (repeat (first | exact List.mem_cons_self | refine List.mem_cons_of_mem _ ?_))) rfl
      · go_wp2_with (refine wpF_al 12 H HR.out z26 rfl rfl rfl (fun b12 wn Hn => ?_); clear H; rename TF _ _ _ _ _ => H; (conv => arg 5; simp only [Act.put, List.setIfInBounds_toArray, List.set_cons_succ, List.set_cons_zero]))
        refine PlanTQ.mk (by exact ⟨⟨_, _, H.reb.sub (by (repeat (first | exact List.Sublist.refl _ | apply List.Sublist.cons_cons | apply List.Sublist.cons)))⟩, trivial⟩) ?_
        refine wpT_op (by rw [HO.out]; rfl) ?_
        go_wp2_with (go_at_call 54; refine (AgreeRT H hs.out.tw HAK.out HBK.out (by omega) HZ.out).mono ?_; clear H; rintro e wn ⟨rfl, H⟩)
        refine PlanTQ.mk (by exact ⟨⟨_, _, H.reb.sub (by (repeat (first | exact List.Sublist.refl _ | apply List.Sublist.cons_cons | apply List.Sublist.cons)))⟩, trivial⟩) ?_
        (refine wpT_free (by rw [HO.out]; rfl) rfl (.inl ⟨rfl, fun w _ => by go_simp; rfl⟩) (by exact ⟨⟨_, _, H.reb.sub (by (repeat (first | exact List.Sublist.refl _ | apply List.Sublist.cons_cons | apply List.Sublist.cons)))⟩, trivial⟩) ?_; (conv => arg 6; simp only [Act.put, List.setIfInBounds_toArray, List.set_cons_succ, List.set_cons_zero]))
        (refine wpT_free (by rw [HO.out]; rfl) rfl (.inl ⟨rfl, fun w _ => by go_simp; rfl⟩) (by exact ⟨⟨_, _, H.reb.sub (by (repeat (first | exact List.Sublist.refl _ | apply List.Sublist.cons_cons | apply List.Sublist.cons)))⟩, trivial⟩) ?_; (conv => arg 6; simp only [Act.put, List.setIfInBounds_toArray, List.set_cons_succ, List.set_cons_zero]))
        (refine wpT_free (by rw [HO.out]; rfl) rfl (.inl ⟨rfl, fun w _ => by go_simp; rfl⟩) (by exact ⟨⟨_, _, H.reb.sub (by (repeat (first | exact List.Sublist.refl _ | apply List.Sublist.cons_cons | apply List.Sublist.cons)))⟩, trivial⟩) ?_; (conv => arg 6; simp only [Act.put, List.setIfInBounds_toArray, List.set_cons_succ, List.set_cons_zero]))
        refine wpT_op (by rw [HO.out]; rfl) ?_
        go_wp2_with (refine wpF_st0 (ys := nm ts (agreeT ts ka kb)) rfl H (hP _).out s26 rfl rfl rfl rfl (by (repeat (first | exact Swap.head | apply Swap.tail))) (by simp) HKL.out (fun wn Hn => ?_); clear H; rename TF _ _ _ _ _ => H; (try (conv => arg 5; simp only [Act.put, List.setIfInBounds_toArray, List.set_cons_succ, List.set_cons_zero])))
        refine PlanTQ.mk (by exact ⟨⟨_, _, H.reb.sub (by (repeat (first | exact List.Sublist.refl _ | apply List.Sublist.cons_cons | apply List.Sublist.cons)))⟩, trivial⟩) ?_
        (refine wpT_free (by rw [HO.out]; rfl) rfl (.inl ⟨rfl, fun w _ => by go_simp; rfl⟩) (by exact ⟨⟨_, _, H.reb.sub (by (repeat (first | exact List.Sublist.refl _ | apply List.Sublist.cons_cons | apply List.Sublist.cons)))⟩, trivial⟩) ?_; (conv => arg 6; simp only [Act.put, List.setIfInBounds_toArray, List.set_cons_succ, List.set_cons_zero]))
        refine wpT_done ?_
        rw [HQ.out]
        go_wp2_with (first | (refine wpF_ld H Try.underlying26 s26 rfl rfl rfl rfl (by (repeat (first | exact List.mem_cons_self | refine List.mem_cons_of_mem _ ?_))) (by exact HKL.out) ?_; (conv => arg 5; simp only [Act.put, List.setIfInBounds_toArray, List.set_cons_succ, List.set_cons_zero])) | (refine wpF_bsK1 136 H (hP _).out rfl rfl rfl rfl (nm_ok _ _) (fun b136 wn Hn => ?_); clear H; rename TF _ _ _ _ _ => H; (conv => arg 5; simp only [Act.put, List.setIfInBounds_toArray, List.set_cons_succ, List.set_cons_zero])))
        go_ret
        exact RCookR.one H (by (repeat (first | exact List.mem_cons_self | refine List.mem_cons_of_mem _ ?_))) rfl
end Go.Proofs.Ytcapfnbmmdbcoaa
namespace Go.Proofs.Ytcapfnbmmdbcoaa
open Go.RowKit
theorem SealRT {K0 : Nat → Prop} {w0 w : World} {L : List Item} {m : Nat} {ts : List Tm} (H : TF K0 (refR m ts) w0 w L) {text : ByteArray} {k l : List Int} {B : Option Addr} {n d : Nat} {ks : List (List Int)} (hn : n = ks.length) (ht : text.size ≤ 1000) (hk : KeyOk k) (hkl : KeyOk l) (hks : ∀ k ∈ ks, KeyOk k) (hl : ks.length ≤ 900) (hr : RowT w 26 B (nums .u8 ks.flatten)) (hf : ts.length ≤ 900000) :
    Calls Try.prog 47 #[.pointer (some ⟨m, 0, none⟩), .agg (nums .u8 k).toArray, .agg (nums .u8 l).toArray, .string text, .slice B n d] w fun e w' => IsStr (strOfNums (nm ts ⟨6, text, k :: l :: ks⟩)) e ∧ TF K0 (refR m (putL ts ⟨6, text, k :: l :: ks⟩)) w0 w' L := by
  subst hn
  exact (H.run (R := fun e L2 => IsStr (strOfNums (nm ts ⟨6, text, k :: l :: ks⟩)) e ∧ L2 = []) fun K1 h1 hlt => (Seal47 h1 hlt ht hk hkl hks hl hr hf).mono fun e w' ⟨he, F⟩ => ⟨[], ⟨he, rfl⟩, TF.of F hlt⟩).mono fun e w' ⟨L2, ⟨he, hL⟩, F⟩ => ⟨he, by rw [hL] at F; exact F⟩
theorem MarkRN (m : Nat) {k : List Int} (hk : KeyOk k) (w : World) : Calls Try.prog 52 #[.pointer (some ⟨m, 0, none⟩), .string (strOfNums k)] w (KeyR k w) := by
  have := Mark52k m (strOfNums k) w (strKey hk).1
  rwa [(strKey hk).2] at this
set_option maxRecDepth 100000 in
set_option maxHeartbeats 4000000 in
theorem step49_6 {K : Nat → Prop} {w : World} {m : Nat} {ts : List Tm} {seen made : List (List Int)} {SA SB : Option Addr} {sc sd : Nat} {n : Int} {text : ByteArray} {keys raw : List Int} {I : Option Addr} {ic : Nat} (h : RStepP K w m ts seen made SA SB sc sd (⟨6, n, text, keys, raw⟩ : Ck) I ic) {l : List (List Int)} (hc : namedL made keys = some l) (hl : leastT 6 ≤ (l.length : Int)) :
    Calls Try.prog 49 #[.pointer (some ⟨m, 0, none⟩), .slice SA seen.length sc, .slice SB made.length sd, .agg (ckCells (⟨6, n, text, keys, raw⟩ : Ck) I ic).toArray] w (RCookR K m w (putN ts ⟨6, text, l.getD 0 [] :: l.getD 1 [] :: l.drop 2⟩)) := by
  have H := TF.start h.res h.lt
  have HR := hid (refR_ok m ts)
  have hP := fun ts' => hid (refR_ok m ts')
  have hs := hid h
  have hml := hs.out.ml
  have htl := hs.out.tl
  have hsl := hs.out.sl
  have hn := hid (And.intro hc (decide_eq_true hl))
  clear h hc hl
  have htx : text.size ≤ 200 := hs.out.ck.tx
  obtain ⟨hl10, hlk⟩ := hs.out.named hn.out.1
  have hl1 : 2 ≤ l.length := by have := of_decide_eq_true hn.out.2; simp [leastT] at this; omega
  have hl0 : ¬ l = [] := fun e => by rw [e] at hl1; simp at hl1
  have HA := hid (at_getD (l := l) (i := 0) (by omega))
  have HB := hid (at_getD (l := l) (i := 1) (by omega))
  obtain ⟨ka, ha⟩ : ∃ a, a = l.getD 0 [] := ⟨_, rfl⟩
  obtain ⟨kb, hb⟩ : ∃ a, a = l.getD 1 [] := ⟨_, rfl⟩
  rw [← ha] at HA ⊢
  rw [← hb] at HB ⊢
  have HAK := hid (hlk _ (List.mem_of_getElem? HA.out))
  have HBK := hid (hlk _ (List.mem_of_getElem? HB.out))
  have HLK := hid hlk
  have hl1I : ¬ (l.length : Int) < 2 := by omega
  have HDK := hid (show ∀ k ∈ l.drop 2, KeyOk k from fun k hk => hlk k (List.mem_of_mem_drop hk))
  have HDL := hid (show l.length - 2 = (l.drop 2).length from by rw [List.length_drop])
  have HDN := hid (show (l.drop 2).length ≤ 900 from by rw [List.length_drop]; omega)
  clear hlk ha hb
  go_enter Try.func49, Try.ntmps49
  go_wp2_with (refine wpF_bxC (cs := ckCells (⟨6, n, text, keys, raw⟩ : Ck) I ic) 7 H HR.out rfl rfl rfl rfl (fun b7 w1 H1 => ?_); clear H; (conv => arg 5; simp only [Act.put, List.setIfInBounds_toArray, List.set_cons_succ, List.set_cons_zero]))
  go_loopw [9, 10] (fun o x wr => ∃ (i : Nat) (B : Option Addr) (d : Nat), i ≤ keys.length ∧ x = .int .i64 i ∧ o = .slice B i d ∧ TF K (refR m ts) w wr [.vec B i d 26 32 (nums .u8 ((keys.take i).map (getK made)).flatten), .blk b7 (cellsO 55 (ckCells (⟨6, n, text, keys, raw⟩ : Ck) I ic))] ∧ Hid ((keys.take i).all (inR made) = true)) (fun _ x _ => keys.length - (intOf x).toNat)
  case atStart => exact ⟨0, none, 0, by omega, rfl, rfl, H1.step HR.out (H1.reb.nil 26 32), hid rfl⟩
  case round =>
    obtain ⟨i, B, d, hi, rfl, rfl, Hi, HA⟩ := hrel
    clear H1
    have c3 := Hi.reb.cell (i := 3) (v := .slice I keys.length ic) (List.mem_cons_of_mem _ List.mem_cons_self) rfl
    by_cases hlt : i < keys.length
    · have hltI : (i : Int) < (keys.length : Int) := by omega
      obtain ⟨a, hae⟩ : ∃ a, keys[i]? = some a := ⟨keys[i], List.getElem?_eq_getElem hlt⟩
      obtain ⟨bi, oi, hIe, hcell⟩ := (show RowC w I (nums .i64 keys) from hs.out.ir).cell (i := i) (v := .int .i64 a) (by simp [nums, hae])
      have ci := ((Hi.rowC hs.out.ir hs.out.inn).cell (i := i) (v := .int .i64 a) (by simp [nums, hae]))
      subst hIe
      obtain ⟨_, _, he, ci⟩ := ci
      injection he with he
      injection he with he1 he2 _
      subst he1 he2
      have HAE := hid hae
      clear hae hcell
      cases hin : inR made a
      · exact absurd (named_in hn.out.1 (List.mem_of_getElem? HAE.out)) (by rw [hin]; simp)
      · obtain ⟨hg, hgk⟩ := getK_ok hs.out.mo hin
        have HIN := hid hin
        unfold inR at hin
        simp only [Bool.and_eq_true, decide_eq_true_eq] at hin
        obtain ⟨h0, h1⟩ := hin
        obtain ⟨b2, o2, hA2, hcc⟩ := keys_at hs.out.mo (Hi.row hs.out.mr hs.out.mn) hg
        subst hA2
        have HCC := hid hcc
        have HGK := hid hgk
        have hj2 : a.toNat < made.length := by omega
        obtain ⟨j, rfl⟩ : ∃ j : Nat, a = (j : Int) := ⟨a.toNat, by omega⟩
        rw [Int.toNat_natCast] at HCC hj2
        have hkl : keys.length ≤ 10 := hs.out.ck.kl
        clear hcc hg hgk
        go_wp2_with (first | (apply wpList_want; (· rfl)) | (refine wpList_ldagg 41 rfl Try.underlying26 rfl rfl rfl rfl HCC.out (s26k HGK.out) ?_; (conv => arg 5; simp only [Act.put, List.setIfInBounds_toArray, List.set_cons_succ, List.set_cons_zero])) | (refine wpF_bsK1 42 Hi HR.out rfl rfl rfl rfl HGK.out (fun b42 w3 H3 => ?_); clear Hi; (conv => arg 5; simp only [Act.put, List.setIfInBounds_toArray, List.set_cons_succ, List.set_cons_zero])) | (refine wpF_appK (qs := [getK made (j : Int)]) 43 H3 HR.out rfl rfl rfl rfl rfl (fun A' cap' => Swap.tail Swap.head) (H3.reb.blkT List.mem_cons_self) (one_ok HGK.out) (by simp only [List.length_singleton]; omega) (fun A2 c2 w4 H4 => ?_); clear H3; (conv => arg 5; simp only [Act.put, List.setIfInBounds_toArray, List.set_cons_succ, List.set_cons_zero])))
        go_round
        case rel =>
          refine ⟨i + 1, A2, c2, by omega, by go_num, rfl, ?_, ?_⟩
          · have h2 : (keys.take (i + 1)).map (getK made) = (keys.take i).map (getK made) ++ [getK made (j : Int)] := by
              obtain ⟨hl, he⟩ := List.getElem?_eq_some_iff.1 HAE.out
              rw [List.take_succ_eq_append_getElem hl, he]
              simp
            rw [h2]
            exact H4.sub (by (repeat (first | exact List.Sublist.refl _ | apply List.Sublist.cons_cons | apply List.Sublist.cons)))
          · refine hid ?_
            obtain ⟨hl, he⟩ := List.getElem?_eq_some_iff.1 HAE.out
            rw [List.take_succ_eq_append_getElem hl, List.all_append, HA.out, he]
            simp [HIN.out]
        case measure => simp [intOf]; omega
    · obtain rfl : i = keys.length := by omega
      have hkl := named_len hn.out.1
      have hsl2 : Value.slice B keys.length d = Value.slice B l.length d := by rw [hkl]
      rw [named_take hn.out.1, hkl] at Hi
      rw [hsl2]
      clear hsl2 HA hi hlt
      have c0 := Hi.reb.cell (i := 0) (v := .int .i64 6) (List.mem_cons_of_mem _ List.mem_cons_self) rfl
      obtain ⟨bv, rfl⟩ := Hi.reb.vecB List.mem_cons_self (by omega)
      have hcap := Hi.reb.vec_cap List.mem_cons_self
      go_upto_region 28 with (first | fail)
      refine wp_region_planTF (fun _ => True) (.free 0 (.free 1 (.free 2 (.free 3 (.free 4 (.free 5 (.free 6 (.free 7 (.free 8 (.free 9 (.free 10 (.free 11 (.one 12 (.one 13 (.one 14 (.free 15 (.done))))))))))))))))) (by kernel_rfl) (by kernel_rfl) (fun _ _ _ _ _ h => h) Hi HR.out ?_
      clear Hi c0
      intro ops Q HO HQ w8 H
      (refine wpT_free (by rw [HO.out]; rfl) rfl (.inl ⟨rfl, fun w _ => by go_simp; rfl⟩) (by exact ⟨⟨_, _, H.reb.sub (by (repeat (first | exact List.Sublist.refl _ | apply List.Sublist.cons_cons | apply List.Sublist.cons)))⟩, trivial⟩) ?_; (conv => arg 6; simp only [Act.put, List.setIfInBounds_toArray, List.set_cons_succ, List.set_cons_zero]))
      (refine wpT_free (by rw [HO.out]; rfl) rfl (.inl ⟨rfl, fun w _ => by go_simp; rfl⟩) (by exact ⟨⟨_, _, H.reb.sub (by (repeat (first | exact List.Sublist.refl _ | apply List.Sublist.cons_cons | apply List.Sublist.cons)))⟩, trivial⟩) ?_; (conv => arg 6; simp only [Act.put, List.setIfInBounds_toArray, List.set_cons_succ, List.set_cons_zero]))
      (refine wpT_free (by rw [HO.out]; rfl) rfl (.inl ⟨rfl, fun w _ => by go_simp; rfl⟩) (by exact ⟨⟨_, _, H.reb.sub (by (repeat (first | exact List.Sublist.refl _ | apply List.Sublist.cons_cons | apply List.Sublist.cons)))⟩, trivial⟩) ?_; (conv => arg 6; simp only [Act.put, List.setIfInBounds_toArray, List.set_cons_succ, List.set_cons_zero]))
      (refine wpT_free (v := .pointer (some ⟨bv, 0, none⟩)) (by rw [HO.out]; rfl) rfl (.inl ⟨rfl, fun w _ => by go_simp; (try omega)⟩) (by exact ⟨⟨_, _, H.reb.sub (by (repeat (first | exact List.Sublist.refl _ | apply List.Sublist.cons_cons | apply List.Sublist.cons)))⟩, trivial⟩) ?_; (conv => arg 6; simp only [Act.put, List.setIfInBounds_toArray, List.set_cons_succ, List.set_cons_zero]))
      (refine wpT_free (by rw [HO.out]; rfl) rfl (.inl ⟨rfl, fun w hw => run_ldK Try.underlying26 rfl rfl rfl (st_key (T := fun _ => True) (off := 0) hw HLK.out List.mem_cons_self HA.out rfl) (s26k HAK.out)⟩) (by exact ⟨⟨_, _, H.reb.sub (by (repeat (first | exact List.Sublist.refl _ | apply List.Sublist.cons_cons | apply List.Sublist.cons)))⟩, trivial⟩) ?_; (conv => arg 6; simp only [Act.put, List.setIfInBounds_toArray, List.set_cons_succ, List.set_cons_zero]))
      (refine wpT_free (by rw [HO.out]; rfl) rfl (.inl ⟨rfl, fun w _ => by go_simp; rfl⟩) (by exact ⟨⟨_, _, H.reb.sub (by (repeat (first | exact List.Sublist.refl _ | apply List.Sublist.cons_cons | apply List.Sublist.cons)))⟩, trivial⟩) ?_; (conv => arg 6; simp only [Act.put, List.setIfInBounds_toArray, List.set_cons_succ, List.set_cons_zero]))
      (refine wpT_free (v := .pointer (some ⟨bv, 32, none⟩)) (by rw [HO.out]; rfl) rfl (.inl ⟨rfl, fun w _ => by go_simp; (try omega)⟩) (by exact ⟨⟨_, _, H.reb.sub (by (repeat (first | exact List.Sublist.refl _ | apply List.Sublist.cons_cons | apply List.Sublist.cons)))⟩, trivial⟩) ?_; (conv => arg 6; simp only [Act.put, List.setIfInBounds_toArray, List.set_cons_succ, List.set_cons_zero]))
      (refine wpT_free (by rw [HO.out]; rfl) rfl (.inl ⟨rfl, fun w hw => run_ldK Try.underlying26 rfl rfl rfl (st_key (T := fun _ => True) (off := 32) hw HLK.out List.mem_cons_self HB.out rfl) (s26k HBK.out)⟩) (by exact ⟨⟨_, _, H.reb.sub (by (repeat (first | exact List.Sublist.refl _ | apply List.Sublist.cons_cons | apply List.Sublist.cons)))⟩, trivial⟩) ?_; (conv => arg 6; simp only [Act.put, List.setIfInBounds_toArray, List.set_cons_succ, List.set_cons_zero]))
      (refine wpT_free (by rw [HO.out]; rfl) rfl (.inl ⟨rfl, fun w _ => by go_simp; rfl⟩) (by exact ⟨⟨_, _, H.reb.sub (by (repeat (first | exact List.Sublist.refl _ | apply List.Sublist.cons_cons | apply List.Sublist.cons)))⟩, trivial⟩) ?_; (conv => arg 6; simp only [Act.put, List.setIfInBounds_toArray, List.set_cons_succ, List.set_cons_zero]))
      (refine wpT_free (by rw [HO.out]; rfl) rfl (.inl ⟨rfl, fun w hw => run_ld1 Try.underlying9 rfl rfl rfl (st_cell (T := fun _ => True) hw (i := 2) (List.mem_cons_of_mem _ List.mem_cons_self) rfl)⟩) (by exact ⟨⟨_, _, H.reb.sub (by (repeat (first | exact List.Sublist.refl _ | apply List.Sublist.cons_cons | apply List.Sublist.cons)))⟩, trivial⟩) ?_; (conv => arg 6; simp only [Act.put, List.setIfInBounds_toArray, List.set_cons_succ, List.set_cons_zero]))
      (refine wpT_free (by rw [HO.out]; rfl) rfl (.inl ⟨rfl, fun w _ => by go_simp; rfl⟩) (by exact ⟨⟨_, _, H.reb.sub (by (repeat (first | exact List.Sublist.refl _ | apply List.Sublist.cons_cons | apply List.Sublist.cons)))⟩, trivial⟩) ?_; (conv => arg 6; simp only [Act.put, List.setIfInBounds_toArray, List.set_cons_succ, List.set_cons_zero]))
      (refine wpT_free (v := .slice (lowA (some ⟨bv, 0, none⟩) d 2 32) (l.length - 2) (d - 2)) (by rw [HO.out]; rfl) rfl (.inl ⟨rfl, fun w _ => run_slLow Try.underlying34 s26 rfl rfl (k := .i64) (l := 2) rfl (by decide) (by omega) hcap w⟩) (by exact ⟨⟨_, _, H.reb.sub (by (repeat (first | exact List.Sublist.refl _ | apply List.Sublist.cons_cons | apply List.Sublist.cons)))⟩, trivial⟩) ?_; (conv => arg 6; simp only [Act.put, List.setIfInBounds_toArray, List.set_cons_succ, List.set_cons_zero]))
      refine wpT_op (by rw [HO.out]; rfl) ?_
      go_wp2_with (go_at_call 47; refine (SealRT H HDL.out (by omega) HAK.out HBK.out HDK.out HDN.out (low_keys HLK.out (H.reb.vecT List.mem_cons_self) hcap) (by omega)).mono ?_; clear H; rintro e wn ⟨rfl, H⟩)
      refine PlanTQ.mk (by exact ⟨⟨_, _, H.reb.sub (by (repeat (first | exact List.Sublist.refl _ | apply List.Sublist.cons_cons | apply List.Sublist.cons)))⟩, trivial⟩) ?_
      refine wpT_op (by rw [HO.out]; rfl) ?_
      go_wp2_with (go_at_call 52; refine (MarkRN _ (nm_ok _ _) _).mono ?_; rintro e wn ⟨rfl, M⟩; replace H := H.call0 (hP _).out M; clear M)
      refine PlanTQ.mk (by exact ⟨⟨_, _, H.reb.sub (by (repeat (first | exact List.Sublist.refl _ | apply List.Sublist.cons_cons | apply List.Sublist.cons)))⟩, trivial⟩) ?_
      refine wpT_op (by rw [HO.out]; rfl) ?_
      go_wp2_with (refine wpF_bsK1 153 H (hP _).out rfl rfl rfl rfl (nm_ok _ _) (fun b153 wn Hn => ?_); clear H; rename TF _ _ _ _ _ => H; (conv => arg 5; simp only [Act.put, List.setIfInBounds_toArray, List.set_cons_succ, List.set_cons_zero]))
      refine PlanTQ.mk (by exact ⟨⟨_, _, H.reb.sub (by (repeat (first | exact List.Sublist.refl _ | apply List.Sublist.cons_cons | apply List.Sublist.cons)))⟩, trivial⟩) ?_
      (refine wpT_free (by rw [HO.out]; rfl) rfl (.inl ⟨rfl, fun w _ => by go_simp; rfl⟩) (by exact ⟨⟨_, _, H.reb.sub (by (repeat (first | exact List.Sublist.refl _ | apply List.Sublist.cons_cons | apply List.Sublist.cons)))⟩, trivial⟩) ?_; (conv => arg 6; simp only [Act.put, List.setIfInBounds_toArray, List.set_cons_succ, List.set_cons_zero]))
      refine wpT_done ?_
      rw [HQ.out]
      go_wp2_with fail
      go_ret
      exact RCookR.one H (by (repeat (first | exact List.mem_cons_self | refine List.mem_cons_of_mem _ ?_))) rfl
end Go.Proofs.Ytcapfnbmmdbcoaa
namespace Go.Proofs.Ytcapfnbmmdbcoaa
open Go.RowKit
def OpenRow (w : World) (r : Option (ByteArray × List (List Int))) (e : Ending) (w' : World) : Prop :=
  match r with
  | none => e = .returned (.tuple #[.string ⟨#[]⟩, .slice none 0 0, .bool false]) ∧ Mem w [] w' []
  | some (x, ks) => ∃ A c, e = .returned (.tuple #[.string x, .slice A ks.length c, .bool true]) ∧ RowT w' 26 A (nums .u8 ks.flatten) ∧ Mem w [] w' []
theorem OpenRT {K0 : Nat → Prop} {w0 w : World} {L : List Item} {m : Nat} {ts : List Tm} (H : TF K0 (refR m ts) w0 w L) (hw : ∀ t ∈ ts, TmW t) {k b : List Int} {s : ByteArray} (hk : KeyOk k) (hb : KeyOk b) {r : Option (ByteArray × List (List Int))} (hr : openM ts k b s = r) :
    Calls Try.prog 74 #[.pointer (some ⟨m, 0, none⟩), .agg (nums .u8 k).toArray, .agg (nums .u8 b).toArray, .string s] w (OpenRow w r) := by
  obtain ⟨K, a1, a2, _⟩ := H.ex
  subst hr
  refine (Open74 a1 (fun b hb => (a2 b hb).2) hw hk hb).mono fun e w' h => ?_
  cases ho : openM ts k b s with
  | none => rw [ho] at h; exact h
  | some x =>
    obtain ⟨x, ks⟩ := x
    rw [ho] at h
    obtain ⟨A, c, he, _, _, hr, _, M⟩ := h
    exact ⟨A, c, he, hr, M⟩
theorem RStepP.tmok {K : Nat → Prop} {w : World} {m : Nat} {ts : List Tm} {seen made : List (List Int)} {SA SB : Option Addr} {sc sd : Nat} {c : Ck} {I : Option Addr} {ic : Nat} (h : RStepP K w m ts seen made SA SB sc sd c I ic) : ∀ t ∈ ts, TmOk t := by
  obtain ⟨A, c, S, e, T⟩ := h.res
  exact T.ok
set_option maxRecDepth 100000 in
set_option maxHeartbeats 4000000 in
theorem step49_7a {K : Nat → Prop} {w : World} {m : Nat} {ts : List Tm} {seen made : List (List Int)} {SA SB : Option Addr} {sc sd : Nat} {n : Int} {text : ByteArray} {keys raw : List Int} {I : Option Addr} {ic : Nat} (h : RStepP K w m ts seen made SA SB sc sd (⟨7, n, text, keys, raw⟩ : Ck) I ic) {l : List (List Int)} (hc : namedL made keys = some l) (hl : leastT 7 ≤ (l.length : Int)) (ho : openM ts (l.getD 0 []) (l.getD 1 []) (strOfNums (l.getD 2 [])) = none) :
    Calls Try.prog 49 #[.pointer (some ⟨m, 0, none⟩), .slice SA seen.length sc, .slice SB made.length sd, .agg (ckCells (⟨7, n, text, keys, raw⟩ : Ck) I ic).toArray] w (RCookR K m w (ts, [])) := by
  have H := TF.start h.res h.lt
  have HR := hid (refR_ok m ts)
  have hP := fun ts' => hid (refR_ok m ts')
  have hs := hid h
  have hml := hs.out.ml
  have htl := hs.out.tl
  have hsl := hs.out.sl
  have hn := hid (And.intro hc (decide_eq_true hl))
  clear h hc hl
  have htx : text.size ≤ 200 := hs.out.ck.tx
  obtain ⟨hl10, hlk⟩ := hs.out.named hn.out.1
  have hl1 : 3 ≤ l.length := by have := of_decide_eq_true hn.out.2; simp [leastT] at this; omega
  have hl0 : ¬ l = [] := fun e => by rw [e] at hl1; simp at hl1
  have HA := hid (at_getD (l := l) (i := 0) (by omega))
  have HB := hid (at_getD (l := l) (i := 1) (by omega))
  have HC := hid (at_getD (l := l) (i := 2) (by omega))
  obtain ⟨ka, ha⟩ : ∃ a, a = l.getD 0 [] := ⟨_, rfl⟩
  obtain ⟨kb, hb⟩ : ∃ a, a = l.getD 1 [] := ⟨_, rfl⟩
  obtain ⟨kc, hc⟩ : ∃ a, a = l.getD 2 [] := ⟨_, rfl⟩
  rw [← ha] at HA ho
  rw [← hb] at HB ho
  rw [← hc] at HC ho
  have HAK := hid (hlk _ (List.mem_of_getElem? HA.out))
  have HBK := hid (hlk _ (List.mem_of_getElem? HB.out))
  have HCK := hid (hlk _ (List.mem_of_getElem? HC.out))
  have HLK := hid hlk
  have hl1I : ¬ (l.length : Int) < 3 := by omega
  clear hlk ha hb hc
  have HOP := hid ho
  clear ho
  go_enter Try.func49, Try.ntmps49
  go_wp2_with (refine wpF_bxC (cs := ckCells (⟨7, n, text, keys, raw⟩ : Ck) I ic) 7 H HR.out rfl rfl rfl rfl (fun b7 w1 H1 => ?_); clear H; (conv => arg 5; simp only [Act.put, List.setIfInBounds_toArray, List.set_cons_succ, List.set_cons_zero]))
  go_loopw [9, 10] (fun o x wr => ∃ (i : Nat) (B : Option Addr) (d : Nat), i ≤ keys.length ∧ x = .int .i64 i ∧ o = .slice B i d ∧ TF K (refR m ts) w wr [.vec B i d 26 32 (nums .u8 ((keys.take i).map (getK made)).flatten), .blk b7 (cellsO 55 (ckCells (⟨7, n, text, keys, raw⟩ : Ck) I ic))] ∧ Hid ((keys.take i).all (inR made) = true)) (fun _ x _ => keys.length - (intOf x).toNat)
  case atStart => exact ⟨0, none, 0, by omega, rfl, rfl, H1.step HR.out (H1.reb.nil 26 32), hid rfl⟩
  case round =>
    obtain ⟨i, B, d, hi, rfl, rfl, Hi, HA⟩ := hrel
    clear H1
    have c3 := Hi.reb.cell (i := 3) (v := .slice I keys.length ic) (List.mem_cons_of_mem _ List.mem_cons_self) rfl
    by_cases hlt : i < keys.length
    · have hltI : (i : Int) < (keys.length : Int) := by omega
      obtain ⟨a, hae⟩ : ∃ a, keys[i]? = some a := ⟨keys[i], List.getElem?_eq_getElem hlt⟩
      obtain ⟨bi, oi, hIe, hcell⟩ := (show RowC w I (nums .i64 keys) from hs.out.ir).cell (i := i) (v := .int .i64 a) (by simp [nums, hae])
      have ci := ((Hi.rowC hs.out.ir hs.out.inn).cell (i := i) (v := .int .i64 a) (by simp [nums, hae]))
      subst hIe
      obtain ⟨_, _, he, ci⟩ := ci
      injection he with he
      injection he with he1 he2 _
      subst he1 he2
      have HAE := hid hae
      clear hae hcell
      cases hin : inR made a
      · exact absurd (named_in hn.out.1 (List.mem_of_getElem? HAE.out)) (by rw [hin]; simp)
      · obtain ⟨hg, hgk⟩ := getK_ok hs.out.mo hin
        have HIN := hid hin
        unfold inR at hin
        simp only [Bool.and_eq_true, decide_eq_true_eq] at hin
        obtain ⟨h0, h1⟩ := hin
        obtain ⟨b2, o2, hA2, hcc⟩ := keys_at hs.out.mo (Hi.row hs.out.mr hs.out.mn) hg
        subst hA2
        have HCC := hid hcc
        have HGK := hid hgk
        have hj2 : a.toNat < made.length := by omega
        obtain ⟨j, rfl⟩ : ∃ j : Nat, a = (j : Int) := ⟨a.toNat, by omega⟩
        rw [Int.toNat_natCast] at HCC hj2
        have hkl : keys.length ≤ 10 := hs.out.ck.kl
        clear hcc hg hgk
        go_wp2_with (first | (apply wpList_want; (· rfl)) | (refine wpList_ldagg 41 rfl Try.underlying26 rfl rfl rfl rfl HCC.out (s26k HGK.out) ?_; (conv => arg 5; simp only [Act.put, List.setIfInBounds_toArray, List.set_cons_succ, List.set_cons_zero])) | (refine wpF_bsK1 42 Hi HR.out rfl rfl rfl rfl HGK.out (fun b42 w3 H3 => ?_); clear Hi; (conv => arg 5; simp only [Act.put, List.setIfInBounds_toArray, List.set_cons_succ, List.set_cons_zero])) | (refine wpF_appK (qs := [getK made (j : Int)]) 43 H3 HR.out rfl rfl rfl rfl rfl (fun A' cap' => Swap.tail Swap.head) (H3.reb.blkT List.mem_cons_self) (one_ok HGK.out) (by simp only [List.length_singleton]; omega) (fun A2 c2 w4 H4 => ?_); clear H3; (conv => arg 5; simp only [Act.put, List.setIfInBounds_toArray, List.set_cons_succ, List.set_cons_zero])))
        go_round
        case rel =>
          refine ⟨i + 1, A2, c2, by omega, by go_num, rfl, ?_, ?_⟩
          · have h2 : (keys.take (i + 1)).map (getK made) = (keys.take i).map (getK made) ++ [getK made (j : Int)] := by
              obtain ⟨hl, he⟩ := List.getElem?_eq_some_iff.1 HAE.out
              rw [List.take_succ_eq_append_getElem hl, he]
              simp
            rw [h2]
            exact H4.sub (by (repeat (first | exact List.Sublist.refl _ | apply List.Sublist.cons_cons | apply List.Sublist.cons)))
          · refine hid ?_
            obtain ⟨hl, he⟩ := List.getElem?_eq_some_iff.1 HAE.out
            rw [List.take_succ_eq_append_getElem hl, List.all_append, HA.out, he]
            simp [HIN.out]
        case measure => simp [intOf]; omega
    · obtain rfl : i = keys.length := by omega
      have hkl := named_len hn.out.1
      have hsl2 : Value.slice B keys.length d = Value.slice B l.length d := by rw [hkl]
      rw [named_take hn.out.1, hkl] at Hi
      rw [hsl2]
      clear hsl2 HA hi hlt
      have c0 := Hi.reb.cell (i := 0) (v := .int .i64 7) (List.mem_cons_of_mem _ List.mem_cons_self) rfl
      obtain ⟨bv, rfl⟩ := Hi.reb.vecB List.mem_cons_self (by omega)
      go_upto_region 30 with (first | fail)
      refine wp_region_planTF (fun _ => True) (.free 0 (.free 1 (.free 2 (.free 3 (.free 4 (.free 5 (.free 6 (.free 7 (.free 8 (.free 9 (.free 10 (.one 11 (.free 12 (.free 13 (.free 14 (.free 15 (.free 16 (.free 17 (.free 18 (.done)))))))))))))))))))) (by kernel_rfl) (by kernel_rfl) (fun _ _ _ _ _ h => h) Hi HR.out ?_
      clear Hi c0
      intro ops Q HO HQ w8 H
      (refine wpT_free (by rw [HO.out]; rfl) rfl (.inl ⟨rfl, fun w _ => by go_simp; rfl⟩) (by exact ⟨⟨_, _, H.reb.sub (by (repeat (first | exact List.Sublist.refl _ | apply List.Sublist.cons_cons | apply List.Sublist.cons)))⟩, trivial⟩) ?_; (conv => arg 6; simp only [Act.put, List.setIfInBounds_toArray, List.set_cons_succ, List.set_cons_zero]))
      (refine wpT_free (by rw [HO.out]; rfl) rfl (.inl ⟨rfl, fun w _ => by go_simp; rfl⟩) (by exact ⟨⟨_, _, H.reb.sub (by (repeat (first | exact List.Sublist.refl _ | apply List.Sublist.cons_cons | apply List.Sublist.cons)))⟩, trivial⟩) ?_; (conv => arg 6; simp only [Act.put, List.setIfInBounds_toArray, List.set_cons_succ, List.set_cons_zero]))
      (refine wpT_free (v := .pointer (some ⟨bv, 0, none⟩)) (by rw [HO.out]; rfl) rfl (.inl ⟨rfl, fun w _ => by go_simp; (try omega)⟩) (by exact ⟨⟨_, _, H.reb.sub (by (repeat (first | exact List.Sublist.refl _ | apply List.Sublist.cons_cons | apply List.Sublist.cons)))⟩, trivial⟩) ?_; (conv => arg 6; simp only [Act.put, List.setIfInBounds_toArray, List.set_cons_succ, List.set_cons_zero]))
      (refine wpT_free (by rw [HO.out]; rfl) rfl (.inl ⟨rfl, fun w hw => run_ldK Try.underlying26 rfl rfl rfl (st_key (T := fun _ => True) (off := 0) hw HLK.out List.mem_cons_self HA.out rfl) (s26k HAK.out)⟩) (by exact ⟨⟨_, _, H.reb.sub (by (repeat (first | exact List.Sublist.refl _ | apply List.Sublist.cons_cons | apply List.Sublist.cons)))⟩, trivial⟩) ?_; (conv => arg 6; simp only [Act.put, List.setIfInBounds_toArray, List.set_cons_succ, List.set_cons_zero]))
      (refine wpT_free (by rw [HO.out]; rfl) rfl (.inl ⟨rfl, fun w _ => by go_simp; rfl⟩) (by exact ⟨⟨_, _, H.reb.sub (by (repeat (first | exact List.Sublist.refl _ | apply List.Sublist.cons_cons | apply List.Sublist.cons)))⟩, trivial⟩) ?_; (conv => arg 6; simp only [Act.put, List.setIfInBounds_toArray, List.set_cons_succ, List.set_cons_zero]))
      (refine wpT_free (v := .pointer (some ⟨bv, 32, none⟩)) (by rw [HO.out]; rfl) rfl (.inl ⟨rfl, fun w _ => by go_simp; (try omega)⟩) (by exact ⟨⟨_, _, H.reb.sub (by (repeat (first | exact List.Sublist.refl _ | apply List.Sublist.cons_cons | apply List.Sublist.cons)))⟩, trivial⟩) ?_; (conv => arg 6; simp only [Act.put, List.setIfInBounds_toArray, List.set_cons_succ, List.set_cons_zero]))
      (refine wpT_free (by rw [HO.out]; rfl) rfl (.inl ⟨rfl, fun w hw => run_ldK Try.underlying26 rfl rfl rfl (st_key (T := fun _ => True) (off := 32) hw HLK.out List.mem_cons_self HB.out rfl) (s26k HBK.out)⟩) (by exact ⟨⟨_, _, H.reb.sub (by (repeat (first | exact List.Sublist.refl _ | apply List.Sublist.cons_cons | apply List.Sublist.cons)))⟩, trivial⟩) ?_; (conv => arg 6; simp only [Act.put, List.setIfInBounds_toArray, List.set_cons_succ, List.set_cons_zero]))
      (refine wpT_free (by rw [HO.out]; rfl) rfl (.inl ⟨rfl, fun w _ => by go_simp; rfl⟩) (by exact ⟨⟨_, _, H.reb.sub (by (repeat (first | exact List.Sublist.refl _ | apply List.Sublist.cons_cons | apply List.Sublist.cons)))⟩, trivial⟩) ?_; (conv => arg 6; simp only [Act.put, List.setIfInBounds_toArray, List.set_cons_succ, List.set_cons_zero]))
      (refine wpT_free (v := .pointer (some ⟨bv, 64, none⟩)) (by rw [HO.out]; rfl) rfl (.inl ⟨rfl, fun w _ => by go_simp; (try omega)⟩) (by exact ⟨⟨_, _, H.reb.sub (by (repeat (first | exact List.Sublist.refl _ | apply List.Sublist.cons_cons | apply List.Sublist.cons)))⟩, trivial⟩) ?_; (conv => arg 6; simp only [Act.put, List.setIfInBounds_toArray, List.set_cons_succ, List.set_cons_zero]))
      (refine wpT_free (by rw [HO.out]; rfl) rfl (.inl ⟨rfl, fun w _ => run_slW Try.underlying26 s5 (by decide) rfl rfl w⟩) (by exact ⟨⟨_, _, H.reb.sub (by (repeat (first | exact List.Sublist.refl _ | apply List.Sublist.cons_cons | apply List.Sublist.cons)))⟩, trivial⟩) ?_; (conv => arg 6; simp only [Act.put, List.setIfInBounds_toArray, List.set_cons_succ, List.set_cons_zero]))
      (refine wpT_free (by rw [HO.out]; rfl) rfl (.inl ⟨rfl, fun w hw => run_cvOff Try.underlying37 Try.underlying5 Try.underlying9 rfl rfl (st_key (T := fun _ => True) (off := 64) hw HLK.out List.mem_cons_self HC.out rfl) HCK.out.1⟩) (by exact ⟨⟨_, _, H.reb.sub (by (repeat (first | exact List.Sublist.refl _ | apply List.Sublist.cons_cons | apply List.Sublist.cons)))⟩, trivial⟩) ?_; (conv => arg 6; simp only [Act.put, List.setIfInBounds_toArray, List.set_cons_succ, List.set_cons_zero]))
      refine wpT_op (by rw [HO.out]; rfl) ?_
      go_wp2_with (go_at_call 74; refine (OpenRT H hs.out.tw HAK.out HBK.out HOP.out).mono ?_; rintro e wn ⟨rfl, M⟩; replace H := H.call0 HR.out M; clear M)
      refine PlanTQ.mk (by exact ⟨⟨_, _, H.reb.sub (by (repeat (first | exact List.Sublist.refl _ | apply List.Sublist.cons_cons | apply List.Sublist.cons)))⟩, trivial⟩) ?_
      (refine wpT_free (by rw [HO.out]; rfl) rfl (.inl ⟨rfl, fun w _ => by go_simp; rfl⟩) (by exact ⟨⟨_, _, H.reb.sub (by (repeat (first | exact List.Sublist.refl _ | apply List.Sublist.cons_cons | apply List.Sublist.cons)))⟩, trivial⟩) ?_; (conv => arg 6; simp only [Act.put, List.setIfInBounds_toArray, List.set_cons_succ, List.set_cons_zero]))
      (refine wpT_free (by rw [HO.out]; rfl) rfl (.inl ⟨rfl, fun w _ => by go_simp; rfl⟩) (by exact ⟨⟨_, _, H.reb.sub (by (repeat (first | exact List.Sublist.refl _ | apply List.Sublist.cons_cons | apply List.Sublist.cons)))⟩, trivial⟩) ?_; (conv => arg 6; simp only [Act.put, List.setIfInBounds_toArray, List.set_cons_succ, List.set_cons_zero]))
      (refine wpT_free (by rw [HO.out]; rfl) rfl (.inl ⟨rfl, fun w _ => by go_simp; rfl⟩) (by exact ⟨⟨_, _, H.reb.sub (by (repeat (first | exact List.Sublist.refl _ | apply List.Sublist.cons_cons | apply List.Sublist.cons)))⟩, trivial⟩) ?_; (conv => arg 6; simp only [Act.put, List.setIfInBounds_toArray, List.set_cons_succ, List.set_cons_zero]))
      (refine wpT_free (by rw [HO.out]; rfl) rfl (.inl ⟨rfl, fun w _ => by go_simp; rfl⟩) (by exact ⟨⟨_, _, H.reb.sub (by (repeat (first | exact List.Sublist.refl _ | apply List.Sublist.cons_cons | apply List.Sublist.cons)))⟩, trivial⟩) ?_; (conv => arg 6; simp only [Act.put, List.setIfInBounds_toArray, List.set_cons_succ, List.set_cons_zero]))
      (refine wpT_free (by rw [HO.out]; rfl) rfl (.inl ⟨rfl, fun w _ => by go_simp; rfl⟩) (by exact ⟨⟨_, _, H.reb.sub (by (repeat (first | exact List.Sublist.refl _ | apply List.Sublist.cons_cons | apply List.Sublist.cons)))⟩, trivial⟩) ?_; (conv => arg 6; simp only [Act.put, List.setIfInBounds_toArray, List.set_cons_succ, List.set_cons_zero]))
      (refine wpT_free (by rw [HO.out]; rfl) rfl (.inl ⟨rfl, fun w _ => by go_simp; rfl⟩) (by exact ⟨⟨_, _, H.reb.sub (by (repeat (first | exact List.Sublist.refl _ | apply List.Sublist.cons_cons | apply List.Sublist.cons)))⟩, trivial⟩) ?_; (conv => arg 6; simp only [Act.put, List.setIfInBounds_toArray, List.set_cons_succ, List.set_cons_zero]))
      (refine wpT_free (by rw [HO.out]; rfl) rfl (.inl ⟨rfl, fun w _ => by go_simp; rfl⟩) (by exact ⟨⟨_, _, H.reb.sub (by (repeat (first | exact List.Sublist.refl _ | apply List.Sublist.cons_cons | apply List.Sublist.cons)))⟩, trivial⟩) ?_; (conv => arg 6; simp only [Act.put, List.setIfInBounds_toArray, List.set_cons_succ, List.set_cons_zero]))
      refine wpT_done ?_
      rw [HQ.out]
      go_wp2_with fail
      go_ret
      exact RCookR.no H
set_option maxRecDepth 100000 in
set_option maxHeartbeats 4000000 in
theorem step49_7b {K : Nat → Prop} {w : World} {m : Nat} {ts : List Tm} {seen made : List (List Int)} {SA SB : Option Addr} {sc sd : Nat} {n : Int} {text : ByteArray} {keys raw : List Int} {I : Option Addr} {ic : Nat} (h : RStepP K w m ts seen made SA SB sc sd (⟨7, n, text, keys, raw⟩ : Ck) I ic) {l : List (List Int)} (hc : namedL made keys = some l) (hl : leastT 7 ≤ (l.length : Int)) {x : ByteArray} {ks : List (List Int)} (ho : openM ts (l.getD 0 []) (l.getD 1 []) (strOfNums (l.getD 2 [])) = some (x, ks)) :
    Calls Try.prog 49 #[.pointer (some ⟨m, 0, none⟩), .slice SA seen.length sc, .slice SB made.length sd, .agg (ckCells (⟨7, n, text, keys, raw⟩ : Ck) I ic).toArray] w (RCookR K m w (ts, ks)) := by
  have H := TF.start h.res h.lt
  have HR := hid (refR_ok m ts)
  have hP := fun ts' => hid (refR_ok m ts')
  have hs := hid h
  have hml := hs.out.ml
  have htl := hs.out.tl
  have hsl := hs.out.sl
  have hn := hid (And.intro hc (decide_eq_true hl))
  clear h hc hl
  have htx : text.size ≤ 200 := hs.out.ck.tx
  obtain ⟨hl10, hlk⟩ := hs.out.named hn.out.1
  have hl1 : 3 ≤ l.length := by have := of_decide_eq_true hn.out.2; simp [leastT] at this; omega
  have hl0 : ¬ l = [] := fun e => by rw [e] at hl1; simp at hl1
  have HA := hid (at_getD (l := l) (i := 0) (by omega))
  have HB := hid (at_getD (l := l) (i := 1) (by omega))
  have HC := hid (at_getD (l := l) (i := 2) (by omega))
  obtain ⟨ka, ha⟩ : ∃ a, a = l.getD 0 [] := ⟨_, rfl⟩
  obtain ⟨kb, hb⟩ : ∃ a, a = l.getD 1 [] := ⟨_, rfl⟩
  obtain ⟨kc, hc⟩ : ∃ a, a = l.getD 2 [] := ⟨_, rfl⟩
  rw [← ha] at HA ho
  rw [← hb] at HB ho
  rw [← hc] at HC ho
  have HAK := hid (hlk _ (List.mem_of_getElem? HA.out))
  have HBK := hid (hlk _ (List.mem_of_getElem? HB.out))
  have HCK := hid (hlk _ (List.mem_of_getElem? HC.out))
  have HLK := hid hlk
  have hl1I : ¬ (l.length : Int) < 3 := by omega
  clear hlk ha hb hc
  have HOP := hid ho
  clear ho
  go_enter Try.func49, Try.ntmps49
  go_wp2_with (refine wpF_bxC (cs := ckCells (⟨7, n, text, keys, raw⟩ : Ck) I ic) 7 H HR.out rfl rfl rfl rfl (fun b7 w1 H1 => ?_); clear H; (conv => arg 5; simp only [Act.put, List.setIfInBounds_toArray, List.set_cons_succ, List.set_cons_zero]))
  go_loopw [9, 10] (fun o x wr => ∃ (i : Nat) (B : Option Addr) (d : Nat), i ≤ keys.length ∧ x = .int .i64 i ∧ o = .slice B i d ∧ TF K (refR m ts) w wr [.vec B i d 26 32 (nums .u8 ((keys.take i).map (getK made)).flatten), .blk b7 (cellsO 55 (ckCells (⟨7, n, text, keys, raw⟩ : Ck) I ic))] ∧ Hid ((keys.take i).all (inR made) = true)) (fun _ x _ => keys.length - (intOf x).toNat)
  case atStart => exact ⟨0, none, 0, by omega, rfl, rfl, H1.step HR.out (H1.reb.nil 26 32), hid rfl⟩
  case round =>
    obtain ⟨i, B, d, hi, rfl, rfl, Hi, HA⟩ := hrel
    clear H1
    have c3 := Hi.reb.cell (i := 3) (v := .slice I keys.length ic) (List.mem_cons_of_mem _ List.mem_cons_self) rfl
    by_cases hlt : i < keys.length
    · have hltI : (i : Int) < (keys.length : Int) := by omega
      obtain ⟨a, hae⟩ : ∃ a, keys[i]? = some a := ⟨keys[i], List.getElem?_eq_getElem hlt⟩
      obtain ⟨bi, oi, hIe, hcell⟩ := (show RowC w I (nums .i64 keys) from hs.out.ir).cell (i := i) (v := .int .i64 a) (by simp [nums, hae])
      have ci := ((Hi.rowC hs.out.ir hs.out.inn).cell (i := i) (v := .int .i64 a) (by simp [nums, hae]))
      subst hIe
      obtain ⟨_, _, he, ci⟩ := ci
      injection he with he
      injection he with he1 he2 _
      subst he1 he2
      have HAE := hid hae
      clear hae hcell
      cases hin : inR made a
      · exact absurd (named_in hn.out.1 (List.mem_of_getElem? HAE.out)) (by rw [hin]; simp)
      · obtain ⟨hg, hgk⟩ := getK_ok hs.out.mo hin
        have HIN := hid hin
        unfold inR at hin
        simp only [Bool.and_eq_true, decide_eq_true_eq] at hin
        obtain ⟨h0, h1⟩ := hin
        obtain ⟨b2, o2, hA2, hcc⟩ := keys_at hs.out.mo (Hi.row hs.out.mr hs.out.mn) hg
        subst hA2
        have HCC := hid hcc
        have HGK := hid hgk
        have hj2 : a.toNat < made.length := by omega
        obtain ⟨j, rfl⟩ : ∃ j : Nat, a = (j : Int) := ⟨a.toNat, by omega⟩
        rw [Int.toNat_natCast] at HCC hj2
        have hkl : keys.length ≤ 10 := hs.out.ck.kl
        clear hcc hg hgk
        go_wp2_with (first | (apply wpList_want; (· rfl)) | (refine wpList_ldagg 41 rfl Try.underlying26 rfl rfl rfl rfl HCC.out (s26k HGK.out) ?_; (conv => arg 5; simp only [Act.put, List.setIfInBounds_toArray, List.set_cons_succ, List.set_cons_zero])) | (refine wpF_bsK1 42 Hi HR.out rfl rfl rfl rfl HGK.out (fun b42 w3 H3 => ?_); clear Hi; (conv => arg 5; simp only [Act.put, List.setIfInBounds_toArray, List.set_cons_succ, List.set_cons_zero])) | (refine wpF_appK (qs := [getK made (j : Int)]) 43 H3 HR.out rfl rfl rfl rfl rfl (fun A' cap' => Swap.tail Swap.head) (H3.reb.blkT List.mem_cons_self) (one_ok HGK.out) (by simp only [List.length_singleton]; omega) (fun A2 c2 w4 H4 => ?_); clear H3; (conv => arg 5; simp only [Act.put, List.setIfInBounds_toArray, List.set_cons_succ, List.set_cons_zero])))
        go_round
        case rel =>
          refine ⟨i + 1, A2, c2, by omega, by go_num, rfl, ?_, ?_⟩
          · have h2 : (keys.take (i + 1)).map (getK made) = (keys.take i).map (getK made) ++ [getK made (j : Int)] := by
              obtain ⟨hl, he⟩ := List.getElem?_eq_some_iff.1 HAE.out
              rw [List.take_succ_eq_append_getElem hl, he]
              simp
            rw [h2]
            exact H4.sub (by (repeat (first | exact List.Sublist.refl _ | apply List.Sublist.cons_cons | apply List.Sublist.cons)))
          · refine hid ?_
            obtain ⟨hl, he⟩ := List.getElem?_eq_some_iff.1 HAE.out
            rw [List.take_succ_eq_append_getElem hl, List.all_append, HA.out, he]
            simp [HIN.out]
        case measure => simp [intOf]; omega
    · obtain rfl : i = keys.length := by omega
      have hkl := named_len hn.out.1
      have hsl2 : Value.slice B keys.length d = Value.slice B l.length d := by rw [hkl]
      rw [named_take hn.out.1, hkl] at Hi
      rw [hsl2]
      clear hsl2 HA hi hlt
      have c0 := Hi.reb.cell (i := 0) (v := .int .i64 7) (List.mem_cons_of_mem _ List.mem_cons_self) rfl
      obtain ⟨bv, rfl⟩ := Hi.reb.vecB List.mem_cons_self (by omega)
      go_upto_region 30 with (first | fail)
      refine wp_region_planTF (fun _ => True) (.free 0 (.free 1 (.free 2 (.free 3 (.free 4 (.free 5 (.free 6 (.free 7 (.free 8 (.free 9 (.free 10 (.one 11 (.free 12 (.free 13 (.free 14 (.free 15 (.free 16 (.free 17 (.free 18 (.done)))))))))))))))))))) (by kernel_rfl) (by kernel_rfl) (fun _ _ _ _ _ h => h) Hi HR.out ?_
      clear Hi c0
      intro ops Q HO HQ w8 H
      (refine wpT_free (by rw [HO.out]; rfl) rfl (.inl ⟨rfl, fun w _ => by go_simp; rfl⟩) (by exact ⟨⟨_, _, H.reb.sub (by (repeat (first | exact List.Sublist.refl _ | apply List.Sublist.cons_cons | apply List.Sublist.cons)))⟩, trivial⟩) ?_; (conv => arg 6; simp only [Act.put, List.setIfInBounds_toArray, List.set_cons_succ, List.set_cons_zero]))
      (refine wpT_free (by rw [HO.out]; rfl) rfl (.inl ⟨rfl, fun w _ => by go_simp; rfl⟩) (by exact ⟨⟨_, _, H.reb.sub (by (repeat (first | exact List.Sublist.refl _ | apply List.Sublist.cons_cons | apply List.Sublist.cons)))⟩, trivial⟩) ?_; (conv => arg 6; simp only [Act.put, List.setIfInBounds_toArray, List.set_cons_succ, List.set_cons_zero]))
      (refine wpT_free (v := .pointer (some ⟨bv, 0, none⟩)) (by rw [HO.out]; rfl) rfl (.inl ⟨rfl, fun w _ => by go_simp; (try omega)⟩) (by exact ⟨⟨_, _, H.reb.sub (by (repeat (first | exact List.Sublist.refl _ | apply List.Sublist.cons_cons | apply List.Sublist.cons)))⟩, trivial⟩) ?_; (conv => arg 6; simp only [Act.put, List.setIfInBounds_toArray, List.set_cons_succ, List.set_cons_zero]))
      (refine wpT_free (by rw [HO.out]; rfl) rfl (.inl ⟨rfl, fun w hw => run_ldK Try.underlying26 rfl rfl rfl (st_key (T := fun _ => True) (off := 0) hw HLK.out List.mem_cons_self HA.out rfl) (s26k HAK.out)⟩) (by exact ⟨⟨_, _, H.reb.sub (by (repeat (first | exact List.Sublist.refl _ | apply List.Sublist.cons_cons | apply List.Sublist.cons)))⟩, trivial⟩) ?_; (conv => arg 6; simp only [Act.put, List.setIfInBounds_toArray, List.set_cons_succ, List.set_cons_zero]))
      (refine wpT_free (by rw [HO.out]; rfl) rfl (.inl ⟨rfl, fun w _ => by go_simp; rfl⟩) (by exact ⟨⟨_, _, H.reb.sub (by (repeat (first | exact List.Sublist.refl _ | apply List.Sublist.cons_cons | apply List.Sublist.cons)))⟩, trivial⟩) ?_; (conv => arg 6; simp only [Act.put, List.setIfInBounds_toArray, List.set_cons_succ, List.set_cons_zero]))
      (refine wpT_free (v := .pointer (some ⟨bv, 32, none⟩)) (by rw [HO.out]; rfl) rfl (.inl ⟨rfl, fun w _ => by go_simp; (try omega)⟩) (by exact ⟨⟨_, _, H.reb.sub (by (repeat (first | exact List.Sublist.refl _ | apply List.Sublist.cons_cons | apply List.Sublist.cons)))⟩, trivial⟩) ?_; (conv => arg 6; simp only [Act.put, List.setIfInBounds_toArray, List.set_cons_succ, List.set_cons_zero]))
      (refine wpT_free (by rw [HO.out]; rfl) rfl (.inl ⟨rfl, fun w hw => run_ldK Try.underlying26 rfl rfl rfl (st_key (T := fun _ => True) (off := 32) hw HLK.out List.mem_cons_self HB.out rfl) (s26k HBK.out)⟩) (by exact ⟨⟨_, _, H.reb.sub (by (repeat (first | exact List.Sublist.refl _ | apply List.Sublist.cons_cons | apply List.Sublist.cons)))⟩, trivial⟩) ?_; (conv => arg 6; simp only [Act.put, List.setIfInBounds_toArray, List.set_cons_succ, List.set_cons_zero]))
      (refine wpT_free (by rw [HO.out]; rfl) rfl (.inl ⟨rfl, fun w _ => by go_simp; rfl⟩) (by exact ⟨⟨_, _, H.reb.sub (by (repeat (first | exact List.Sublist.refl _ | apply List.Sublist.cons_cons | apply List.Sublist.cons)))⟩, trivial⟩) ?_; (conv => arg 6; simp only [Act.put, List.setIfInBounds_toArray, List.set_cons_succ, List.set_cons_zero]))
      (refine wpT_free (v := .pointer (some ⟨bv, 64, none⟩)) (by rw [HO.out]; rfl) rfl (.inl ⟨rfl, fun w _ => by go_simp; (try omega)⟩) (by exact ⟨⟨_, _, H.reb.sub (by (repeat (first | exact List.Sublist.refl _ | apply List.Sublist.cons_cons | apply List.Sublist.cons)))⟩, trivial⟩) ?_; (conv => arg 6; simp only [Act.put, List.setIfInBounds_toArray, List.set_cons_succ, List.set_cons_zero]))
      (refine wpT_free (by rw [HO.out]; rfl) rfl (.inl ⟨rfl, fun w _ => run_slW Try.underlying26 s5 (by decide) rfl rfl w⟩) (by exact ⟨⟨_, _, H.reb.sub (by (repeat (first | exact List.Sublist.refl _ | apply List.Sublist.cons_cons | apply List.Sublist.cons)))⟩, trivial⟩) ?_; (conv => arg 6; simp only [Act.put, List.setIfInBounds_toArray, List.set_cons_succ, List.set_cons_zero]))
      (refine wpT_free (by rw [HO.out]; rfl) rfl (.inl ⟨rfl, fun w hw => run_cvOff Try.underlying37 Try.underlying5 Try.underlying9 rfl rfl (st_key (T := fun _ => True) (off := 64) hw HLK.out List.mem_cons_self HC.out rfl) HCK.out.1⟩) (by exact ⟨⟨_, _, H.reb.sub (by (repeat (first | exact List.Sublist.refl _ | apply List.Sublist.cons_cons | apply List.Sublist.cons)))⟩, trivial⟩) ?_; (conv => arg 6; simp only [Act.put, List.setIfInBounds_toArray, List.set_cons_succ, List.set_cons_zero]))
      refine wpT_op (by rw [HO.out]; rfl) ?_
      go_wp2_with (go_at_call 74; refine (OpenRT H hs.out.tw HAK.out HBK.out HOP.out).mono ?_; rintro e wn ⟨A74, c74, rfl, hrow, M⟩; replace H := H.call0 HR.out M; clear M; have HROW := hid hrow; clear hrow)
      refine PlanTQ.mk (by exact ⟨⟨_, _, H.reb.sub (by (repeat (first | exact List.Sublist.refl _ | apply List.Sublist.cons_cons | apply List.Sublist.cons)))⟩, trivial⟩) ?_
      (refine wpT_free (by rw [HO.out]; rfl) rfl (.inl ⟨rfl, fun w _ => by go_simp; rfl⟩) (by exact ⟨⟨_, _, H.reb.sub (by (repeat (first | exact List.Sublist.refl _ | apply List.Sublist.cons_cons | apply List.Sublist.cons)))⟩, trivial⟩) ?_; (conv => arg 6; simp only [Act.put, List.setIfInBounds_toArray, List.set_cons_succ, List.set_cons_zero]))
      (refine wpT_free (by rw [HO.out]; rfl) rfl (.inl ⟨rfl, fun w _ => by go_simp; rfl⟩) (by exact ⟨⟨_, _, H.reb.sub (by (repeat (first | exact List.Sublist.refl _ | apply List.Sublist.cons_cons | apply List.Sublist.cons)))⟩, trivial⟩) ?_; (conv => arg 6; simp only [Act.put, List.setIfInBounds_toArray, List.set_cons_succ, List.set_cons_zero]))
      (refine wpT_free (by rw [HO.out]; rfl) rfl (.inl ⟨rfl, fun w _ => by go_simp; rfl⟩) (by exact ⟨⟨_, _, H.reb.sub (by (repeat (first | exact List.Sublist.refl _ | apply List.Sublist.cons_cons | apply List.Sublist.cons)))⟩, trivial⟩) ?_; (conv => arg 6; simp only [Act.put, List.setIfInBounds_toArray, List.set_cons_succ, List.set_cons_zero]))
      (refine wpT_free (by rw [HO.out]; rfl) rfl (.inl ⟨rfl, fun w _ => by go_simp; rfl⟩) (by exact ⟨⟨_, _, H.reb.sub (by (repeat (first | exact List.Sublist.refl _ | apply List.Sublist.cons_cons | apply List.Sublist.cons)))⟩, trivial⟩) ?_; (conv => arg 6; simp only [Act.put, List.setIfInBounds_toArray, List.set_cons_succ, List.set_cons_zero]))
      (refine wpT_free (by rw [HO.out]; rfl) rfl (.inl ⟨rfl, fun w _ => by go_simp; rfl⟩) (by exact ⟨⟨_, _, H.reb.sub (by (repeat (first | exact List.Sublist.refl _ | apply List.Sublist.cons_cons | apply List.Sublist.cons)))⟩, trivial⟩) ?_; (conv => arg 6; simp only [Act.put, List.setIfInBounds_toArray, List.set_cons_succ, List.set_cons_zero]))
      (refine wpT_free (by rw [HO.out]; rfl) rfl (.inl ⟨rfl, fun w _ => by go_simp; rfl⟩) (by exact ⟨⟨_, _, H.reb.sub (by (repeat (first | exact List.Sublist.refl _ | apply List.Sublist.cons_cons | apply List.Sublist.cons)))⟩, trivial⟩) ?_; (conv => arg 6; simp only [Act.put, List.setIfInBounds_toArray, List.set_cons_succ, List.set_cons_zero]))
      (refine wpT_free (by rw [HO.out]; rfl) rfl (.inl ⟨rfl, fun w _ => by go_simp; rfl⟩) (by exact ⟨⟨_, _, H.reb.sub (by (repeat (first | exact List.Sublist.refl _ | apply List.Sublist.cons_cons | apply List.Sublist.cons)))⟩, trivial⟩) ?_; (conv => arg 6; simp only [Act.put, List.setIfInBounds_toArray, List.set_cons_succ, List.set_cons_zero]))
      refine wpT_done ?_
      rw [HQ.out]
      go_wp2_with fail
      go_ret
      exact ⟨A74, c74, rfl, HROW.out, H.sub (List.nil_sublist _)⟩
end Go.Proofs.Ytcapfnbmmdbcoaa
namespace Go.Proofs.Ytcapfnbmmdbcoaa
open Go.RowKit
theorem step49 {K : Nat → Prop} {w : World} {m : Nat} {ts : List Tm} {seen made : List (List Int)} {SA SB : Option Addr} {sc sd : Nat} {c : Ck} {I : Option Addr} {ic : Nat} (h : RStepP K w m ts seen made SA SB sc sd c I ic) :
    Calls Try.prog 49 #[.pointer (some ⟨m, 0, none⟩), .slice SA seen.length sc, .slice SB made.length sd, .agg (ckCells c I ic).toArray] w (RCookR K m w (cookT ts seen made c)) := by
  unfold cookT
  cases hc : namedL made c.keys with
  | none => exact step49_n h hc
  | some l =>
    by_cases hl : leastT c.kind ≤ (l.length : Int)
    · simp only [if_pos hl]
      obtain ⟨kind, n, text, keys, raw⟩ := c
      unfold cookKind
      simp only [] at hc hl ⊢
      by_cases h1 : kind = 1
      · subst h1
        rw [if_pos rfl]
        by_cases hin : inR seen n = true
        · rw [if_pos hin]; exact step49_1c h hc hl hin
        · rw [if_neg hin]
          by_cases h0 : n < 0
          · exact step49_1a h hc hl h0
          · refine step49_1b h hc hl (by omega) ?_
            simp only [inR, Bool.and_eq_true, decide_eq_true_eq] at hin
            omega
      rw [if_neg h1]
      by_cases h2 : kind = 2
      · subst h2; rw [if_pos rfl]; exact step49_2 h hc hl
      rw [if_neg h2]
      by_cases h3 : kind = 3
      · subst h3; rw [if_pos rfl]; exact step49_3 h hc hl
      rw [if_neg h3]
      by_cases h4 : kind = 4
      · subst h4; rw [if_pos rfl]; exact step49_4 h hc hl
      rw [if_neg h4]
      by_cases h5 : kind = 5
      · subst h5
        rw [if_pos rfl]
        by_cases hz : l.getD 1 [] = zK
        · rw [if_pos hz]; exact step49_5a h hc hl hz
        · rw [if_neg hz]; exact step49_5b h hc hl hz
      rw [if_neg h5]
      by_cases h6 : kind = 6
      · subst h6; rw [if_pos rfl]; exact step49_6 h hc hl
      rw [if_neg h6]
      by_cases h7 : kind = 7
      · subst h7
        rw [if_pos rfl]
        cases ho : openM ts (l.getD 0 []) (l.getD 1 []) (strOfNums (l.getD 2 [])) with
        | none => exact step49_7a h hc hl ho
        | some r => obtain ⟨x, ks⟩ := r; exact step49_7b h hc hl ho
      rw [if_neg h7]
      by_cases h8 : kind = 8
      · subst h8
        rw [if_pos rfl]
        by_cases hsh : nameL (numK raw) = raw
        · rw [if_pos hsh]; exact step49_8a h hc hl hsh
        · rw [if_neg hsh]; exact step49_8b h hc hl hsh
      rw [if_neg h8]
      exact step49_x h hc h1 h2 h3 h4 h5 h6 h7 h8
    · simp only [if_neg hl]
      obtain ⟨kind, n, text, keys, raw⟩ := c
      simp only [] at hc hl
      unfold leastT at hl
      by_cases h4 : kind = 4
      · subst h4; exact step49_f4 h hc (by simpa using hl)
      by_cases h5 : kind = 5
      · subst h5; exact step49_f5 h hc (by simpa using hl)
      by_cases h6 : kind = 6
      · subst h6; exact step49_f6 h hc (by simpa using hl)
      by_cases h7 : kind = 7
      · subst h7; exact step49_f7 h hc (by simpa using hl)
      rw [if_neg h4, if_neg h5, if_neg h6, if_neg h7] at hl
      omega
end Go.Proofs.Ytcapfnbmmdbcoaa
