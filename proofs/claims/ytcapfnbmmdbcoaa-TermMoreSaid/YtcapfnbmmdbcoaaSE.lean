/- The reference's step: what stands, what it leaves; where keys lack. -/
import Derived.Test.YtcapfnbmmdbcoaaSC
set_option linter.unusedVariables false
set_option linter.unusedSimpArgs false
namespace Go.Proofs.Ytcapfnbmmdbcoaa
open Go.RowKit
theorem TF.runW {K0 : Nat → Prop} {P P' : Res} {w0 w : World} {L : List Item} {Pr : Program} {f : FuncId} {args : Array Value} {R : Ending → World → List Item → Prop} (h : TF K0 P w0 w L) (hc : ∀ K : Nat → Prop, P K w → (∀ b, K b → b < w.heap.size) → Calls Pr f args w fun e w' => ∃ L2, R e w' L2 ∧ TF K P' w w' L2) : Calls Pr f args w fun e w' => ∃ L2, R e w' L2 ∧ TF K0 P' w0 w' (L2 ++ L) := by
  obtain ⟨K, a1, a2, a3⟩ := h.ex
  exact (hc K a1 (fun b hb => (a2 b hb).2)).mono fun e w' ⟨L2, he, F⟩ => ⟨L2, he, h.turn a3 a2 F⟩
theorem TF.runWR {K0 : Nat → Prop} {P P' Q : Res} {w0 w : World} {L : List Item} {Pr : Program} {f : FuncId} {args : Array Value} {R : Ending → World → List Item → Prop} (h : TF K0 (starR Q P) w0 w L) (hQ : Ok Q) (hc : ∀ K : Nat → Prop, P K w → (∀ b, K b → b < w.heap.size) → Calls Pr f args w fun e w' => ∃ L2, R e w' L2 ∧ TF K P' w w' L2) : Calls Pr f args w fun e w' => ∃ L2, R e w' L2 ∧ TF K0 (starR Q P') w0 w' (L2 ++ L) := by
  refine (h.comm.runW (P' := starR P' Q) (R := R) fun K ⟨K1, K2, b1, b2, b3, b4, b5⟩ hlt => ?_).mono fun e w' ⟨L2, he, F⟩ => ⟨L2, he, F.comm⟩
  exact (hc K1 b1 (fun b hb => hlt b (b3 b hb))).mono fun e w' ⟨L2, he, F⟩ => ⟨L2, he, TF.star (K0 := K2) b2 F hQ b2 b3 b4 b5 hlt⟩
/-- What stands when a step of the reference begins. -/
structure RStepP (K : Nat → Prop) (w : World) (m : Nat) (ts : List Tm) (seen made : List (List Int)) (SA SB : Option Addr) (sc sd : Nat) (c : Ck) (I : Option Addr) (ic : Nat) : Prop where
  res : refR m ts K w
  lt : ∀ b, K b → b < w.heap.size
  tw : ∀ t ∈ ts, TmW t
  tl : ts.length ≤ 800000
  sl : seen.length ≤ 100000
  ml : made.length ≤ 100000
  sk : ∀ k ∈ seen, KeyOk k
  mo : ∀ k ∈ made, KeyOk k
  sr : RowT w 26 SA (nums .u8 seen.flatten)
  sn : ∀ ad, SA = some ad → ¬ K ad.block
  mr : RowT w 26 SB (nums .u8 made.flatten)
  mn : ∀ ad, SB = some ad → ¬ K ad.block
  ck : CkOk c
  ir : RowC w I (nums .i64 c.keys)
  inn : nums .i64 c.keys ≠ [] → ∀ ad, I = some ad → ¬ K ad.block
/-- What a step of the reference leaves. -/
def RCookR (K : Nat → Prop) (m : Nat) (w : World) (r : List Tm × List (List Int)) (e : Ending) (w' : World) : Prop :=
  ∃ B d, e = .returned (.slice B r.2.length d) ∧ RowT w' 26 B (nums .u8 r.2.flatten) ∧ TF K (refR m r.1) w w' []
theorem RCookR.no {K : Nat → Prop} {m : Nat} {w w' : World} {ts : List Tm} {L : List Item} (H : TF K (refR m ts) w w' L) : RCookR K m w (ts, []) (.returned (.slice none 0 0)) w' :=
  ⟨none, 0, rfl, RowT.nil, H.sub (List.nil_sublist _)⟩
theorem RCookR.one {K : Nat → Prop} {m b : Nat} {w w' : World} {ts : List Tm} {k : List Int} {L : List Item} (H : TF K (refR m ts) w w' L) (hb : Item.blk b (rowO .u8 26 [k].flatten) ∈ L) {r : List Tm × List (List Int)} (hr : r = (ts, [k])) : RCookR K m w r (.returned (.slice (some ⟨b, 0, none⟩) 1 1)) w' := by
  subst hr
  exact ⟨some ⟨b, 0, none⟩, 1, rfl, H.reb.blkT hb, H.sub (List.nil_sublist _)⟩
theorem named_in {made : List (List Int)} {is : List Int} {l : List (List Int)} (h : namedL made is = some l) {a : Int} (ha : a ∈ is) : inR made a = true := by
  unfold namedL at h
  split at h
  · rename_i hh
    exact List.all_eq_true.1 hh a ha
  · cases h
theorem named_map {made : List (List Int)} {is : List Int} {l : List (List Int)} (h : namedL made is = some l) : is.map (getK made) = l := by
  unfold namedL at h
  split at h
  · injection h
  · cases h
theorem named_take {made : List (List Int)} {is : List Int} {l : List (List Int)} (h : namedL made is = some l) : (is.take is.length).map (getK made) = l := by
  rw [List.take_of_length_le (Nat.le_refl _), named_map h]
theorem named_len {made : List (List Int)} {is : List Int} {l : List (List Int)} (h : namedL made is = some l) : is.length = l.length := by
  rw [← named_map h, List.length_map]
theorem RStepP.named {K : Nat → Prop} {w : World} {m : Nat} {ts : List Tm} {seen made : List (List Int)} {SA SB : Option Addr} {sc sd : Nat} {c : Ck} {I : Option Addr} {ic : Nat} (h : RStepP K w m ts seen made SA SB sc sd c I ic) {l : List (List Int)} (hc : namedL made c.keys = some l) : l.length ≤ 10 ∧ ∀ k ∈ l, KeyOk k := by
  refine ⟨by rw [← named_len hc]; exact h.ck.kl, fun k hk => ?_⟩
  rw [← named_map hc] at hk
  obtain ⟨i, hi, rfl⟩ := List.mem_map.1 hk
  exact (getK_ok h.mo (named_in hc hi)).2
theorem MakeR {K0 : Nat → Prop} {w0 w : World} {L : List Item} {m : Nat} {ts : List Tm} (H : TF K0 (refR m ts) w0 w L) {t : Tm} {B : Option Addr} {n d : Nat} (hn : n = t.keys.length) (ht : TmOk t) (hr : RowT w 26 B (nums .u8 t.keys.flatten)) (hf : ts.length ≤ 900000) :
    Calls Try.prog 45 #[.pointer (some ⟨m, 0, none⟩), .int .i64 t.kind, .string t.text, .slice B n d] w fun e w' => IsKey (nm ts t) e ∧ TF K0 (refR m (putL ts t)) w0 w' L := by
  subst hn
  exact (H.run (R := fun e L2 => IsKey (nm ts t) e ∧ L2 = []) fun K1 h1 hlt => (MakeK h1 hlt ht hr hf).mono fun e w' ⟨he, F⟩ => ⟨[], ⟨he, rfl⟩, TF.of F hlt⟩).mono fun e w' ⟨L2, ⟨he, hL⟩, F⟩ => ⟨he, by rw [hL] at F; exact F⟩
end Go.Proofs.Ytcapfnbmmdbcoaa
namespace Go.Proofs.Ytcapfnbmmdbcoaa
open Go.RowKit
/-- A key that isn't the name of a term to come, with n terms there. -/
def Kn (n : Nat) (k : List Int) : Prop := nameL (numK k) = k → numK k < (n : Int)
theorem Kn.mono {n n' : Nat} {k : List Int} (h : Kn n k) (hn : n ≤ n') : Kn n' k := fun e => by have := h e; omega
theorem num_pre {n n' : Nat} {k : List Int} (h : Kn n k) (hn : n ≤ n') : numT n' k = numT n k := by
  unfold numT
  by_cases e : nameL (numK k) = k
  · have := h e
    rw [if_pos ⟨by omega, e⟩, if_pos ⟨this, e⟩]
  · rw [if_neg (fun h => e h.2), if_neg (fun h => e h.2)]
theorem num_lt {n : Nat} {k : List Int} (h : 0 ≤ numT n k) : (numT n k).toNat < n := by
  unfold numT at h ⊢
  split at h
  · rename_i hh
    rw [if_pos hh]
    omega
  · omega
theorem look_pre {ts ts' : List Tm} {k : List Int} (hp : ts <+: ts') (h : Kn ts.length k) : lookT ts' k = lookT ts k := by
  unfold lookT
  rw [num_pre h hp.length_le]
  by_cases h0 : 0 ≤ numT ts.length k
  · rw [if_pos h0, if_pos h0]
    obtain ⟨r, rfl⟩ := hp
    rw [List.getElem?_append_left (num_lt h0)]
  · rw [if_neg h0, if_neg h0]
theorem putL_pre (ts : List Tm) (t : Tm) : ts <+: putL ts t := by
  unfold putL
  split
  · exact List.prefix_refl _
  · exact List.prefix_append _ _
theorem putL_mem (ts : List Tm) (t : Tm) : t ∈ putL ts t := by
  unfold putL
  split
  · assumption
  · simp
theorem putL_len (ts : List Tm) (t : Tm) : (putL ts t).length ≤ ts.length + 1 := by
  unfold putL
  split <;> simp
theorem putL_in {ts : List Tm} {t u : Tm} (h : u ∈ putL ts t) : u ∈ ts ∨ u = t := by
  unfold putL at h
  split at h
  · exact .inl h
  · simpa using h
theorem nm_pre {ts ts' : List Tm} {t : Tm} (hp : putL ts t <+: ts') : nm ts' t = nm ts t ∧ putL ts' t = ts' := by
  have hm : t ∈ ts' := hp.subset (putL_mem ts t)
  refine ⟨?_, by rw [putL, if_pos hm]⟩
  obtain ⟨r, rfl⟩ := hp
  have e : (putL ts t ++ r).idxOf t = ts.idxOf t := by
    by_cases h : t ∈ ts
    · rw [putL, if_pos h, List.idxOf_append, if_pos h]
    · rw [putL, if_neg h, List.idxOf_append, if_pos (by simp), List.idxOf_append, if_neg h, List.idxOf_eq_length h]
      simp
  unfold nm
  rw [e]
theorem nm_Kn {ts : List Tm} {t : Tm} (hl : ts.length ≤ 900000) : Kn (putL ts t).length (nm ts t) := fun _ => by
  have h1 : (putL ts t).idxOf t < (putL ts t).length := List.idxOf_lt_length_of_mem (putL_mem ts t)
  have h2 : (putL ts t).idxOf t = ts.idxOf t := by
    by_cases h : t ∈ ts
    · rw [putL, if_pos h]
    · rw [putL, if_neg h, List.idxOf_append, if_neg h, List.idxOf_eq_length h]
      simp
  have h3 := putL_len ts t
  rw [nm_kn, numK_kn (by omega)]
  omega
/-! ### What an agreement and an opened box have -/
theorem agree_keys {ts : List Tm} (hw : ∀ t ∈ ts, TmW t) (s p : List Int) : ∀ k ∈ (agreeT ts s p).keys, k = s ∨ k = p ∨ ∃ t ∈ ts, k ∈ t.keys := by
  rw [agreeT_look]
  split
  · rename_i h3
    have hx : ∃ t ∈ ts, lookT ts p = t := by
      unfold lookT at h3 ⊢
      by_cases h0 : 0 ≤ numT ts.length p
      · rw [if_pos h0] at h3 ⊢
        have := num_lt h0
        rw [List.getElem?_eq_getElem this]
        exact ⟨_, List.getElem_mem this, rfl⟩
      · rw [if_neg h0] at h3
        simp at h3
    obtain ⟨t, ht, he⟩ := hx
    rw [he] at h3 ⊢
    have hk : t.keys.getD 0 [] ∈ t.keys := by
      have := (hw t ht).k3 h3
      rw [List.getD_eq_getElem?_getD, List.getElem?_eq_getElem (by omega)]
      exact List.getElem_mem _
    unfold pairT
    intro k hin
    split at hin
    · simp only [List.mem_cons, List.not_mem_nil, or_false] at hin
      rcases hin with rfl | rfl
      · exact .inr (.inr ⟨t, ht, hk⟩)
      · exact .inl rfl
    · simp only [List.mem_cons, List.not_mem_nil, or_false] at hin
      rcases hin with rfl | rfl
      · exact .inl rfl
      · exact .inr (.inr ⟨t, ht, hk⟩)
  · intro k hin
    simp only [oddT, List.mem_cons, List.not_mem_nil, or_false] at hin
    exact hin.imp id .inl
theorem agree_two (ts : List Tm) (s p : List Int) : (agreeT ts s p).keys.length = 2 ∧ ((agreeT ts s p).kind = 4 ∨ (agreeT ts s p).kind = 5) := by
  rw [agreeT_look]
  split
  · unfold pairT
    split
    · exact ⟨rfl, .inl rfl⟩
    · exact ⟨rfl, .inl rfl⟩
  · exact ⟨rfl, .inr rfl⟩
theorem open_term {ts : List Tm} {k b : List Int} {s x : ByteArray} {ks : List (List Int)} (h : openM ts k b s = some (x, ks)) : ∃ t ∈ ts, t.kind = 6 ∧ t.keys.getD 0 [] = k ∧ t.keys.getD 1 [] = b ∧ ks = t.keys.drop 2 := by
  unfold openM at h
  split at h
  · split at h
    · rename_i t ht
      split at h
      · rename_i hh
        simp only [Option.some.injEq, Prod.mk.injEq] at h
        exact ⟨t, List.mem_of_getElem? ht, hh.1, hh.2.1, hh.2.2, h.2.symm⟩
      · cases h
    · cases h
  · cases h
/-! ### One step -/
def cookS (seen : List (List Int)) (s : List Tm × List (List Int)) (c : Ck) : List Tm × List (List Int) := ((cookT s.1 seen s.2 c).1, s.2 ++ (cookT s.1 seen s.2 c).2)
def cooks (seen : List (List Int)) (s : List Tm × List (List Int)) (cs : List Ck) : List Tm × List (List Int) := cs.foldl (cookS seen) s
theorem cooks_succ {seen : List (List Int)} {s : List Tm × List (List Int)} {cs : List Ck} {i : Nat} {c : Ck} (h : cs[i]? = some c) : cooks seen s (cs.take (i + 1)) = cookS seen (cooks seen s (cs.take i)) c := by
  obtain ⟨hl, he⟩ := List.getElem?_eq_some_iff.1 h
  rw [List.take_succ_eq_append_getElem hl, he, cooks, List.foldl_append]
  rfl
theorem getD_mem {l : List (List Int)} {i : Nat} (h : i < l.length) : l.getD i [] ∈ l := by
  rw [List.getD_eq_getElem?_getD, List.getElem?_eq_getElem h]
  exact List.getElem_mem _
theorem named_mem {made : List (List Int)} {is : List Int} {l : List (List Int)} (hc : namedL made is = some l) : ∀ k ∈ l, k ∈ made := fun k hk => by
  rw [← named_map hc] at hk
  obtain ⟨i, hi, rfl⟩ := List.mem_map.1 hk
  have h := named_in hc hi
  unfold inR at h
  simp only [Bool.and_eq_true, decide_eq_true_eq] at h
  exact getD_mem (by omega)
theorem cook_pre (ts : List Tm) (seen made : List (List Int)) (c : Ck) : ts <+: (cookT ts seen made c).1 := by
  unfold cookT
  split
  · exact List.prefix_refl _
  · split
    · unfold cookKind
      repeat' split
      all_goals first | exact List.prefix_refl _ | exact putL_pre _ _
    · exact List.prefix_refl _
theorem least_len {kind : Int} {l : List (List Int)} (h : leastT kind ≤ (l.length : Int)) : (kind = 4 → 1 ≤ l.length) ∧ (kind = 5 → 2 ≤ l.length) ∧ (kind = 6 → 2 ≤ l.length) ∧ (kind = 7 → 3 ≤ l.length) := by
  unfold leastT at h
  refine ⟨fun e => ?_, fun e => ?_, fun e => ?_, fun e => ?_⟩ <;> (subst e; simp at h; omega)
theorem put_again {ts ts' : List Tm} {t : Tm} (hp : (putN ts t).1 <+: ts') : putN ts' t = (ts', (putN ts t).2) := by
  obtain ⟨h1, h2⟩ := nm_pre hp
  unfold putN
  rw [h1, h2]
theorem kind_again {ts ts' : List Tm} {seen l : List (List Int)} {c : Ck} (hp0 : ts <+: ts') (hl : leastT c.kind ≤ (l.length : Int)) (hk : ∀ k ∈ l, Kn ts.length k) (hko : ∀ k ∈ l, KeyOk k) (hp : (cookKind ts seen c l).1 <+: ts') : cookKind ts' seen c l = (ts', (cookKind ts seen c l).2) := by
  obtain ⟨_, l5, _, l7⟩ := least_len hl
  unfold cookKind at hp ⊢
  by_cases h1 : c.kind = 1
  · rw [if_pos h1, if_pos h1]
  rw [if_neg h1] at hp ⊢
  rw [if_neg h1]
  by_cases h2 : c.kind = 2
  · rw [if_pos h2] at hp ⊢; rw [if_pos h2]; exact put_again hp
  rw [if_neg h2] at hp ⊢
  rw [if_neg h2]
  by_cases h3 : c.kind = 3
  · rw [if_pos h3] at hp ⊢; rw [if_pos h3]; exact put_again hp
  rw [if_neg h3] at hp ⊢
  rw [if_neg h3]
  by_cases h4 : c.kind = 4
  · rw [if_pos h4] at hp ⊢; rw [if_pos h4]; exact put_again hp
  rw [if_neg h4] at hp ⊢
  rw [if_neg h4]
  by_cases h5 : c.kind = 5
  · rw [if_pos h5] at hp ⊢
    rw [if_pos h5]
    by_cases hz : l.getD 1 [] = zK
    · rw [if_pos hz, if_pos hz]
    · rw [if_neg hz] at hp ⊢
      rw [if_neg hz]
      have e : agreeT ts' (l.getD 0 []) (l.getD 1 []) = agreeT ts (l.getD 0 []) (l.getD 1 []) := by
        rw [agreeT_look, agreeT_look, look_pre hp0 (hk _ (getD_mem (l5 h5)))]
      rw [e]
      exact put_again hp
  rw [if_neg h5] at hp ⊢
  rw [if_neg h5]
  by_cases h6 : c.kind = 6
  · rw [if_pos h6] at hp ⊢; rw [if_pos h6]; exact put_again hp
  rw [if_neg h6] at hp ⊢
  rw [if_neg h6]
  by_cases h7 : c.kind = 7
  · rw [if_pos h7] at hp ⊢
    rw [if_pos h7]
    have hm := getD_mem (l7 h7)
    have e : openM ts' (l.getD 0 []) (l.getD 1 []) (strOfNums (l.getD 2 [])) = openM ts (l.getD 0 []) (l.getD 1 []) (strOfNums (l.getD 2 [])) := by
      rw [openM_look, openM_look, (strKey (hko _ hm)).2, look_pre hp0 (hk _ hm)]
    rw [e]
  rw [if_neg h7] at hp ⊢
  rw [if_neg h7]
  by_cases h8 : c.kind = 8
  · rw [if_pos h8, if_pos h8]
  rw [if_neg h8, if_neg h8]
theorem cook_again {ts ts' : List Tm} {seen made : List (List Int)} {c : Ck} (hk : ∀ k ∈ made, Kn ts.length k) (hko : ∀ k ∈ made, KeyOk k) (hp : (cookT ts seen made c).1 <+: ts') : cookT ts' seen made c = (ts', (cookT ts seen made c).2) := by
  have hp0 := (cook_pre ts seen made c).trans hp
  unfold cookT at hp ⊢
  cases hc : namedL made c.keys with
  | none => rfl
  | some l =>
    simp only [hc] at hp ⊢
    by_cases hl : leastT c.kind ≤ (l.length : Int)
    · rw [if_pos hl] at hp ⊢
      rw [if_pos hl]
      exact kind_again hp0 hl (fun k h => hk k (named_mem hc k h)) (fun k h => hko k (named_mem hc k h)) hp
    · rw [if_neg hl, if_neg hl]
/-! ### What the steps keep -/
theorem cooks_pre (seen : List (List Int)) : ∀ (cs : List Ck) (s : List Tm × List (List Int)), s.1 <+: (cooks seen s cs).1
  | [], s => List.prefix_refl _
  | c :: cs, s => (cook_pre _ _ _ _).trans (cooks_pre seen cs (cookS seen s c))
theorem cooks_take {seen : List (List Int)} {s : List Tm × List (List Int)} (cs : List Ck) (i : Nat) : (cooks seen s (cs.take i)).1 <+: (cooks seen s cs).1 := by
  conv => rhs; rw [← List.take_append_drop i cs]
  rw [cooks, cooks, List.foldl_append]
  exact cooks_pre seen (cs.drop i) _
end Go.Proofs.Ytcapfnbmmdbcoaa
namespace Go.Proofs.Ytcapfnbmmdbcoaa
open Go.RowKit
end Go.Proofs.Ytcapfnbmmdbcoaa
namespace Go.Proofs.Ytcapfnbmmdbcoaa
open Go.RowKit
theorem take_one {l : List (List Int)} {k : List Int} (h : l[0]? = some k) : l.take 1 = [k] := by
  cases l with
  | nil => cases h
  | cons a t => injection h with h; rw [h]; rfl
theorem take_row {w : World} {A : Option Addr} {k : Nat} {l : List (List Int)} (hl : ∀ x ∈ l, KeyOk x) (hr : RowT w 26 A (nums .u8 l.flatten)) : RowT w 26 A (nums .u8 (l.take k).flatten) := by
  have h := hr.take (k * 32)
  have e : (nums .u8 l.flatten).take (k * 32) = nums .u8 (l.take k).flatten := by
    rw [nums, ← List.map_take]
    refine congrArg _ ?_
    have h2 : l = l.take k ++ l.drop k := (List.take_append_drop k l).symm
    by_cases hk : k ≤ l.length
    · have e1 : (l.take k).flatten.length = k * 32 := by
        rw [flat_len (fun x hx => hl x (List.mem_of_mem_take hx)), List.length_take, Nat.min_eq_left hk]
        (try omega)
      rw [show l.flatten = (l.take k).flatten ++ (l.drop k).flatten from by rw [← List.flatten_append, ← h2], ← e1, List.take_left]
    · rw [List.take_of_length_le (l := l) (by omega), List.take_of_length_le (by rw [flat_len hl]; omega)]
  rwa [e] at h
end Go.Proofs.Ytcapfnbmmdbcoaa
namespace Go.Proofs.Ytcapfnbmmdbcoaa
open Go.RowKit
end Go.Proofs.Ytcapfnbmmdbcoaa
namespace Go.Proofs.Ytcapfnbmmdbcoaa
open Go.RowKit
end Go.Proofs.Ytcapfnbmmdbcoaa
namespace Go.Proofs.Ytcapfnbmmdbcoaa
open Go.RowKit
theorem AgreeRT {K0 : Nat → Prop} {w0 w : World} {L : List Item} {m : Nat} {ts : List Tm} (H : TF K0 (refR m ts) w0 w L) {s p : List Int} (hw : ∀ t ∈ ts, TmW t) (hs : KeyOk s) (hp : KeyOk p) (hf : ts.length ≤ 900000) (hz : p ≠ zK) :
    Calls Try.prog 54 #[.pointer (some ⟨m, 0, none⟩), .agg (nums .u8 s).toArray, .agg (nums .u8 p).toArray] w fun e w' => IsKeyB (nm ts (agreeT ts s p)) true e ∧ TF K0 (refR m (putL ts (agreeT ts s p))) w0 w' L :=
  (H.run (R := fun e L2 => IsKeyB (nm ts (agreeT ts s p)) true e ∧ L2 = []) fun K1 h1 hlt => (Agree54 h1 hlt hw hs hp hf hz).mono fun e w' ⟨he, F⟩ => ⟨[], ⟨he, rfl⟩, TF.of F hlt⟩).mono fun e w' ⟨L2, ⟨he, hL⟩, F⟩ => ⟨he, by rw [hL] at F; exact F⟩
end Go.Proofs.Ytcapfnbmmdbcoaa
namespace Go.Proofs.Ytcapfnbmmdbcoaa
open Go.RowKit
theorem SealRT {K0 : Nat → Prop} {w0 w : World} {L : List Item} {m : Nat} {ts : List Tm} (H : TF K0 (refR m ts) w0 w L) {text : ByteArray} {k l : List Int} {B : Option Addr} {n d : Nat} {ks : List (List Int)} (hn : n = ks.length) (ht : text.size ≤ 1000) (hk : KeyOk k) (hkl : KeyOk l) (hks : ∀ k ∈ ks, KeyOk k) (hl : ks.length ≤ 900) (hr : RowT w 26 B (nums .u8 ks.flatten)) (hf : ts.length ≤ 900000) :
    Calls Try.prog 47 #[.pointer (some ⟨m, 0, none⟩), .agg (nums .u8 k).toArray, .agg (nums .u8 l).toArray, .string text, .slice B n d] w fun e w' => IsStr (strOfNums (nm ts ⟨6, text, k :: l :: ks⟩)) e ∧ TF K0 (refR m (putL ts ⟨6, text, k :: l :: ks⟩)) w0 w' L := by
  subst hn
  exact (H.run (R := fun e L2 => IsStr (strOfNums (nm ts ⟨6, text, k :: l :: ks⟩)) e ∧ L2 = []) fun K1 h1 hlt => (Seal47 h1 hlt ht hk hkl hks hl hr hf).mono fun e w' ⟨he, F⟩ => ⟨[], ⟨he, rfl⟩, TF.of F hlt⟩).mono fun e w' ⟨L2, ⟨he, hL⟩, F⟩ => ⟨he, by rw [hL] at F; exact F⟩
theorem MarkRN (m : Nat) {k : List Int} (hk : KeyOk k) (w : World) : Calls Try.prog 52 #[.pointer (some ⟨m, 0, none⟩), .string (strOfNums k)] w (KeyR k w) := by
  have := Mark52k m (strOfNums k) w (strKey hk).1
  rwa [(strKey hk).2] at this
end Go.Proofs.Ytcapfnbmmdbcoaa
namespace Go.Proofs.Ytcapfnbmmdbcoaa
open Go.RowKit
def OpenRow (w : World) (r : Option (ByteArray × List (List Int))) (e : Ending) (w' : World) : Prop :=
  match r with
  | none => e = .returned (.tuple #[.string ⟨#[]⟩, .slice none 0 0, .bool false]) ∧ Mem w [] w' []
  | some (x, ks) => ∃ A c, e = .returned (.tuple #[.string x, .slice A ks.length c, .bool true]) ∧ RowT w' 26 A (nums .u8 ks.flatten) ∧ Mem w [] w' []
theorem OpenRT {K0 : Nat → Prop} {w0 w : World} {L : List Item} {m : Nat} {ts : List Tm} (H : TF K0 (refR m ts) w0 w L) (hw : ∀ t ∈ ts, TmW t) {k b : List Int} {s : ByteArray} (hk : KeyOk k) (hb : KeyOk b) {r : Option (ByteArray × List (List Int))} (hr : openM ts k b s = r) :
    Calls Try.prog 74 #[.pointer (some ⟨m, 0, none⟩), .agg (nums .u8 k).toArray, .agg (nums .u8 b).toArray, .string s] w (OpenRow w r) := by
  obtain ⟨K, a1, a2, _⟩ := H.ex
  subst hr
  refine (Open74 a1 (fun b hb => (a2 b hb).2) hw hk hb).mono fun e w' h => ?_
  cases ho : openM ts k b s with
  | none => rw [ho] at h; exact h
  | some x =>
    obtain ⟨x, ks⟩ := x
    rw [ho] at h
    obtain ⟨A, c, he, _, _, hr, _, M⟩ := h
    exact ⟨A, c, he, hr, M⟩
theorem RStepP.tmok {K : Nat → Prop} {w : World} {m : Nat} {ts : List Tm} {seen made : List (List Int)} {SA SB : Option Addr} {sc sd : Nat} {c : Ck} {I : Option Addr} {ic : Nat} (h : RStepP K w m ts seen made SA SB sc sd c I ic) : ∀ t ∈ ts, TmOk t := by
  obtain ⟨A, c, S, e, T⟩ := h.res
  exact T.ok
end Go.Proofs.Ytcapfnbmmdbcoaa
namespace Go.Proofs.Ytcapfnbmmdbcoaa
open Go.RowKit
end Go.Proofs.Ytcapfnbmmdbcoaa
