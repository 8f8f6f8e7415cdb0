/- Walks of the term layer: one round of what follows. -/
import Derived.Test.YtcapfnbmmdbcoaaC12
import Derived.Test.YtcapfnbmmdbcoaaCP2
import Derived.Deep.Cut
set_option linter.unusedVariables false
set_option linter.unusedSimpArgs false
namespace Go.Proofs.Ytcapfnbmmdbcoaa
open Go.RowKit
/-- What a round keeps, up to term i. -/
structure RoundI (ts : List Tm) (bs bs' : List Bool) (more : Bool) (i : Nat) : Prop where
  ge : LeB bs bs'
  le : ∀ X, LeB bs X → Closed ts X → LeB bs' X
  no : more = false → bs' = bs ∧ ∀ (j : Nat) (t : Tm), j < i → ts[j]? = some t → ClosedAt ts bs j t
  yes : more = true → blank bs' < blank bs
theorem RoundI.all {ts : List Tm} {bs bs' : List Bool} {more : Bool} {i : Nat} (h : RoundI ts bs bs' more i) : blank bs' ≤ blank bs := by
  cases more
  · rw [(h.no rfl).1]; exact Nat.le_refl _
  · exact Nat.le_of_lt (h.yes rfl)
theorem Mem.relearn {w0 w w' : World} {kb : Nat} {L : List Item} {o : Obj} (M : Mem w0 [kb] w L) (M2 : Mem w [kb] w' []) (h : w'.heap[kb]? = some o) : Mem w0 [kb] w' [.blk kb o] :=
  ⟨M2.os.trans M.os, M2.tape.trans M.tape, M2.output.trans M.output, Nat.le_trans M.size M2.size, fun i hi hn => (M2.old i (Nat.lt_of_lt_of_le hi M.size) hn).trans (M.old i hi hn),
    by simpa [Item.holds] using h, by simp [Item.block], by simp⟩
theorem keys_cells {w : World} {b off : Nat} {ks : List (List Int)} (hk : ∀ k ∈ ks, KeyOk k) (h : RowT w 26 (some ⟨b, off, none⟩) (nums .u8 ks.flatten)) {i : Nat} {k : List Int} (hi : ks[i]? = some k) :
    ∀ (j : Nat) (v : Value), (nums .u8 k)[j]? = some v → w.cell? ⟨b, off + i * 32 + j, none⟩ = some v := by
  obtain ⟨b', off', hA, hc⟩ := keys_at hk h hi
  injection hA with hA
  injection hA with h1 h2 _
  subst h1 h2
  exact hc
theorem RoundI.set {ts : List Tm} {bs bs' : List Bool} {more : Bool} {i : Nat} {t : Tm} (h : RoundI ts bs bs' more i) (ht : ts[i]? = some t) (hb : bs'[i]? = some false) (hm : madeM ts bs' t = true) : RoundI ts bs (bs'.set i true) true i :=
  ⟨h.ge.trans (LeB.setR i), fun X hX hc => (h.le X hX hc).set ((hc i t ht).make (made_mono (h.le X hX hc) hm)), fun h => (by cases h), fun _ => by
    have h1 := blank_set hb
    cases more
    · have h2 := (h.no rfl).1
      subst h2
      omega
    · have h2 := h.yes rfl
      omega⟩
theorem flat_drop : ∀ {ks : List (List Int)} (n : Nat), (∀ k ∈ ks, KeyOk k) → ks.flatten.drop (n * 32) = (ks.drop n).flatten
  | ks, 0, _ => by simp
  | [], n + 1, _ => by simp
  | k :: ks, n + 1, h => by
    have h1 := (h k (by simp)).1
    rw [List.flatten_cons, List.drop_append, h1, List.drop_of_length_le (by omega), List.nil_append, List.drop_succ_cons, ← flat_drop n (fun k hk => h k (by simp [hk]))]
    congr 1
    omega
theorem RoundI.next {ts : List Tm} {bs bs' : List Bool} {more : Bool} {i : Nat} {t : Tm} (h : RoundI ts bs bs' more i) (ht : ts[i]? = some t) (hc : ClosedAt ts bs' i t) : RoundI ts bs bs' more (i + 1) :=
  ⟨h.ge, h.le, fun hm => ⟨(h.no hm).1, fun j u hj hu => by
    by_cases hji : j < i
    · exact (h.no hm).2 j u hji hu
    · obtain rfl : j = i := by omega
      rw [ht] at hu
      injection hu with hu
      subst hu
      rw [← (h.no hm).1]
      exact hc⟩, h.yes⟩
def RoundR (ts : List Tm) (w : World) (kb : Nat) (bs : List Bool) (e : Ending) (w' : World) : Prop :=
  ∃ more bs', e = .returned (.bool more) ∧ w'.heap[kb]? = some (cellsO 4 (bools bs')) ∧ Mem w [kb] w' [] ∧ RoundI ts bs bs' more ts.length
theorem TabP.keepE {K : Nat → Prop} {w w' : World} {g mb c kb : Nat} {A : Option Addr} {ts : List Tm} {L : List Item} (h : TabP K w g mb A c ts) (hk : ¬ K kb) (M : Mem w [kb] w' L) : TabP K w' g mb A c ts :=
  h.keep fun b hb hl => M.old b hl (by simp only [List.mem_singleton]; rintro rfl; exact hk hb)
theorem TabP.get {K : Nat → Prop} {w : World} {g mb c : Nat} {A : Option Addr} {ts : List Tm} (h : TabP K w g mb A c ts) {i : Nat} {t : Tm} (hi : ts[i]? = some t) :
    ∃ b B d, A = some ⟨b, 0, none⟩ ∧ (∀ (j : Nat) (v : Value), [Value.int .i64 t.kind, .string t.text, .slice B t.keys.length d][j]? = some v → w.cell? ⟨b, i * 3 + j, none⟩ = some v) ∧ t.keys.length ≤ d ∧ (B = none → d = 0) ∧ RowT w 26 B (nums .u8 t.keys.flatten) := by
  obtain ⟨cs, ho, hcs⟩ := h.row
  obtain ⟨B, d, a1, a2, a3, a4, a5, a6, _⟩ := hcs i t hi
  rcases ho.2 with ⟨h', hn⟩ | ⟨b, cap, cur, h', _⟩
  · have := (List.getElem?_eq_some_iff.1 hi).1
    omega
  · injection h' with e1 _ _
    refine ⟨b, B, d, e1, fun j v hj => ?_, a4, a5, a6⟩
    subst e1
    have hc : ∀ (j : Nat) (v : Value), cs[j]? = some v → w.cell? ⟨b, j, none⟩ = some v := fun j v hj => by
      have := ho.cells (g := b) rfl j v hj
      rw [Addr.add_lit, Nat.zero_add] at this
      exact this
    match j, hj with
    | 0, hj => injection hj with hj; subst hj; rw [show i * 3 + 0 = 3 * i from by omega]; exact hc _ _ a1
    | 1, hj => injection hj with hj; subst hj; rw [show i * 3 + 1 = 3 * i + 1 from by omega]; exact hc _ _ a2
    | 2, hj => injection hj with hj; subst hj; rw [show i * 3 + 2 = 3 * i + 2 from by omega]; exact hc _ _ a3
    | j + 3, hj => simp at hj
set_option maxRecDepth 100000 in
set_option maxHeartbeats 4000000 in
theorem round41 (K : Nat → Prop) (f g mb kb c : Nat) (A : Option Addr) (ts : List Tm) (bs : List Bool) (w : World) (T : TabP K w g mb A c ts) (h : FW w f g kb A c bs) (hl : bs.length = ts.length) (hkb : ¬ K kb) (hw : ∀ t ∈ ts, (t.kind = 4 ∨ t.kind = 6) → 2 ≤ t.keys.length) :
    Calls Try.prog 41 #[.pointer (some ⟨f, 0, none⟩)] w (RoundR ts w kb bs) := by
  have M0 := Mem.start1 h.hk
  have HT := hid T
  have H := hid h
  have HW := hid hw
  have HKB := hid hkb
  have hn : ts.length ≤ 1000000 := T.few
  have c0 := h.c0
  have cg := h.ct
  rw [hl] at cg
  clear T h hw hkb
  go_enter Try.func41, Try.ntmps41
  go_wp2_with fail
  clear c0 cg
  go_loopw [3, 16] (fun m n wr => ∃ (i : Nat) (more : Bool) (bs' : List Bool), i ≤ ts.length ∧ n = .int .i64 i ∧ m = .bool more ∧ Mem w [kb] wr [.blk kb (cellsO 4 (bools bs'))] ∧ RoundI ts bs bs' more i) (fun _ n _ => ts.length - (intOf n).toNat)
  case atStart => exact ⟨0, false, bs, by omega, rfl, rfl, M0, ⟨LeB.refl _, fun X h _ => h, fun _ => ⟨rfl, fun j t hj => by omega⟩, fun h => by cases h⟩⟩
  case round =>
    obtain ⟨i, more, bs', hi, rfl, rfl, Mi, RI⟩ := hrel
    clear M0
    by_cases hlt : i < ts.length
    · have hltI : (i : Int) < (ts.length : Int) := by omega
      obtain ⟨t, hte⟩ : ∃ t, ts[i]? = some t := ⟨ts[i], List.getElem?_eq_getElem hlt⟩
      have HTE := hid hte
      have hbl : bs'.length = ts.length := by rw [← hl]; exact RI.ge.len.symm
      obtain ⟨b, B, d, hA, hct, hd, hBn, hBr⟩ := HT.out.get hte
      have hbk : b ≠ kb := fun e => HKB.out (by rw [← e]; exact HT.out.kA b (by rw [hA]; simp [blkA]))
      subst hA
      have HB := hid hBr
      have HCT := hid (fun (j : Nat) (v : Value) (hj : [Value.int .i64 t.kind, .string t.text, .slice B t.keys.length d][j]? = some v) => Mi.cellE (hct j v hj) (by simpa using hbk))
      have HRI := hid RI
      have HBN := hid hBn
      have HKT := hid (H.out.hk)
      have HBL := hid hbl
      have c1 := Mi.cellE H.out.c1 (by simpa using H.out.nf)
      have HTO := hid (HT.out.ok t (List.mem_of_getElem? hte))
      have HTW := hid (HW.out t (List.mem_of_getElem? hte))
      obtain ⟨bv, hbv⟩ : ∃ bv, bs'[i]? = some bv := ⟨bs'[i], List.getElem?_eq_getElem (by omega)⟩
      have HBV := hid hbv
      clear hBr hct RI hBn hte hbv hbl
      cases bv
      · cases hmd : madeM ts bs' t
        ·
          go_upto_region 7 with (first | (apply wpList_want; (· rfl)) | (refine wpList_ldagg 20 rfl Try.underlying95 rfl rfl rfl rfl HCT.out sz95 ?_; (conv => arg 5; simp only [Act.put, List.setIfInBounds_toArray, List.set_cons_succ, List.set_cons_zero])) | (refine wpList_al rfl rfl Mi z95 rfl (fun b5 w4 M4 => ?_); clear c1; (conv => arg 5; simp only [Act.put, List.setIfInBounds_toArray, List.set_cons_succ, List.set_cons_zero])) | (refine wpList_strow (vs := [.int .i64 t.kind, .string t.text, .slice B t.keys.length d]) rfl rfl rfl rfl M4 Swap.head sz95 rfl (by simp [Value.oneCell']) (fun w5 M5 => ?_); clear M4; have c1 := M5.cellE H.out.c1 (by simpa using H.out.nf); have ck := M5.cell (List.mem_cons_of_mem _ List.mem_cons_self) (bools_get HBV.out); (conv => arg 5; simp only [Act.put, List.setIfInBounds_toArray, List.set_cons_succ, List.set_cons_zero])) | (refine wpList_ldrow rfl rfl Try.underlying95 rfl rfl M5 List.mem_cons_self sz95 ?_; (conv => arg 5; simp only [Act.put, List.setIfInBounds_toArray, List.set_cons_succ, List.set_cons_zero])) | (refine wpList_stM (v := .bool true) rfl rfl s4 rfl rfl rfl M5 (Swap.tail Swap.head) (by simp only [bools, List.length_map]; rw [HBL.out]; exact hlt) (fun w7 M7 => ?_); clear ck c1; (conv => arg 5; simp only [Act.put, List.setIfInBounds_toArray, List.set_cons_succ, List.set_cons_zero])) | (go_at_call 67; refine (made67 K f g mb kb c d (some ⟨b, 0, none⟩) B ts bs' t _ (HT.out.keepE HKB.out M5) (H.out.step M5 (by rw [HBL.out, hl]) (M5.holds _ (List.mem_cons_of_mem _ List.mem_cons_self))).fp HTO.out (HB.out.memE M5 HKT.out (by decide)) (fun h => HTW.out (.inl h)) HBL.out).mono ?_; rintro e w6 ⟨rfl, M6⟩; replace M5 := M5.call M6.below; clear M6 ck c1; have c1 := M5.cellE H.out.c1 (by simpa using H.out.nf); have ck := M5.cell (List.mem_cons_of_mem _ List.mem_cons_self) (bools_get HBV.out); rw [hmd]))
          have ck := M5.cell (List.mem_cons_of_mem _ List.mem_cons_self) (bools_get HBV.out)
          go_wp2_with (first | (apply wpList_want; (· rfl)))
          go_round
          case rel =>
            have hf : bs'.getD i false = false := by rw [List.getD_eq_getElem?_getD, HBV.out]; rfl
            exact ⟨i + 1, more, bs', by omega, by go_num, rfl, M5.tail, HRI.out.next HTE.out ⟨fun h => by rw [hmd] at h; (cases h), fun h => by rw [hf] at h; (cases h)⟩⟩
          case measure => simp [intOf]; omega
        ·
          go_upto_region 7 with (first | (apply wpList_want; (· rfl)) | (refine wpList_ldagg 20 rfl Try.underlying95 rfl rfl rfl rfl HCT.out sz95 ?_; (conv => arg 5; simp only [Act.put, List.setIfInBounds_toArray, List.set_cons_succ, List.set_cons_zero])) | (refine wpList_al rfl rfl Mi z95 rfl (fun b5 w4 M4 => ?_); clear c1; (conv => arg 5; simp only [Act.put, List.setIfInBounds_toArray, List.set_cons_succ, List.set_cons_zero])) | (refine wpList_strow (vs := [.int .i64 t.kind, .string t.text, .slice B t.keys.length d]) rfl rfl rfl rfl M4 Swap.head sz95 rfl (by simp [Value.oneCell']) (fun w5 M5 => ?_); clear M4; have c1 := M5.cellE H.out.c1 (by simpa using H.out.nf); have ck := M5.cell (List.mem_cons_of_mem _ List.mem_cons_self) (bools_get HBV.out); (conv => arg 5; simp only [Act.put, List.setIfInBounds_toArray, List.set_cons_succ, List.set_cons_zero])) | (refine wpList_ldrow rfl rfl Try.underlying95 rfl rfl M5 List.mem_cons_self sz95 ?_; (conv => arg 5; simp only [Act.put, List.setIfInBounds_toArray, List.set_cons_succ, List.set_cons_zero])) | (refine wpList_stM (v := .bool true) rfl rfl s4 rfl rfl rfl M5 (Swap.tail Swap.head) (by simp only [bools, List.length_map]; rw [HBL.out]; exact hlt) (fun w7 M7 => ?_); clear ck c1; (conv => arg 5; simp only [Act.put, List.setIfInBounds_toArray, List.set_cons_succ, List.set_cons_zero])) | (go_at_call 67; refine (made67 K f g mb kb c d (some ⟨b, 0, none⟩) B ts bs' t _ (HT.out.keepE HKB.out M5) (H.out.step M5 (by rw [HBL.out, hl]) (M5.holds _ (List.mem_cons_of_mem _ List.mem_cons_self))).fp HTO.out (HB.out.memE M5 HKT.out (by decide)) (fun h => HTW.out (.inl h)) HBL.out).mono ?_; rintro e w6 ⟨rfl, M6⟩; replace M5 := M5.call M6.below; clear M6 ck c1; have c1 := M5.cellE H.out.c1 (by simpa using H.out.nf); have ck := M5.cell (List.mem_cons_of_mem _ List.mem_cons_self) (bools_get HBV.out); rw [hmd]))
          rw [bools_set] at M7
          have M8 := M7
          clear M7
          have HRI2 := hid (HRI.out.set HTE.out HBV.out hmd)
          have HBV2 := hid (show (bs'.set i true)[i]? = some true from by rw [List.getElem?_set_self (by rw [HBL.out]; exact hlt)])
          have HBL2 := hid (show (bs'.set i true).length = ts.length from by rw [List.length_set]; exact HBL.out)
          obtain ⟨bs2, hbs2⟩ : ∃ x, x = bs'.set i true := ⟨_, rfl⟩
          rw [← hbs2] at HRI2 HBV2 HBL2 M8
          clear hbs2 hmd
          have hf : bs2.getD i false = true := by rw [List.getD_eq_getElem?_getD, HBV2.out]; rfl
          have HF := hid hf
          have c1 := M8.cellE H.out.c1 (by simpa using H.out.nf)
          have ck := M8.cell (List.mem_cons_of_mem _ List.mem_cons_self) (bools_get HBV2.out)
          have ck0 := M8.cell (i := 0) List.mem_cons_self rfl
          clear hf
          by_cases e6 : t.kind = 6
          · have ck2 := M8.cell (i := 2) List.mem_cons_self rfl
            have hk2 := HTW.out (.inr e6)
            have q0 : t.keys[0]? = some (t.keys.getD 0 []) := by rw [List.getD_eq_getElem?_getD, List.getElem?_eq_getElem (by omega)]; rfl
            have HK0 := hid (HTO.out.ks _ (List.mem_of_getElem? q0))
            obtain ⟨bk, off, hB, _⟩ := keys_at HTO.out.ks HB.out q0
            subst hB
            have HQ0 := hid q0
            have hk3 : 0 < t.keys.length := by omega
            obtain ⟨k0, hk0⟩ : ∃ x, x = t.keys.getD 0 [] := ⟨_, rfl⟩
            rw [← hk0] at HK0 HQ0
            have HK := hid hk0
            clear q0 hk0
            cases hh : hasM bs2 k0
            ·
              go_wp2_with (first | (apply wpList_want; (· rfl)) | (refine wpList_ldagg (off := off) 57 rfl Try.underlying26 rfl rfl rfl rfl (by simpa using keys_cells HTO.out.ks (HB.out.memE M8 HKT.out (by decide)) HQ0.out) (s26k HK0.out) ?_; (conv => arg 5; simp only [Act.put, List.setIfInBounds_toArray, List.set_cons_succ, List.set_cons_zero])) | (go_at_call 42; refine (has42 f g kb c (some ⟨b, 0, none⟩) bs2 k0 _ (H.out.step M8 (by rw [HBL2.out, hl]) (M8.holds _ (List.mem_cons_of_mem _ List.mem_cons_self))).fp HK0.out (by rw [HBL2.out]; exact hn)).mono ?_; rintro e w6 ⟨rfl, M6⟩; replace M8 := M8.call M6.below; clear M6 ck c1 ck0 ck2; rw [hh]))
              go_round
              case rel =>
                exact ⟨i + 1, _, bs2, by omega, by go_num, rfl, M8.tail, HRI2.out.next HTE.out ⟨fun _ => HF.out, fun _ _ h => by rw [← HK.out, hh] at h; (cases h)⟩⟩
              case measure => simp [intOf]; omega
            ·
              go_wp2_with (first | (apply wpList_want; (· rfl)) | (refine wpList_ldagg (off := off) 57 rfl Try.underlying26 rfl rfl rfl rfl (by simpa using keys_cells HTO.out.ks (HB.out.memE M8 HKT.out (by decide)) HQ0.out) (s26k HK0.out) ?_; (conv => arg 5; simp only [Act.put, List.setIfInBounds_toArray, List.set_cons_succ, List.set_cons_zero])) | (go_at_call 42; refine (has42 f g kb c (some ⟨b, 0, none⟩) bs2 k0 _ (H.out.step M8 (by rw [HBL2.out, hl]) (M8.holds _ (List.mem_cons_of_mem _ List.mem_cons_self))).fp HK0.out (by rw [HBL2.out]; exact hn)).mono ?_; rintro e w6 ⟨rfl, M6⟩; replace M8 := M8.call M6.below; clear M6 ck c1 ck0 ck2; have ck2 := M8.cell (i := 2) List.mem_cons_self rfl; rw [hh]) | (refine wpList_slLowM 2 Try.underlying34 s26 rfl rfl rfl rfl rfl hk2 hd ?_; (conv => arg 5; simp only [Act.put, List.setIfInBounds_toArray, List.set_cons_succ, List.set_cons_zero])))
              have HKD := hid (show RowT w 26 (lowA (some ⟨bk, off, none⟩) d 2 32) (nums .u8 (t.keys.drop 2).flatten) from by
                have h1 := HB.out.low (c := d) (low := 2) (size := 32) (by rw [nums_length, flat_len HTO.out.ks]; omega)
                have h2 : (nums .u8 t.keys.flatten).drop (2 * 32) = nums .u8 (t.keys.drop 2).flatten := by
                  rw [← flat_drop 2 HTO.out.ks, nums, nums, List.map_drop]
                rw [h2] at h1
                exact h1)
              have HKS := hid (fun k hk => HTO.out.ks k (List.mem_of_mem_drop (i := 2) hk))
              have HUN := hid (fun X (hX : LeB bs X) (hc : Closed ts X) => (hc i t HTE.out).unbox ((HRI2.out.le X hX hc).le i HF.out) e6 (by rw [← HK.out]; exact has_mono (HRI2.out.le X hX hc) hh))
              have M6 := M8.tail
              clear M8 ck2
              go_loopw [3, 64] (fun m n wr => ∃ (j : Nat) (more1 more2 : Bool) (bs1 : List Bool), j ≤ t.keys.length - 2 ∧ n = .int .i64 j ∧ m = .bool more1 ∧ Mem w [kb] wr [.blk kb (cellsO 4 (bools bs1))] ∧ InnerI ts bs bs2 bs1 more2 more1 (t.keys.drop 2) j ∧ RoundI ts bs bs2 more2 i) (fun _ n _ => t.keys.length - 2 - (intOf n).toNat)
              case atStart =>
                exact ⟨0, _, _, bs2, by omega, rfl, rfl, M6, ⟨LeB.refl _, HRI2.out.le, fun hm => ⟨hm, rfl, fun k hk => by simp at hk⟩, HRI2.out.yes, HRI2.out.all⟩, HRI2.out⟩
              case round =>
                obtain ⟨j, more1, more2, bs1, hj, rfl, rfl, Mj, II, RI3⟩ := hrel
                clear M6
                by_cases hlt2 : j < t.keys.length - 2
                · have hkl := HTO.out.kl
                  have hltJ : (j : Int) < ((t.keys.length - 2 : Nat) : Int) := by omega
                  obtain ⟨k, hke⟩ : ∃ k, (t.keys.drop 2)[j]? = some k := ⟨(t.keys.drop 2)[j]'(by simp; omega), List.getElem?_eq_getElem (by simp; omega)⟩
                  obtain ⟨bq, oq, hlow, hcells⟩ := keys_at HKS.out (HKD.out.memE Mj HKT.out (by decide)) hke
                  have HKK := hid (HKS.out k (List.mem_of_getElem? hke))
                  have HKE := hid hke
                  have HII := hid II
                  have HRI3 := hid RI3
                  have HBL1 := hid (show bs1.length = ts.length from by rw [← II.ge.len]; exact HBL2.out)
                  have HCL := hid hcells
                  rw [hlow]
                  clear hke II RI3 hlow hcells
                  cases hlb : learnB bs1 k
                  all_goals
                    go_wp2_with (first | (apply wpList_want; (· rfl)) | (refine wpList_ldagg 67 rfl Try.underlying26 rfl rfl rfl rfl HCL.out (s26k HKK.out) ?_; (conv => arg 5; simp only [Act.put, List.setIfInBounds_toArray, List.set_cons_succ, List.set_cons_zero])) | (refine wpList_alN z26 7 rfl rfl rfl Mj (fun b7 w7 M7 => ?_); (conv => arg 5; simp only [Act.put, List.setIfInBounds_toArray, List.set_cons_succ, List.set_cons_zero])) | (refine wpList_strowN s26 rfl rfl rfl rfl M7 Swap.head (by simp) HKK.out.1 (fun w9 M9 => ?_); clear M7; (conv => arg 5; simp only [Act.put, List.setIfInBounds_toArray, List.set_cons_succ, List.set_cons_zero])) | (refine wpList_ldrowN Try.underlying26 s26 rfl rfl rfl rfl M9 List.mem_cons_self HKK.out.1 ?_; (conv => arg 5; simp only [Act.put, List.setIfInBounds_toArray, List.set_cons_succ, List.set_cons_zero])) | (go_at_call 40; refine (learn40 f g kb c (some ⟨b, 0, none⟩) bs1 k _ (H.out.step M9 (by rw [HBL1.out, hl]) (M9.holds _ (List.mem_cons_of_mem _ List.mem_cons_self))) HKK.out (by rw [HBL1.out]; exact hn)).mono ?_; rintro e w10 ⟨rfl, hh10, M10⟩; have M11 := M9.relearn M10 hh10; clear M9 M10 hh10; rw [hlb]))
                    go_round
                    case rel =>
                      have hst := HII.out.step HKE.out (by rcases numT_cases bs1.length k HKK.out with h | ⟨q, hq, h⟩ <;> rw [h] <;> omega) (fun X hX hc => HUN.out X hX hc k (List.mem_of_getElem? HKE.out))
                      rw [hlb] at hst
                      exact ⟨j + 1, _, _, _, by omega, by go_num, rfl, M11, hst, HRI3.out⟩
                    case measure => simp [intOf]; omega
                · obtain rfl : j = t.keys.length - 2 := by omega
                  go_wp2_with fail
                  go_round
                  case rel =>
                    refine ⟨i + 1, more1, bs1, by omega, by go_num, rfl, Mj, ⟨HRI2.out.ge.trans II.ge, II.le, fun hm => ?_, II.yes⟩⟩
                    obtain ⟨a1, rfl, a3⟩ := II.no hm
                    rw [List.take_of_length_le (by rw [List.length_drop]; exact Nat.le_refl _)] at a3
                    exact (RI3.next HTE.out ⟨fun _ => HF.out, fun _ _ _ => a3⟩).no a1
                  case measure => simp [intOf]; omega
          ·
            go_wp2_with (first | (apply wpList_want; (· rfl)))
            go_round
            case rel =>
              exact ⟨i + 1, _, bs2, by omega, by go_num, rfl, M8.tail, HRI2.out.next HTE.out ⟨fun _ => HF.out, fun _ h => absurd h e6⟩⟩
            case measure => simp [intOf]; omega
      ·
        go_upto_region 7 with (first | (apply wpList_want; (· rfl)) | (refine wpList_ldagg 20 rfl Try.underlying95 rfl rfl rfl rfl HCT.out sz95 ?_; (conv => arg 5; simp only [Act.put, List.setIfInBounds_toArray, List.set_cons_succ, List.set_cons_zero])) | (refine wpList_al rfl rfl Mi z95 rfl (fun b5 w4 M4 => ?_); clear c1; (conv => arg 5; simp only [Act.put, List.setIfInBounds_toArray, List.set_cons_succ, List.set_cons_zero])) | (refine wpList_strow (vs := [.int .i64 t.kind, .string t.text, .slice B t.keys.length d]) rfl rfl rfl rfl M4 Swap.head sz95 rfl (by simp [Value.oneCell']) (fun w5 M5 => ?_); clear M4; have c1 := M5.cellE H.out.c1 (by simpa using H.out.nf); have ck := M5.cell (List.mem_cons_of_mem _ List.mem_cons_self) (bools_get HBV.out); (conv => arg 5; simp only [Act.put, List.setIfInBounds_toArray, List.set_cons_succ, List.set_cons_zero])) | (refine wpList_ldrow rfl rfl Try.underlying95 rfl rfl M5 List.mem_cons_self sz95 ?_; (conv => arg 5; simp only [Act.put, List.setIfInBounds_toArray, List.set_cons_succ, List.set_cons_zero])) | (refine wpList_stM (v := .bool true) rfl rfl s4 rfl rfl rfl M5 (Swap.tail Swap.head) (by simp only [bools, List.length_map]; rw [HBL.out]; exact hlt) (fun w7 M7 => ?_); clear ck c1; (conv => arg 5; simp only [Act.put, List.setIfInBounds_toArray, List.set_cons_succ, List.set_cons_zero])) | (go_at_call 67; refine (made67 K f g mb kb c d (some ⟨b, 0, none⟩) B ts bs' t _ (HT.out.keepE HKB.out M5) (H.out.step M5 (by rw [HBL.out, hl]) (M5.holds _ (List.mem_cons_of_mem _ List.mem_cons_self))).fp HTO.out (HB.out.memE M5 HKT.out (by decide)) (fun h => HTW.out (.inl h)) HBL.out).mono ?_; rintro e w6 ⟨rfl, M6⟩; replace M5 := M5.call M6.below; clear M6 ck c1; have c1 := M5.cellE H.out.c1 (by simpa using H.out.nf); have ck := M5.cell (List.mem_cons_of_mem _ List.mem_cons_self) (bools_get HBV.out); rw [hmd]))
        have M8 := M5
        have HRI2 := HRI
        have HBV2 := HBV
        have HBL2 := HBL
        obtain ⟨bs2, hbs2⟩ : ∃ x, x = bs' := ⟨_, rfl⟩
        subst hbs2
        clear M5 HRI HBV HBL c1 ck
        have hf : bs2.getD i false = true := by rw [List.getD_eq_getElem?_getD, HBV2.out]; rfl
        have HF := hid hf
        have c1 := M8.cellE H.out.c1 (by simpa using H.out.nf)
        have ck := M8.cell (List.mem_cons_of_mem _ List.mem_cons_self) (bools_get HBV2.out)
        have ck0 := M8.cell (i := 0) List.mem_cons_self rfl
        clear hf
        by_cases e6 : t.kind = 6
        · have ck2 := M8.cell (i := 2) List.mem_cons_self rfl
          have hk2 := HTW.out (.inr e6)
          have q0 : t.keys[0]? = some (t.keys.getD 0 []) := by rw [List.getD_eq_getElem?_getD, List.getElem?_eq_getElem (by omega)]; rfl
          have HK0 := hid (HTO.out.ks _ (List.mem_of_getElem? q0))
          obtain ⟨bk, off, hB, _⟩ := keys_at HTO.out.ks HB.out q0
          subst hB
          have HQ0 := hid q0
          have hk3 : 0 < t.keys.length := by omega
          obtain ⟨k0, hk0⟩ : ∃ x, x = t.keys.getD 0 [] := ⟨_, rfl⟩
          rw [← hk0] at HK0 HQ0
          have HK := hid hk0
          clear q0 hk0
          cases hh : hasM bs2 k0
          ·
            go_wp2_with (first | (apply wpList_want; (· rfl)) | (refine wpList_ldagg (off := off) 57 rfl Try.underlying26 rfl rfl rfl rfl (by simpa using keys_cells HTO.out.ks (HB.out.memE M8 HKT.out (by decide)) HQ0.out) (s26k HK0.out) ?_; (conv => arg 5; simp only [Act.put, List.setIfInBounds_toArray, List.set_cons_succ, List.set_cons_zero])) | (go_at_call 42; refine (has42 f g kb c (some ⟨b, 0, none⟩) bs2 k0 _ (H.out.step M8 (by rw [HBL2.out, hl]) (M8.holds _ (List.mem_cons_of_mem _ List.mem_cons_self))).fp HK0.out (by rw [HBL2.out]; exact hn)).mono ?_; rintro e w6 ⟨rfl, M6⟩; replace M8 := M8.call M6.below; clear M6 ck c1 ck0 ck2; rw [hh]))
            go_round
            case rel =>
              exact ⟨i + 1, _, bs2, by omega, by go_num, rfl, M8.tail, HRI2.out.next HTE.out ⟨fun _ => HF.out, fun _ _ h => by rw [← HK.out, hh] at h; (cases h)⟩⟩
            case measure => simp [intOf]; omega
          ·
            go_wp2_with (first | (apply wpList_want; (· rfl)) | (refine wpList_ldagg (off := off) 57 rfl Try.underlying26 rfl rfl rfl rfl (by simpa using keys_cells HTO.out.ks (HB.out.memE M8 HKT.out (by decide)) HQ0.out) (s26k HK0.out) ?_; (conv => arg 5; simp only [Act.put, List.setIfInBounds_toArray, List.set_cons_succ, List.set_cons_zero])) | (go_at_call 42; refine (has42 f g kb c (some ⟨b, 0, none⟩) bs2 k0 _ (H.out.step M8 (by rw [HBL2.out, hl]) (M8.holds _ (List.mem_cons_of_mem _ List.mem_cons_self))).fp HK0.out (by rw [HBL2.out]; exact hn)).mono ?_; rintro e w6 ⟨rfl, M6⟩; replace M8 := M8.call M6.below; clear M6 ck c1 ck0 ck2; have ck2 := M8.cell (i := 2) List.mem_cons_self rfl; rw [hh]) | (refine wpList_slLowM 2 Try.underlying34 s26 rfl rfl rfl rfl rfl hk2 hd ?_; (conv => arg 5; simp only [Act.put, List.setIfInBounds_toArray, List.set_cons_succ, List.set_cons_zero])))
            have HKD := hid (show RowT w 26 (lowA (some ⟨bk, off, none⟩) d 2 32) (nums .u8 (t.keys.drop 2).flatten) from by
              have h1 := HB.out.low (c := d) (low := 2) (size := 32) (by rw [nums_length, flat_len HTO.out.ks]; omega)
              have h2 : (nums .u8 t.keys.flatten).drop (2 * 32) = nums .u8 (t.keys.drop 2).flatten := by
                rw [← flat_drop 2 HTO.out.ks, nums, nums, List.map_drop]
              rw [h2] at h1
              exact h1)
            have HKS := hid (fun k hk => HTO.out.ks k (List.mem_of_mem_drop (i := 2) hk))
            have HUN := hid (fun X (hX : LeB bs X) (hc : Closed ts X) => (hc i t HTE.out).unbox ((HRI2.out.le X hX hc).le i HF.out) e6 (by rw [← HK.out]; exact has_mono (HRI2.out.le X hX hc) hh))
            have M6 := M8.tail
            clear M8 ck2
            go_loopw [3, 64] (fun m n wr => ∃ (j : Nat) (more1 more2 : Bool) (bs1 : List Bool), j ≤ t.keys.length - 2 ∧ n = .int .i64 j ∧ m = .bool more1 ∧ Mem w [kb] wr [.blk kb (cellsO 4 (bools bs1))] ∧ InnerI ts bs bs2 bs1 more2 more1 (t.keys.drop 2) j ∧ RoundI ts bs bs2 more2 i) (fun _ n _ => t.keys.length - 2 - (intOf n).toNat)
            case atStart =>
              exact ⟨0, _, _, bs2, by omega, rfl, rfl, M6, ⟨LeB.refl _, HRI2.out.le, fun hm => ⟨hm, rfl, fun k hk => by simp at hk⟩, HRI2.out.yes, HRI2.out.all⟩, HRI2.out⟩
            case round =>
              obtain ⟨j, more1, more2, bs1, hj, rfl, rfl, Mj, II, RI3⟩ := hrel
              clear M6
              by_cases hlt2 : j < t.keys.length - 2
              · have hkl := HTO.out.kl
                have hltJ : (j : Int) < ((t.keys.length - 2 : Nat) : Int) := by omega
                obtain ⟨k, hke⟩ : ∃ k, (t.keys.drop 2)[j]? = some k := ⟨(t.keys.drop 2)[j]'(by simp; omega), List.getElem?_eq_getElem (by simp; omega)⟩
                obtain ⟨bq, oq, hlow, hcells⟩ := keys_at HKS.out (HKD.out.memE Mj HKT.out (by decide)) hke
                have HKK := hid (HKS.out k (List.mem_of_getElem? hke))
                have HKE := hid hke
                have HII := hid II
                have HRI3 := hid RI3
                have HBL1 := hid (show bs1.length = ts.length from by rw [← II.ge.len]; exact HBL2.out)
                have HCL := hid hcells
                rw [hlow]
                clear hke II RI3 hlow hcells
                cases hlb : learnB bs1 k
                all_goals
                  go_wp2_with (first | (apply wpList_want; (· rfl)) | (refine wpList_ldagg 67 rfl Try.underlying26 rfl rfl rfl rfl HCL.out (s26k HKK.out) ?_; (conv => arg 5; simp only [Act.put, List.setIfInBounds_toArray, List.set_cons_succ, List.set_cons_zero])) | (refine wpList_alN z26 7 rfl rfl rfl Mj (fun b7 w7 M7 => ?_); (conv => arg 5; simp only [Act.put, List.setIfInBounds_toArray, List.set_cons_succ, List.set_cons_zero])) | (refine wpList_strowN s26 rfl rfl rfl rfl M7 Swap.head (by simp) HKK.out.1 (fun w9 M9 => ?_); clear M7; (conv => arg 5; simp only [Act.put, List.setIfInBounds_toArray, List.set_cons_succ, List.set_cons_zero])) | (refine wpList_ldrowN Try.underlying26 s26 rfl rfl rfl rfl M9 List.mem_cons_self HKK.out.1 ?_; (conv => arg 5; simp only [Act.put, List.setIfInBounds_toArray, List.set_cons_succ, List.set_cons_zero])) | (go_at_call 40; refine (learn40 f g kb c (some ⟨b, 0, none⟩) bs1 k _ (H.out.step M9 (by rw [HBL1.out, hl]) (M9.holds _ (List.mem_cons_of_mem _ List.mem_cons_self))) HKK.out (by rw [HBL1.out]; exact hn)).mono ?_; rintro e w10 ⟨rfl, hh10, M10⟩; have M11 := M9.relearn M10 hh10; clear M9 M10 hh10; rw [hlb]))
                  go_round
                  case rel =>
                    have hst := HII.out.step HKE.out (by rcases numT_cases bs1.length k HKK.out with h | ⟨q, hq, h⟩ <;> rw [h] <;> omega) (fun X hX hc => HUN.out X hX hc k (List.mem_of_getElem? HKE.out))
                    rw [hlb] at hst
                    exact ⟨j + 1, _, _, _, by omega, by go_num, rfl, M11, hst, HRI3.out⟩
                  case measure => simp [intOf]; omega
              · obtain rfl : j = t.keys.length - 2 := by omega
                go_wp2_with fail
                go_round
                case rel =>
                  refine ⟨i + 1, more1, bs1, by omega, by go_num, rfl, Mj, ⟨HRI2.out.ge.trans II.ge, II.le, fun hm => ?_, II.yes⟩⟩
                  obtain ⟨a1, rfl, a3⟩ := II.no hm
                  rw [List.take_of_length_le (by rw [List.length_drop]; exact Nat.le_refl _)] at a3
                  exact (RI3.next HTE.out ⟨fun _ => HF.out, fun _ _ _ => a3⟩).no a1
                case measure => simp [intOf]; omega
        ·
          go_wp2_with (first | (apply wpList_want; (· rfl)))
          go_round
          case rel =>
            exact ⟨i + 1, _, bs2, by omega, by go_num, rfl, M8.tail, HRI2.out.next HTE.out ⟨fun _ => HF.out, fun _ h => absurd h e6⟩⟩
          case measure => simp [intOf]; omega
    · obtain rfl : i = ts.length := by omega
      go_wp2_with fail
      go_ret
      exact ⟨more, bs', rfl, Mi.holds _ List.mem_cons_self, Mi.sub (List.nil_sublist _), RI⟩
end Go.Proofs.Ytcapfnbmmdbcoaa
