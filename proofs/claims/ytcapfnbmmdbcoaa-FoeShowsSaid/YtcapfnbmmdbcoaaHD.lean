/- What follows, by the reference: the least closed set, by rounds. -/
import Derived.Test.YtcapfnbmmdbcoaaHC
set_option linter.unusedVariables false
set_option linter.unusedSimpArgs false
namespace Go.Proofs.Ytcapfnbmmdbcoaa
open Go.RowKit
/-- Term i is done: it follows, or it can't be made and isn't shown. -/
def DoneAt (ts : List Tm) (bs : List Bool) (i : Nat) (t : Tm) : Prop := bs.getD i false = true ∨ (madeM ts bs t = false ∧ ∀ (j : Nat) (u : Tm), ts[j]? = some u → shownAt bs i j u = false)
/-- What a round keeps. -/
structure RefI (ts : List Tm) (bs bs' : List Bool) (more : Bool) (i : Nat) : Prop where
  ge : LeB bs bs'
  le : ∀ X, LeB bs X → Closed ts X → LeB bs' X
  no : more = false → bs' = bs ∧ ∀ (j : Nat) (t : Tm), j < i → ts[j]? = some t → DoneAt ts bs j t
  yes : more = true → blank bs' < blank bs
theorem RefI.start (ts : List Tm) (bs : List Bool) : RefI ts bs bs false 0 := ⟨LeB.refl bs, fun X h _ => h, fun _ => ⟨rfl, fun j t h => absurd h (by omega)⟩, fun h => (by cases h)⟩
theorem RefI.skip {ts : List Tm} {bs bs' : List Bool} {more : Bool} {i : Nat} {t : Tm} (h : RefI ts bs bs' more i) (hi : ts[i]? = some t) (hd : DoneAt ts bs' i t) : RefI ts bs bs' more (i + 1) :=
  ⟨h.ge, h.le, fun hm => by
    obtain ⟨e, hn⟩ := h.no hm
    refine ⟨e, fun j u hj hu => ?_⟩
    by_cases hji : j = i
    · subst hji
      rw [hi] at hu
      injection hu with hu
      subst hu
      rw [e] at hd
      exact hd
    · exact hn j u (by omega) hu, h.yes⟩
theorem RefI.put {ts : List Tm} {bs bs' : List Bool} {more : Bool} {i : Nat} (h : RefI ts bs bs' more i) (hi : bs'[i]? = some false) (hc : ∀ X, LeB bs' X → Closed ts X → X.getD i false = true) : RefI ts bs (bs'.set i true) true (i + 1) :=
  ⟨h.ge.trans (LeB.setR i), fun X hX hcl => (h.le X hX hcl).set (hc X (h.le X hX hcl) hcl), fun hm => (by cases hm), fun _ => by
    have h1 := blank_set hi
    have h2 : blank bs' ≤ blank bs := by
      cases more
      · rw [(h.no rfl).1]; exact Nat.le_refl _
      · exact Nat.le_of_lt (h.yes rfl)
    omega⟩
theorem made_put {ts : List Tm} {bs : List Bool} {i : Nat} {t : Tm} (hi : ts[i]? = some t) (hm : madeM ts bs t = true) (X : List Bool) (hX : LeB bs X) (hc : Closed ts X) : X.getD i false = true := (hc i t hi).make (made_mono hX hm)
theorem shown_put {ts : List Tm} {bs : List Bool} {n j : Nat} {u : Tm} (hj : ts[j]? = some u) (hs : shownAt bs n j u = true) (hl : bs.length = ts.length) (hn : n < ts.length) (hm : ts.length ≤ 1000000) (X : List Bool) (hX : LeB bs X) (hc : Closed ts X) : X.getD n false = true := by
  unfold shownAt at hs
  simp only [Bool.and_eq_true, decide_eq_true_eq, List.any_eq_true] at hs
  obtain ⟨⟨⟨h6, hb⟩, hh⟩, k, hk, rfl⟩ := hs
  have := (hc j u hj).unbox (hX.le j hb) h6 (has_mono hX hh) _ hk
  have hXl := hX.len
  exact (knownK_kn (by omega) (by omega)).1 this
theorem kn_eq (i : Nat) : kn i = nameL (i : Int) := by unfold kn; rfl
theorem num_kn' {n i : Nat} {k : List Int} (hk : KeyOk k) (h : numT n k = (i : Nat)) : i < n ∧ k = kn i := by
  unfold numT at h
  split at h
  · rename_i hh
    refine ⟨by omega, ?_⟩
    rw [← hh.2, h]
    exact (kn_eq i).symm
  · omega
theorem done_closed {ts : List Tm} {bs : List Bool} (hl : bs.length = ts.length) (hok : ∀ t ∈ ts, TmOk t) (hd : ∀ (i : Nat) (t : Tm), ts[i]? = some t → DoneAt ts bs i t) : Closed ts bs := fun i t hi => by
  refine ⟨fun hm => ?_, fun hb h6 hh k hk h0 => ?_⟩
  · rcases hd i t hi with h | ⟨h, _⟩
    · exact h
    · rw [h] at hm; cases hm
  · have hkk := (hok t (List.mem_of_getElem? hi)).ks k (List.mem_of_mem_drop hk)
    rcases numT_cases bs.length k hkk with hm | ⟨q, hq, hm⟩
    · omega
    · rw [hm, Int.toNat_natCast]
      obtain ⟨_, hkn⟩ := num_kn' hkk hm
      obtain ⟨u, hu⟩ : ∃ u, ts[q]? = some u := ⟨_, List.getElem?_eq_getElem (by omega)⟩
      rcases hd q u hu with h | ⟨_, h⟩
      · exact h
      · have := h i t hi
        have h2 : shownAt bs q i t = true := by
          rw [shownAt, decide_eq_true h6, hb, hh, List.any_eq_true.2 ⟨k, hk, by simpa using hkn⟩]
          rfl
        rw [h2] at this
        cases this
theorem ref_done {ts : List Tm} {seen : List (List Int)} {bs : List Bool} (h : FolI ts seen bs seen.length) (hok : ∀ t ∈ ts, TmOk t) (hd : ∀ (i : Nat) (t : Tm), ts[i]? = some t → DoneAt ts bs i t) : Follows ts seen bs :=
  ⟨h.len, by have := h.has; rwa [List.take_length] at this, done_closed h.len hok hd, h.least⟩
theorem FolI.ref {ts : List Tm} {seen : List (List Int)} {bs bs' : List Bool} {more : Bool} {i n : Nat} (h : FolI ts seen bs i) (hr : RefI ts bs bs' more n) : FolI ts seen bs' i :=
  ⟨by rw [← hr.ge.len, h.len], fun k hk => (h.has k hk).mono hr.ge, fun X hX hs hc => hr.le X (h.least X hX hs hc) hc⟩
/-- What is answered: the booleans, in a block of their own. -/
def RFolR (ts : List Tm) (seen : List (List Int)) (w : World) (e : Ending) (w' : World) : Prop :=
  ∃ kb bs, e = .returned (.slice (some ⟨kb, 0, none⟩) bs.length bs.length) ∧ Follows ts seen bs ∧ Mem w [] w' [.blk kb (cellsO 4 (bools bs))]
theorem Mem.bs {w0 w : World} {L : List Item} {E : List Nat} (M : Mem w0 E w L) {kb : Nat} {bs : List Bool} (h : .blk kb (cellsO 4 (bools bs)) ∈ L) : BsR w kb bs := fun i b hi => M.cell h (bools_get hi)
theorem made60N (K : Nat → Prop) (m c e kb i : Nat) (A S : Option Addr) (ts : List Tm) (bs : List Bool) (t : Tm) (w : World) (T : RefP K w m A c S e ts) (hb : BsR w kb bs) (hl : bs.length = ts.length) (hi : ts[i]? = some t) (h2 : t.kind = 4 → 2 ≤ t.keys.length) :
    Calls Try.prog 60 #[.pointer (some ⟨m, 0, none⟩), .slice (some ⟨kb, 0, none⟩) ts.length ts.length, .int .i64 (i : Nat)] w (BoolR (madeM ts bs t) w) := by
  have := made60 K m c e kb i A S ts bs t w T hb hl hi h2
  rwa [hl] at this
theorem shown61N (K : Nat → Prop) (m c e kb n : Nat) (A S : Option Addr) (ts : List Tm) (bs : List Bool) (w : World) (T : RefP K w m A c S e ts) (hb : BsR w kb bs) (hl : bs.length = ts.length) (hw : ∀ t ∈ ts, TmW t) (hnn : n ≤ 1000000) :
    Calls Try.prog 61 #[.pointer (some ⟨m, 0, none⟩), .slice (some ⟨kb, 0, none⟩) ts.length ts.length, .int .i64 (n : Nat)] w (ShownR ts bs n w) := by
  have := shown61 K m c e kb n A S ts bs w T hb hl hw hnn
  rwa [hl] at this
def oneB (b : Bool) : Nat := if b then 1 else 0
set_option maxRecDepth 100000 in
set_option maxHeartbeats 8000000 in
theorem Follow36 (K : Nat → Prop) (m c e d : Nat) (A S B : Option Addr) (ts : List Tm) (seen : List (List Int)) (w : World) (T : RefP K w m A c S e ts) (hw : ∀ t ∈ ts, TmW t) (hk : ∀ k ∈ seen, KeyOk k) (hl : seen.length ≤ 100000) (hr : RowT w 26 B (nums .u8 seen.flatten)) :
    Calls Try.prog 36 #[.pointer (some ⟨m, 0, none⟩), .slice B seen.length d] w (RFolR ts seen w) := by
  have M0 := Mem.start w
  have hn : ts.length ≤ 1000000 := T.few
  have HT := hid T
  have HC := hid T.cap.1
  have HW := hid hw
  have HK := hid hk
  have HR := hid hr
  have cg := T.cap.1
  clear T hw hk hr
  go_enter Try.func36, Try.ntmps36
  go_wp2_with (refine wpList_mkB 15 ts.length Try.underlying81 i4' rfl rfl rfl rfl rfl rfl rfl (by omega) (by omega) M0 (fun kb w1 M1 => ?_); clear M0 cg; (conv => arg 5; simp only [Act.put, List.setIfInBounds_toArray, List.set_cons_succ, List.set_cons_zero]))
  go_loopw [6] (fun x wr => ∃ (i : Nat) (bs : List Bool), i ≤ seen.length ∧ x = .int .i64 i ∧ Mem w [] wr [.blk kb (cellsO 4 (bools bs))] ∧ Hid (FolI ts seen bs i)) (fun x _ => seen.length - (intOf x).toNat)
  case atStart => exact ⟨0, _, by omega, rfl, M1, hid (FolI.start ts seen)⟩
  case round =>
    clear M1
    obtain ⟨i, bs, hi, rfl, M, HF⟩ := hrel
    by_cases hlt : i < seen.length
    · have hltI : (i : Int) < (seen.length : Int) := by omega
      obtain ⟨k, hke⟩ : ∃ k, seen[i]? = some k := ⟨_, List.getElem?_eq_getElem hlt⟩
      have HKK := hid (HK.out k (List.mem_of_getElem? hke))
      obtain ⟨bq, oq, hBe, hck⟩ := keys_at HK.out (HR.out.mem (M.sub (List.nil_sublist _))) hke
      subst hBe
      have HCK := hid hck
      have HLN := hid (HF.out.learn hke HKK.out)
      have hbl : bs.length = ts.length := HF.out.len
      have HBL := hid hbl
      clear hke hck
      rcases numT_cases ts.length k HKK.out with hm | ⟨q, hq, hm⟩
      · have HM := hid hm
        rw [show learnL bs k = bs from by rw [learnL, hbl, hm, if_neg (by decide)]] at HLN
        clear hm hbl
        go_wp2_with (first | (refine wpList_ldagg 26 rfl Try.underlying26 rfl rfl rfl rfl HCK.out (s26k HKK.out) ?_; (conv => arg 5; simp only [Act.put, List.setIfInBounds_toArray, List.set_cons_succ, List.set_cons_zero])) | (go_at_call 59; refine (Number59 m ts.length c A k _ (M.cell0 HC.out) HKK.out.1 HKK.out.2 hn).mono ?_; rw [HM.out]; rintro e6 w6 ⟨rfl, M6⟩; replace M := M.call M6.below; clear M6 HCK))
        go_round
        case rel => exact ⟨i + 1, bs, by omega, by go_num, M, HLN⟩
        case measure => simp [intOf]; omega
      · have HM := hid hm
        rw [show learnL bs k = bs.set q true from by rw [learnL, hbl, hm, if_pos (by omega), Int.toNat_natCast]] at HLN
        have hqI : (q : Int) < (ts.length : Int) := by omega
        have hqb : q < bs.length := by omega
        have hq0 : (0 : Int) ≤ (q : Int) := by omega
        clear hm hbl
        go_wp2_with (first | (refine wpList_ldagg 26 rfl Try.underlying26 rfl rfl rfl rfl HCK.out (s26k HKK.out) ?_; (conv => arg 5; simp only [Act.put, List.setIfInBounds_toArray, List.set_cons_succ, List.set_cons_zero])) | (go_at_call 59; refine (Number59 m ts.length c A k _ (M.cell0 HC.out) HKK.out.1 HKK.out.2 hn).mono ?_; rw [HM.out]; rintro e6 w6 ⟨rfl, M6⟩; replace M := M.call M6.below; clear M6 HCK) | (refine wpList_stM (v := .bool true) rfl rfl s4 rfl rfl rfl M Swap.head (by rw [bools, List.length_map]; exact hqb) (fun w3 M3 => ?_); clear M; (conv => arg 5; simp only [Act.put, List.setIfInBounds_toArray, List.set_cons_succ, List.set_cons_zero])))
        rw [bools_set] at M3
        go_round
        case rel => exact ⟨i + 1, _, by omega, by go_num, M3, HLN⟩
        case measure => simp [intOf]; omega
    · obtain rfl : i = seen.length := by omega
      go_wp2_with fail
      go_loopg [8] (2 * blank bs + 1) (fun q mo wr => ∃ (bs : List Bool) (b : Bool), mo = .bool b ∧ Mem w [] wr [.blk kb (cellsO 4 (bools bs))] ∧ Hid (FolI ts seen bs seen.length) ∧ Hid (b = false → ∀ (i : Nat) (t : Tm), ts[i]? = some t → DoneAt ts bs i t) ∧ Hid (2 * blank bs + oneB b = q))
      case atStart => exact ⟨bs, true, rfl, M, HF, hid fun h => (by cases h), hid rfl⟩
      case round =>
        obtain ⟨bs0, b0, rfl, M9, HF0, HD0, HQ0⟩ := hrel
        clear M HF
        have M := M9
        clear M9
        cases b0
        · go_wp2_with fail
          have hb0 : bs0.length = ts.length := HF0.out.len
          go_ret
          exact ⟨kb, bs0, by rw [hb0]; rfl, ref_done HF0.out HT.out.ok (HD0.out (by first | rfl | trivial)), M⟩
        · go_wp2_with fail
          go_loopw [8, 9] (fun mo x wr => ∃ (i : Nat) (b : Bool) (bs' : List Bool), i ≤ ts.length ∧ x = .int .i64 i ∧ mo = .bool b ∧ Mem w [] wr [.blk kb (cellsO 4 (bools bs'))] ∧ Hid (RefI ts bs0 bs' b i)) (fun _ x _ => ts.length - (intOf x).toNat)
          case atStart => exact ⟨0, false, bs0, by omega, rfl, rfl, M, hid (RefI.start ts bs0)⟩
          case round =>
            clear M
            obtain ⟨i, b, bs', hi, rfl, rfl, M, HI⟩ := hrel
            have cA := M.cell0 HC.out
            have HL := hid (show bs'.length = ts.length by rw [← HI.out.ge.len]; exact HF0.out.len)
            by_cases hlt2 : i < ts.length
            · have hltI : (i : Int) < (ts.length : Int) := by omega
              obtain ⟨t, hte⟩ : ∃ t, ts[i]? = some t := ⟨_, List.getElem?_eq_getElem hlt2⟩
              obtain ⟨v, hv⟩ : ∃ v, bs'[i]? = some v := ⟨_, List.getElem?_eq_getElem (by rw [HL.out]; exact hlt2)⟩
              have HTE := hid hte
              have HV := hid hv
              have cb := M.bs List.mem_cons_self i v hv
              have hiB : i < bs'.length := by rw [HL.out]; exact hlt2
              clear hte hv
              cases v
              · cases qm : madeM ts bs' t
                · have QM := hid qm
                  clear qm
                  go_upto_if 59 with (first | (apply wpList_want; (· rfl)) | (go_at_call 60; refine (made60N K m c e kb i A S ts bs' t _ (HT.out.below (M.sub (List.nil_sublist _)).below) (M.bs List.mem_cons_self) HL.out HTE.out (fun h => (HW.out t (List.mem_of_getElem? HTE.out)).k46 (.inl h))).mono ?_; rw [QM.out]; rintro e7 w7 ⟨rfl, M7⟩; replace M := M.call M7.below; clear M7 cb cA) | (go_at_call 61; refine (shown61N K m c e kb i A S ts bs' _ (HT.out.below (M.sub (List.nil_sublist _)).below) (M.bs List.mem_cons_self) HL.out HW.out (by omega)).mono ?_; rintro e7 w7 ⟨sb, rfl, sy, sn, M7⟩; replace M := M.call M7.below; have SY := hid sy; have SN := hid sn; clear M7 sy sn))
                  cases sb
                  · go_wp2_with fail
                    go_round
                    case rel => exact ⟨i + 1, b, bs', by omega, by go_num, rfl, M, hid (HI.out.skip HTE.out (.inr ⟨QM.out, fun j u hu => SN.out (by first | rfl | trivial) j u hu⟩))⟩
                    case measure => simp [intOf]; omega
                  · go_wp2_with ((refine wpList_stM (v := .bool true) rfl rfl s4 rfl rfl rfl M Swap.head (by rw [bools, List.length_map]; exact hiB) (fun w3 M3 => ?_); clear M; (conv => arg 5; simp only [Act.put, List.setIfInBounds_toArray, List.set_cons_succ, List.set_cons_zero])))
                    rw [bools_set] at M3
                    obtain ⟨j, u, hu, hs⟩ := SY.out (by first | rfl | trivial)
                    have HP := hid (HI.out.put HV.out (shown_put hu hs HL.out hlt2 hn))
                    clear hu hs
                    go_round
                    case rel => exact ⟨i + 1, true, bs'.set i true, by omega, by go_num, rfl, M3, HP⟩
                    case measure => simp [intOf]; omega
                · have QM := hid qm
                  have HP := hid (HI.out.put HV.out (made_put HTE.out qm))
                  clear qm
                  go_wp2_with (first | (apply wpList_want; (· rfl)) | (go_at_call 60; refine (made60N K m c e kb i A S ts bs' t _ (HT.out.below (M.sub (List.nil_sublist _)).below) (M.bs List.mem_cons_self) HL.out HTE.out (fun h => (HW.out t (List.mem_of_getElem? HTE.out)).k46 (.inl h))).mono ?_; rw [QM.out]; rintro e7 w7 ⟨rfl, M7⟩; replace M := M.call M7.below; clear M7 cb cA) | (refine wpList_stM (v := .bool true) rfl rfl s4 rfl rfl rfl M Swap.head (by rw [bools, List.length_map]; exact hiB) (fun w3 M3 => ?_); clear M; (conv => arg 5; simp only [Act.put, List.setIfInBounds_toArray, List.set_cons_succ, List.set_cons_zero])))
                  rw [bools_set] at M3
                  go_round
                  case rel => exact ⟨i + 1, true, bs'.set i true, by omega, by go_num, rfl, M3, HP⟩
                  case measure => simp [intOf]; omega
              · go_wp2_with (first | (apply wpList_want; (· rfl)))
                go_round
                case rel => exact ⟨i + 1, b, bs', by omega, by go_num, rfl, M, hid (HI.out.skip HTE.out (.inl (by rw [List.getD_eq_getElem?_getD, HV.out]; rfl)))⟩
                case measure => simp [intOf]; omega
            · obtain rfl : i = ts.length := by omega
              go_wp2_with fail
              go_roundg (2 * blank bs' + oneB b)
              case measure =>
                have := HQ0.out
                have h1 := HI.out
                cases b
                · have := (h1.no rfl).1
                  subst this
                  simp only [oneB] at *
                  simp at *
                  omega
                · have := h1.yes rfl
                  simp only [oneB] at *
                  simp at *
                  omega
              case rel => exact ⟨bs', b, rfl, M, hid (HF0.out.ref HI.out), hid (fun hb i t hi => by
                obtain ⟨he, hd⟩ := HI.out.no hb
                rw [he]
                exact hd i t (List.getElem?_eq_some_iff.1 hi).1 hi), hid rfl⟩
end Go.Proofs.Ytcapfnbmmdbcoaa
