/- TermMore: who knows more has more that follows, and what follows of what follows follows. -/
import Derived.Test.YtcapfnbmmdbcoaaG9
import Derived.Deep.CutBlock
set_option linter.unusedVariables false
set_option linter.unusedSimpArgs false
namespace Go.Proofs.Ytcapfnbmmdbcoaa
open Go.RowKit
/-! ### The plain law -/
def againL (bs : List Bool) (n : Nat) : List (List Int) := ((List.range n).filter fun i => bs.getD i false).map kn
theorem again_succ (bs : List Bool) (n : Nat) : againL bs (n + 1) = if bs.getD n false = true then againL bs n ++ [kn n] else againL bs n := by
  unfold againL
  rw [List.range_succ, List.filter_append, List.map_append]
  by_cases h : bs.getD n false = true
  · rw [if_pos h]; simp only [List.filter, h, List.map_cons, List.map_nil]
  · rw [if_neg h]
    have h' : bs.getD n false = false := by simpa using h
    simp only [List.filter, h', List.map_nil, List.append_nil]
theorem again_len (bs : List Bool) (n : Nat) : (againL bs n).length ≤ n := by
  rw [againL, List.length_map]
  exact Nat.le_trans (List.length_filter_le _ _) (by rw [List.length_range]; exact Nat.le_refl _)
theorem again_ok (bs : List Bool) (n : Nat) : ∀ k ∈ againL bs n, KeyOk k := fun k hk => by
  obtain ⟨i, _, rfl⟩ := List.mem_map.1 hk
  exact kn_ok i
theorem more_fg {ts : List Tm} {s l : List (List Int)} {bf bg : List Bool} (hf : Follows ts s bf) (hg : Follows ts l bg) (hs : ∀ k ∈ s, k ∈ l) (i : Nat) (h : bf.getD i false = true) : bg.getD i false = true :=
  (hf.least bg hg.len (fun k hk => hg.has k (hs k hk)) hg.closed).le i h
theorem more_h {ts : List Tm} {s : List (List Int)} {bf bh : List Bool} (hf : Follows ts s bf) (hh : Follows ts (againL bf ts.length) bh) (hl : ts.length ≤ 1000000) (i : Nat) : bh.getD i false = bf.getD i false := by
  have hfl := hf.len
  have hhl := hh.len
  have h1 : LeB bh bf := hh.least bf hf.len (fun k hk => by
    obtain ⟨j, hj, rfl⟩ := List.mem_map.1 hk
    obtain ⟨hj1, hj2⟩ := List.mem_filter.1 hj
    exact (knownK_kn (by rw [hfl]; exact List.mem_range.1 hj1) (by omega)).2 hj2) hf.closed
  have h2 : bf.getD i false = true → bh.getD i false = true := fun h => by
    have hi : i < bf.length := by
      rcases Nat.lt_or_ge i bf.length with h' | h'
      · exact h'
      · rw [List.getD_eq_getElem?_getD, List.getElem?_eq_none h'] at h; simp at h
    exact (knownK_kn (by omega) (by omega)).1 (hh.has (kn i) (List.mem_map.2 ⟨i, List.mem_filter.2 ⟨List.mem_range.2 (by omega), h⟩, rfl⟩))
  cases ha : bh.getD i false <;> cases hb : bf.getD i false
  · rfl
  · rw [h2 hb] at ha; exact ha.symm
  · rw [h1.le i ha] at hb; exact hb
  · rfl
section
variable {K K0 : Nat → Prop} {w w0 w1 : World} {P Q : Res} {L : List Item} {p g m n : Nat} {ts : List Tm} {keys : List (List Int)}
theorem Follow16P (h : TF K0 (starR (tabR g ts) Q) w0 w L) (hw : ∀ t ∈ ts, TmW t) {B : Option Addr} {n d : Nat} {seen : List (List Int)} (hn : n = seen.length) (hk : ∀ k ∈ seen, KeyOk k) (hl : seen.length ≤ 1000) (hr : RowT w 26 B (nums .u8 seen.flatten)) :
    Calls Try.prog 16 #[.pointer (some ⟨g, 0, none⟩), .slice B n d] w (FollowR ts seen w) := by
  subst hn
  obtain ⟨K, ⟨K1, K2, ⟨mb, A, c, T⟩, _⟩, _⟩ := h.ex
  exact Follow16 K1 g mb c d A B ts seen w T (fun t ht => (hw t ht).k46) hk hl hr
theorem has42P {E : List Nat} (M : Mem w0 E w L) {f hf kf mf : Nat} {Af : Option Addr} {bs : List Bool} (hin : ∀ x ∈ folL f hf kf Af mf bs, x ∈ L) {i : Nat} {b : Bool} (hb : bs.getD i false = b) (hi : i < bs.length) (hl : bs.length ≤ 1000000) :
    Calls Try.prog 42 #[.pointer (some ⟨f, 0, none⟩), .agg (nums .u8 (kn i)).toArray] w (BoolR b w) := by
  have := has42 _ _ _ _ _ _ (kn i) _ (M.fp hin) (kn_ok i) hl
  rw [hasM_kn hi hl, hb] at this
  exact this
end
set_option maxRecDepth 100000 in
set_option maxHeartbeats 8000000 in
theorem more7 (A I1 I2 : Option Addr) (d e1 e2 : Nat) (cs : List Sp) (seen more : List Int) (w : World) (h : SpsR w A cs) (h1 : RowC w I1 (nums .i64 seen)) (h2 : RowC w I2 (nums .i64 more)) :
    Calls Try.prog 7 #[.slice A cs.length d, .slice I1 seen.length e1, .slice I2 more.length e2] w (BoolR true w) := by
  have M0 := Mem.start w
  have HCS := hid h
  have HS := hid h1
  have HM := hid h2
  clear h h1 h2
  go_enter Try.func7, Try.ntmps7
  go_upto_block 0 with (first
    | (go_at_call 10; refine (alive10 _).mono ?_; rintro e w1 ⟨rfl, M1⟩; have M := M0.call M1.below; clear M0 M1)
    | (go_at_call 29; refine (begin29T M).mono ?_; rintro e w2 ⟨p, g, m, rfl, H⟩; clear M))
  go_cut [8] from 22 (fun _ wx => ∃ ts keys i, i ≤ 40 ∧ PI i ts keys ∧ TF (fun _ => False) (playS p g m ts keys) w wx [])
  case first =>
    go_wp2_with fail
    go_loopw [8] (fun x wr => ∃ (i : Nat) (ts : List Tm) (keys : List (List Int)), i ≤ cs.length ∧ i ≤ 40 ∧ x = .int .i64 i ∧ PI i ts keys ∧ TF (fun _ => False) (playS p g m ts keys) w wr []) (fun x _ => 40 - (intOf x).toNat)
    case atStart => exact ⟨0, _, _, by omega, by omega, rfl, PI.begin, H⟩
    case round =>
      clear H
      obtain ⟨i, ts, keys, hi, hi60, rfl, hpi, H⟩ := hrel
      have HPI := hid hpi
      clear hpi
      by_cases hlt : i < cs.length
      · have hltI : (i : Int) < (cs.length : Int) := by omega
        by_cases h6 : i < 40
        · have h6I : (i : Int) < 40 := by omega
          obtain ⟨c, hce⟩ : ∃ c, cs[i]? = some c := ⟨cs[i], List.getElem?_eq_getElem hlt⟩
          obtain ⟨b, off, I, ic, hA, hc, hr, hraw⟩ := HCS.out i c hce
          subst hA
          have HCC := hid (fun j v hv => H.cellO (hc j v hv) id)
          have HR := hid hr
          have HRAW := hid hraw
          clear hce hc hr hraw
          go_wp2_with (first
            | (refine wpList_ldagg 36 rfl Try.underlying66 rfl rfl rfl rfl HCC.out (sz66 HRAW.out) ?_; (conv => arg 5; simp only [Act.put, List.setIfInBounds_toArray, List.set_cons_succ, List.set_cons_zero]))
            | (go_at_call 30; refine (do30T H HPI.out (by omega) HRAW.out HR.out).mono ?_; clear H HCC; rintro e wn ⟨ts', keys', rfl, hp, H⟩))
          go_round
          case rel => exact ⟨i + 1, ts', keys', by omega, by omega, by go_num, hp, H⟩
          case measure => simp [intOf]; omega
        · obtain rfl : i = 40 := by omega
          have h6I : (40 : Int) < (cs.length : Int) := by omega
          go_wp2_with fail
          go_meet
          exact ⟨ts, keys, 40, by omega, HPI.out, H⟩
      · obtain rfl : i = cs.length := by omega
        go_wp2_with fail
        go_meet
        exact ⟨ts, keys, cs.length, by omega, HPI.out, H⟩
  case rest =>
    clear H
    obtain ⟨ts, keys, n, hn, hpi, H⟩ := hcut
    have hk1 := hpi.k1
    have hkl : keys.length ≤ 100000 := by have := hpi.kn; omega
    have htl : ts.length ≤ 80 := by have := hpi.tl; omega
    have HTW := hid hpi.tw
    have HKO := hid H.playOk
    have HAT := hid (fun i => atK_ok hk1 HKO.out i)
    clear hpi
    have H1 := H.step (ok3 _ _ _ _ _ _) (H.reb.nil 26 32)
    have H2 := H1.step (ok3 _ _ _ _ _ _) (H1.reb.nil 26 32)
    clear H H1
    rename TF _ _ _ _ _ => H
    go_upto_block 2 with fail
    go_cut [9, 11] from 38 (fun s9 _ wx => ∃ (s : List (List Int)) (B : Option Addr) (d : Nat), s9 = .slice B s.length d ∧ s.length ≤ 8 ∧ (∀ k ∈ s, KeyOk k) ∧ TF (fun _ => False) (playS p g m ts keys) w wx [.vec B s.length d 26 32 (nums .u8 s.flatten), .vec none 0 0 26 32 []])
    case first =>
      go_wp2_with fail
      go_loopw [9, 11] (fun o x wr => ∃ (i : Nat) (B : Option Addr) (d : Nat), i ≤ seen.length ∧ i ≤ 8 ∧ x = .int .i64 i ∧ o = .slice B i d ∧ TF (fun _ => False) (playS p g m ts keys) w wr [.vec B i d 26 32 (nums .u8 ((seen.take i).map (atK keys)).flatten), .vec none 0 0 26 32 []]) (fun _ x _ => 8 - (intOf x).toNat)
      case atStart => exact ⟨0, none, 0, by omega, by omega, rfl, rfl, H⟩
      case round =>
        clear H
        obtain ⟨i, B, d, hi, hi8, rfl, rfl, H⟩ := hrel
        have hml : ((seen.take i).map (atK keys)).length = i := by rw [List.length_map, List.length_take]; omega
        have hmk : ∀ k ∈ (seen.take i).map (atK keys), KeyOk k := fun k hk => by obtain ⟨j, _, rfl⟩ := List.mem_map.1 hk; exact HAT.out j
        by_cases hlt : i < seen.length
        · have hltI : (i : Int) < (seen.length : Int) := by omega
          by_cases h6 : i < 8
          · have h6I : (i : Int) < 8 := by omega
            obtain ⟨a, hae⟩ : ∃ a, seen[i]? = some a := ⟨_, List.getElem?_eq_getElem hlt⟩
            obtain ⟨bi, oi, hIe, hcell⟩ := (H.rowC HS.out (fun _ _ _ h => h)).cell (i := i) (v := .int .i64 a) (by simp [nums, hae])
            subst hIe
            have h2 : (seen.take (i + 1)).map (atK keys) = (seen.take i).map (atK keys) ++ [atK keys a] := by
              obtain ⟨hl, he⟩ := List.getElem?_eq_some_iff.1 hae
              rw [List.take_succ_eq_append_getElem hl, he]
              simp
            have HH2 := hid h2
            have HMK := hid hmk
            clear h2 hae hmk
            go_wp2_with (first
              | (go_at_call 31; refine (at31T H hk1 hkl a).mono ?_; rintro e wn ⟨rfl, MM⟩; replace H := H.call0 (ok3 _ _ _ _ _ _) MM; clear MM hcell)
              | (refine wpF_bsK1 55 H (ok3 _ _ _ _ _ _) rfl rfl rfl rfl (HAT.out a) (fun b55 wn Hn => ?_); clear H; rename TF _ _ _ _ _ => H; (conv => arg 5; simp only [Act.put, List.setIfInBounds_toArray, List.set_cons_succ, List.set_cons_zero]))
              | (refine wpF_appK (ks := (seen.take i).map (atK keys)) (qs := [atK keys a]) 56 H (ok3 _ _ _ _ _ _) rfl rfl rfl rfl rfl (fun A' cap' => Swap.tail Swap.head) (H.reb.blkT List.mem_cons_self) (one_ok (HAT.out a)) (by simp only [List.length_singleton]; omega) (fun A7 c7 wn Hn => ?_); clear H; rename TF _ _ _ _ _ => H; (conv => arg 5; simp only [Act.put, List.setIfInBounds_toArray, List.set_cons_succ, List.set_cons_zero])))
            go_round
            case rel =>
              refine ⟨i + 1, A7, c7, by omega, by omega, by go_num, rfl, ?_⟩
              rw [HH2.out]
              exact H.sub (by (repeat (first | exact List.Sublist.refl _ | apply List.Sublist.cons_cons | apply List.Sublist.cons)))
            case measure => simp [intOf]; omega
          · obtain rfl : i = 8 := by omega
            have h6I : (8 : Int) < (seen.length : Int) := by omega
            have HML := hid hml
            have HMK := hid hmk
            clear hml hmk
            go_wp2_with fail
            go_meet
            exact ⟨(seen.take 8).map (atK keys), B, d, by rw [HML.out], by rw [HML.out]; omega, HMK.out, by rw [HML.out]; exact H⟩
        · obtain rfl : i = seen.length := by omega
          have HML := hid hml
          have HMK := hid hmk
          clear hml hmk
          go_wp2_with fail
          go_meet
          exact ⟨(seen.take seen.length).map (atK keys), B, d, by rw [HML.out], by rw [HML.out]; omega, HMK.out, by rw [HML.out]; exact H⟩
    case rest =>
      clear H
      obtain ⟨s, B, d, rfl, hs8, hsk, H⟩ := hcut
      have HSK := hid hsk
      clear hsk
      go_upto_block 4 with (first
        | (refine wpF_appK (ks := []) (qs := s) 59 H (ok3 _ _ _ _ _ _) rfl rfl rfl rfl rfl (fun A' cap' => Swap.tail Swap.head) (H.reb.vecT List.mem_cons_self) HSK.out (by omega) (fun A6 c6 wn Hn => ?_); clear H; rename TF _ _ _ _ _ => H; simp only [Nat.zero_add, List.nil_append] at H ⊢; (conv => arg 5; simp only [Act.put, List.setIfInBounds_toArray, List.set_cons_succ, List.set_cons_zero])))
      go_cut [10, 12] from 60 (fun s10 _ wx => ∃ (l : List (List Int)) (C : Option Addr) (f : Nat), s10 = .slice C l.length f ∧ l.length ≤ 16 ∧ (∀ k ∈ l, KeyOk k) ∧ (∀ k ∈ s, k ∈ l) ∧ TF (fun _ => False) (playS p g m ts keys) w wx [.vec B s.length d 26 32 (nums .u8 s.flatten), .vec C l.length f 26 32 (nums .u8 l.flatten)])
      case first =>
        go_wp2_with fail
        go_loopw [10, 12] (fun o x wr => ∃ (i : Nat) (C : Option Addr) (f : Nat), i ≤ more.length ∧ i ≤ 8 ∧ x = .int .i64 i ∧ o = .slice C (s.length + i) f ∧ TF (fun _ => False) (playS p g m ts keys) w wr [.vec B s.length d 26 32 (nums .u8 s.flatten), .vec C (s.length + i) f 26 32 (nums .u8 (s ++ (more.take i).map (atK keys)).flatten)]) (fun _ x _ => 8 - (intOf x).toNat)
        case atStart => exact ⟨0, A6, c6, by omega, by omega, rfl, rfl, by rw [List.take_zero, List.map_nil, List.append_nil]; exact H⟩
        case round =>
          clear H
          obtain ⟨i, C, f, hi, hi8, rfl, rfl, H⟩ := hrel
          have hml : (s ++ (more.take i).map (atK keys)).length = s.length + i := by rw [List.length_append, List.length_map, List.length_take]; omega
          have hmk : ∀ k ∈ s ++ (more.take i).map (atK keys), KeyOk k := fun k hk => by
            rcases List.mem_append.1 hk with hk | hk
            · exact HSK.out k hk
            · obtain ⟨j, _, rfl⟩ := List.mem_map.1 hk; exact HAT.out j
          by_cases hlt : i < more.length
          · have hltI : (i : Int) < (more.length : Int) := by omega
            by_cases h6 : i < 8
            · have h6I : (i : Int) < 8 := by omega
              obtain ⟨a, hae⟩ : ∃ a, more[i]? = some a := ⟨_, List.getElem?_eq_getElem hlt⟩
              obtain ⟨bi, oi, hIe, hcell⟩ := (H.rowC HM.out (fun _ _ _ h => h)).cell (i := i) (v := .int .i64 a) (by simp [nums, hae])
              subst hIe
              have h2 : s ++ (more.take (i + 1)).map (atK keys) = (s ++ (more.take i).map (atK keys)) ++ [atK keys a] := by
                obtain ⟨hl, he⟩ := List.getElem?_eq_some_iff.1 hae
                rw [List.take_succ_eq_append_getElem hl, he]
                simp
              have HH2 := hid h2
              clear h2 hae hmk
              go_wp2_with (first
                | (go_at_call 31; refine (at31T H hk1 hkl a).mono ?_; rintro e wn ⟨rfl, MM⟩; replace H := H.call0 (ok3 _ _ _ _ _ _) MM; clear MM hcell)
                | (refine wpF_bsK1 77 H (ok3 _ _ _ _ _ _) rfl rfl rfl rfl (HAT.out a) (fun b77 wn Hn => ?_); clear H; rename TF _ _ _ _ _ => H; (conv => arg 5; simp only [Act.put, List.setIfInBounds_toArray, List.set_cons_succ, List.set_cons_zero]))
                | (refine wpF_appK (ks := s ++ (more.take i).map (atK keys)) (qs := [atK keys a]) 78 H (ok3 _ _ _ _ _ _) rfl rfl rfl rfl rfl (fun A' cap' => Swap.tail (Swap.tail Swap.head)) (H.reb.blkT List.mem_cons_self) (one_ok (HAT.out a)) (by simp only [List.length_singleton]; omega) (fun A7 c7 wn Hn => ?_); clear H; rename TF _ _ _ _ _ => H; (conv => arg 5; simp only [Act.put, List.setIfInBounds_toArray, List.set_cons_succ, List.set_cons_zero])))
              go_round
              case rel =>
                refine ⟨i + 1, A7, c7, by omega, by omega, by go_num, rfl, ?_⟩
                rw [HH2.out]
                exact H.sub (by (repeat (first | exact List.Sublist.refl _ | apply List.Sublist.cons_cons | apply List.Sublist.cons)))
              case measure => simp [intOf]; omega
            · obtain rfl : i = 8 := by omega
              have h6I : (8 : Int) < (more.length : Int) := by omega
              have HML := hid hml
              have HMK := hid hmk
              clear hml hmk
              go_wp2_with fail
              go_meet
              exact ⟨s ++ (more.take 8).map (atK keys), C, f, by rw [HML.out], by rw [HML.out]; omega, HMK.out, fun k hk => List.mem_append_left _ hk, by rw [HML.out]; exact H⟩
          · obtain rfl : i = more.length := by omega
            have HML := hid hml
            have HMK := hid hmk
            clear hml hmk
            go_wp2_with fail
            go_meet
            exact ⟨s ++ (more.take more.length).map (atK keys), C, f, by rw [HML.out], by rw [HML.out]; omega, HMK.out, fun k hk => List.mem_append_left _ hk, by rw [HML.out]; exact H⟩
      case rest =>
        clear H
        obtain ⟨l, C, f, rfl, hl16, hlk, hsl, H⟩ := hcut
        have HLK := hid hlk
        have HSL := hid hsl
        clear hlk hsl
        go_wp2_with fail
        refine wp_region_planTP [] (PlayC p g m) (.free 0 (.free 1 (.free 2 (.free 3 (.free 4 (.free 6 (.free 7 (.free 8 (.free 9 (.free 10 (.one 5 (.one 11 (.free 12 (.free 13 (.done))))))))))))))) (by kernel_rfl) (by kernel_rfl) (fun _ _ _ _ _ h => h) H (ok3 _ _ _ _ _ _) ?_
        clear H
        intro ops Q HO HQ wr H _
        have hops := HO.out
        subst hops
        (refine wpT_free rfl rfl (.inl ⟨rfl, fun w _ => by go_simp; rfl⟩) (by exact H.stP (by (repeat (first | exact List.Sublist.refl _ | apply List.Sublist.cons_cons | apply List.Sublist.cons)))) ?_; (conv => arg 6; simp only [Act.put, List.setIfInBounds_toArray, List.set_cons_succ, List.set_cons_zero]))
        (refine wpT_free rfl rfl (.inl ⟨rfl, fun w _ => by go_simp; rfl⟩) (by exact H.stP (by (repeat (first | exact List.Sublist.refl _ | apply List.Sublist.cons_cons | apply List.Sublist.cons)))) ?_; (conv => arg 6; simp only [Act.put, List.setIfInBounds_toArray, List.set_cons_succ, List.set_cons_zero]))
        (refine wpT_free rfl rfl (.inl ⟨rfl, fun w _ => by go_simp; rfl⟩) (by exact H.stP (by (repeat (first | exact List.Sublist.refl _ | apply List.Sublist.cons_cons | apply List.Sublist.cons)))) ?_; (conv => arg 6; simp only [Act.put, List.setIfInBounds_toArray, List.set_cons_succ, List.set_cons_zero]))
        (refine wpT_free rfl rfl (.inl ⟨rfl, fun w hw => run_ld1 Try.underlying23 rfl rfl rfl hw.2.1⟩) (by exact H.stP (by (repeat (first | exact List.Sublist.refl _ | apply List.Sublist.cons_cons | apply List.Sublist.cons)))) ?_; (conv => arg 6; simp only [Act.put, List.setIfInBounds_toArray, List.set_cons_succ, List.set_cons_zero]))
        (refine wpT_free rfl rfl (.inl ⟨rfl, fun w _ => by go_simp; rfl⟩) (by exact H.stP (by (repeat (first | exact List.Sublist.refl _ | apply List.Sublist.cons_cons | apply List.Sublist.cons)))) ?_; (conv => arg 6; simp only [Act.put, List.setIfInBounds_toArray, List.set_cons_succ, List.set_cons_zero]))
        (refine wpT_free rfl rfl (.inl ⟨rfl, fun w _ => by go_simp; rfl⟩) (by exact H.stP (by (repeat (first | exact List.Sublist.refl _ | apply List.Sublist.cons_cons | apply List.Sublist.cons)))) ?_; (conv => arg 6; simp only [Act.put, List.setIfInBounds_toArray, List.set_cons_succ, List.set_cons_zero]))
        (refine wpT_free rfl rfl (.inl ⟨rfl, fun w _ => by go_simp; rfl⟩) (by exact H.stP (by (repeat (first | exact List.Sublist.refl _ | apply List.Sublist.cons_cons | apply List.Sublist.cons)))) ?_; (conv => arg 6; simp only [Act.put, List.setIfInBounds_toArray, List.set_cons_succ, List.set_cons_zero]))
        (refine wpT_free rfl rfl (.inl ⟨rfl, fun w _ => by go_simp; rfl⟩) (by exact H.stP (by (repeat (first | exact List.Sublist.refl _ | apply List.Sublist.cons_cons | apply List.Sublist.cons)))) ?_; (conv => arg 6; simp only [Act.put, List.setIfInBounds_toArray, List.set_cons_succ, List.set_cons_zero]))
        (refine wpT_free rfl rfl (.inl ⟨rfl, fun w hw => run_ld1 Try.underlying23 rfl rfl rfl hw.2.1⟩) (by exact H.stP (by (repeat (first | exact List.Sublist.refl _ | apply List.Sublist.cons_cons | apply List.Sublist.cons)))) ?_; (conv => arg 6; simp only [Act.put, List.setIfInBounds_toArray, List.set_cons_succ, List.set_cons_zero]))
        (refine wpT_free rfl rfl (.inl ⟨rfl, fun w _ => by go_simp; rfl⟩) (by exact H.stP (by (repeat (first | exact List.Sublist.refl _ | apply List.Sublist.cons_cons | apply List.Sublist.cons)))) ?_; (conv => arg 6; simp only [Act.put, List.setIfInBounds_toArray, List.set_cons_succ, List.set_cons_zero]))
        refine wpT_op rfl ?_
        go_wp2_with (go_at_call 16; refine (Follow16P H HTW.out (seen := s) rfl HSK.out (by omega) (H.reb.vecT List.mem_cons_self)).mono ?_; rintro e wn ⟨cf, hf, kf, mf, Af, bf, rfl, FF, M16⟩; replace H := H.call (ok3 _ _ _ _ _ _) M16; have HFF := hid FF; clear M16 FF)
        refine PlanTQ.mk (by exact H.stP (by (repeat (first | exact List.Sublist.refl _ | apply List.Sublist.cons_cons | apply List.Sublist.cons)))) ?_
        refine wpT_op rfl ?_
        go_wp2_with (go_at_call 16; refine (Follow16P H HTW.out (seen := l) rfl HLK.out (by omega) (H.reb.vecT (List.mem_append_right _ (List.mem_cons_of_mem _ List.mem_cons_self)))).mono ?_; rintro e wn ⟨cg, hg, kg, mg, Ag, bg, rfl, FG, M16⟩; replace H := H.call (ok3 _ _ _ _ _ _) M16; have HFG := hid FG; clear M16 FG)
        refine PlanTQ.mk (by exact H.stP (by (repeat (first | exact List.Sublist.refl _ | apply List.Sublist.cons_cons | apply List.Sublist.cons)))) ?_
        (refine wpT_free rfl rfl (.inl ⟨rfl, fun w _ => by go_simp; rfl⟩) (by exact H.stP (by (repeat (first | exact List.Sublist.refl _ | apply List.Sublist.cons_cons | apply List.Sublist.cons)))) ?_; (conv => arg 6; simp only [Act.put, List.setIfInBounds_toArray, List.set_cons_succ, List.set_cons_zero]))
        (refine wpT_free rfl rfl (.inl ⟨rfl, fun w _ => by go_simp; rfl⟩) (by exact H.stP (by (repeat (first | exact List.Sublist.refl _ | apply List.Sublist.cons_cons | apply List.Sublist.cons)))) ?_; (conv => arg 6; simp only [Act.put, List.setIfInBounds_toArray, List.set_cons_succ, List.set_cons_zero]))
        refine wpT_done ?_
        rw [HQ.out]
        have hbf : bf.length = ts.length := HFF.out.len
        have hbg : bg.length = ts.length := HFG.out.len
        have HFGL := hid (more_fg HFF.out HFG.out HSL.out)
        replace H := H.sub (L' := folL cg hg kg Ag mg bg ++ folL cf hf kf Af mf bf) (List.Sublist.append (List.Sublist.refl _) (List.sublist_append_left _ _))
        replace H := H.step (ok3 _ _ _ _ _ _) (H.reb.nil 26 32)
        go_wp2_with fail
        go_loopw [15, 16] (fun o x wr => ∃ (i : Nat) (D : Option Addr) (f : Nat), i ≤ ts.length ∧ x = .int .i64 i ∧ o = .slice D (againL bf i).length f ∧ TF (fun _ => False) (playS p g m ts keys) w wr (.vec D (againL bf i).length f 26 32 (nums .u8 (againL bf i).flatten) :: (folL cg hg kg Ag mg bg ++ folL cf hf kf Af mf bf))) (fun _ x _ => ts.length - (intOf x).toNat)
        case atStart => exact ⟨0, none, 0, by omega, rfl, rfl, H⟩
        case round =>
          clear H
          obtain ⟨i, D, f2, hi, rfl, rfl, H⟩ := hrel
          obtain ⟨cp, _⟩ := H.playC
          have hal := again_len bf i
          by_cases hlt : i < ts.length
          · have hltI : (i : Int) < (ts.length : Int) := by omega
            have hs := again_succ bf i
            by_cases hb : bf.getD i false = true
            · rw [if_pos hb] at hs
              have HB := hid hb
              have HG := hid (HFGL.out i hb)
              have HS2 := hid hs
              clear hb hs
              go_upto_region 24 with (first
                | (go_at_call 26; refine (Len26P H).mono ?_; rintro e wn ⟨rfl, MM⟩; replace H := H.call0 (ok3 _ _ _ _ _ _) MM; clear MM cp)
                | (go_at_call 32; refine (kn_Name _ (by omega)).mono ?_; rintro e wn ⟨rfl, MM⟩; replace H := H.call0 (ok3 _ _ _ _ _ _) MM; clear MM)
                | (go_at_call 42; refine (has42P H.reb (fun x hx => List.mem_cons_of_mem _ (List.mem_append_right _ hx)) HB.out (by omega) (by omega)).mono ?_; rintro e wn ⟨rfl, MM⟩; replace H := H.call0 (ok3 _ _ _ _ _ _) MM; clear MM))
              go_wp2_with (first
                | (go_at_call 32; refine (kn_Name _ (by omega)).mono ?_; rintro e wn ⟨rfl, MM⟩; replace H := H.call0 (ok3 _ _ _ _ _ _) MM; clear MM)
                | (refine wpF_bsK1 107 H (ok3 _ _ _ _ _ _) rfl rfl rfl rfl (kn_ok i) (fun b107 wn Hn => ?_); clear H; rename TF _ _ _ _ _ => H; (conv => arg 5; simp only [Act.put, List.setIfInBounds_toArray, List.set_cons_succ, List.set_cons_zero]))
                | (refine wpF_appK (ks := againL bf i) (qs := [kn i]) 108 H (ok3 _ _ _ _ _ _) rfl rfl rfl rfl rfl (fun A' cap' => Swap.tail Swap.head) (H.reb.blkT List.mem_cons_self) (one_ok (kn_ok i)) (by simp only [List.length_singleton]; omega) (fun A7 c7 wn Hn => ?_); clear H; rename TF _ _ _ _ _ => H; (conv => arg 5; simp only [Act.put, List.setIfInBounds_toArray, List.set_cons_succ, List.set_cons_zero]))
                | (go_at_call 42; refine (has42P H.reb (fun x hx => List.mem_cons_of_mem _ (List.mem_cons_of_mem _ (List.mem_append_left _ hx))) HG.out (by omega) (by omega)).mono ?_; rintro e wn ⟨rfl, MM⟩; replace H := H.call0 (ok3 _ _ _ _ _ _) MM; clear MM))
              go_round
              case rel =>
                refine ⟨i + 1, A7, c7, by omega, by go_num, ?_, ?_⟩
                · rw [HS2.out, List.length_append]; rfl
                · rw [HS2.out, List.length_append]
                  exact H.sub (List.Sublist.cons _ (List.Sublist.refl _))
              case measure => simp [intOf]; omega
            · rw [if_neg hb] at hs
              have HB := hid (show bf.getD i false = false by simpa using hb)
              have HS2 := hid hs
              clear hb hs
              go_wp2_with (first
                | (go_at_call 26; refine (Len26P H).mono ?_; rintro e wn ⟨rfl, MM⟩; replace H := H.call0 (ok3 _ _ _ _ _ _) MM; clear MM cp)
                | (go_at_call 32; refine (kn_Name _ (by omega)).mono ?_; rintro e wn ⟨rfl, MM⟩; replace H := H.call0 (ok3 _ _ _ _ _ _) MM; clear MM)
                | (go_at_call 42; refine (has42P H.reb (fun x hx => List.mem_cons_of_mem _ (List.mem_append_right _ hx)) HB.out (by omega) (by omega)).mono ?_; rintro e wn ⟨rfl, MM⟩; replace H := H.call0 (ok3 _ _ _ _ _ _) MM; clear MM))
              go_round
              case rel => exact ⟨i + 1, D, f2, by omega, by go_num, by rw [HS2.out], by rw [HS2.out]; exact H⟩
              case measure => simp [intOf]; omega
          · obtain rfl : i = ts.length := by omega
            go_wp2_with (first
              | (go_at_call 26; refine (Len26P H).mono ?_; rintro e wn ⟨rfl, MM⟩; replace H := H.call0 (ok3 _ _ _ _ _ _) MM; clear MM cp; obtain ⟨cp, _⟩ := H.playC)
              | (go_at_call 16; refine (Follow16P H HTW.out (seen := againL bf ts.length) rfl (again_ok _ _) (by omega) (H.reb.vecT List.mem_cons_self)).mono ?_; rintro e wn ⟨ch, hh, kh, mh, Ah, bh, rfl, FH, M16⟩; replace H := H.call (ok3 _ _ _ _ _ _) M16; have HFH := hid (more_h HFF.out FH (by omega)); have hbh : bh.length = ts.length := FH.len; clear M16 FH cp))
            replace H := H.sub (L' := folL ch hh kh Ah mh bh ++ folL cf hf kf Af mf bf) (List.Sublist.append (List.Sublist.refl _) (List.Sublist.cons _ (List.sublist_append_right _ _)))
            go_loopw [18] (fun x wr => ∃ j : Nat, j ≤ ts.length ∧ x = .int .i64 j ∧ TF (fun _ => False) (playS p g m ts keys) w wr (folL ch hh kh Ah mh bh ++ folL cf hf kf Af mf bf)) (fun x _ => ts.length - (intOf x).toNat)
            case atStart => exact ⟨0, by omega, rfl, H⟩
            case round =>
              clear H
              obtain ⟨j, hj, rfl, H⟩ := hrel
              obtain ⟨cp, _⟩ := H.playC
              by_cases hlt2 : j < ts.length
              · have hltI : (j : Int) < (ts.length : Int) := by omega
                obtain ⟨v, hv⟩ : ∃ v, v = bf.getD j false := ⟨_, rfl⟩
                have HBF := hid hv.symm
                have HBH := hid (show bh.getD j false = v by rw [hv]; exact HFH.out j)
                clear hv
                cases v
                · go_wp2_with (first
                    | (go_at_call 26; refine (Len26P H).mono ?_; rintro e wn ⟨rfl, MM⟩; replace H := H.call0 (ok3 _ _ _ _ _ _) MM; clear MM cp)
                    | (go_at_call 32; refine (kn_Name _ (by omega)).mono ?_; rintro e wn ⟨rfl, MM⟩; replace H := H.call0 (ok3 _ _ _ _ _ _) MM; clear MM)
                    | (go_at_call 42; refine (has42P H.reb (by first | exact (fun x hx => List.mem_append_left _ hx) | exact (fun x hx => List.mem_append_right _ hx)) (by first | exact HBH.out | exact HBF.out) (by omega) (by omega)).mono ?_; rintro e wn ⟨rfl, MM⟩; replace H := H.call0 (ok3 _ _ _ _ _ _) MM; clear MM))
                  go_round
                  case rel => exact ⟨j + 1, by omega, by go_num, H⟩
                  case measure => simp [intOf]; omega
                · go_wp2_with (first
                    | (go_at_call 26; refine (Len26P H).mono ?_; rintro e wn ⟨rfl, MM⟩; replace H := H.call0 (ok3 _ _ _ _ _ _) MM; clear MM cp)
                    | (go_at_call 32; refine (kn_Name _ (by omega)).mono ?_; rintro e wn ⟨rfl, MM⟩; replace H := H.call0 (ok3 _ _ _ _ _ _) MM; clear MM)
                    | (go_at_call 42; refine (has42P H.reb (by first | exact (fun x hx => List.mem_append_left _ hx) | exact (fun x hx => List.mem_append_right _ hx)) (by first | exact HBH.out | exact HBF.out) (by omega) (by omega)).mono ?_; rintro e wn ⟨rfl, MM⟩; replace H := H.call0 (ok3 _ _ _ _ _ _) MM; clear MM))
                  go_round
                  case rel => exact ⟨j + 1, by omega, by go_num, H⟩
                  case measure => simp [intOf]; omega
              · obtain rfl : j = ts.length := by omega
                go_wp2_with (first
                  | (go_at_call 26; refine (Len26P H).mono ?_; rintro e wn ⟨rfl, MM⟩; replace H := H.call0 (ok3 _ _ _ _ _ _) MM; clear MM cp)
                  | (go_at_call 10; refine (alive10 _).mono ?_; rintro e wn ⟨rfl, MM⟩; replace H := H.call0 (ok3 _ _ _ _ _ _) MM; clear MM))
                go_ret
                exact ⟨rfl, H.toMem.sub (List.nil_sublist _)⟩
theorem TermMore7 (A I1 I2 : Option Addr) (d e1 e2 : Nat) (cs : List Sp) (seen more : List Int) (w : World) (h : SpsR w A cs) (h1 : RowC w I1 (nums .i64 seen)) (h2 : RowC w I2 (nums .i64 more)) :
    Calls Try.prog 7 #[.slice A cs.length d, .slice I1 seen.length e1, .slice I2 more.length e2] w fun e w' => e = .returned (.bool true) ∧ Below w.heap.size w w' :=
  (more7 A I1 I2 d e1 e2 cs seen more w h h1 h2).mono fun e w' ⟨he, M⟩ => ⟨he, M.below⟩
end Go.Proofs.Ytcapfnbmmdbcoaa
namespace Go.Proofs.Ytcapfnbmmdbcoaa
open Go.RowKit Go.ChangeShapes Go.WideShapes Go.Deep
set_option maxRecDepth 100000 in
/-- A slice of numbers among the arguments. -/
theorem opened_ints {H : Type} {enc : TypeId × Value → H} {W : World} {base : Nat} {v : Value} {d : DataW H} {p : List MemPlace} (hv : Value.okWide Try.prog W Reach.any base 53 v) (h : DataW.Trod enc Try.prog W 0 (fun _ => true) true 53 v d p) :
    ∃ (A : Option Addr) (cap : Nat) (zs : List Int), v = .slice A zs.length cap ∧ RowC W A (nums .i64 zs) := by
  obtain ⟨a0, len0, cap0, rfl⟩ := Go.WideShapes.okWide_slice Try.underlying53 hv
  obtain ⟨fuel, hf⟩ := h
  obtain ⟨I, ic, zs, e, hr, _, _⟩ := open_rowC Try.underlying53 Try.underlying3 cells_of66.2.1 hf
  have e' : Value.slice a0 len0 cap0 = .slice I zs.length ic := by simpa [Value.cells] using e
  exact ⟨I, ic, zs, e', hr⟩
end Go.Proofs.Ytcapfnbmmdbcoaa
