/- Walks of the relay layer's laws: RelayKeeps. -/
import Derived.Test.YtbofobkpplncaaaB14
import Derived.Laws.Strings
set_option linter.unusedVariables false
set_option linter.unusedSimpArgs false
namespace Go.Proofs.Ytbofobkpplncaaa
open Go.RowKit
theorem z26 : (Try.prog.info? 26).map (·.zero) = some (some (.agg nil8.toArray)) := by kernel_rfl
theorem KeepS.zero {w w' : World} {g h : Nat} (R : RS w' g 28 boxes0 nil8) (hh : w'.heap[h]? = some (cellsO 26 nil8)) : KeepS w.heap.size w' g h boxes0 boxes0 nil8 nil8 := by
  have nb : ∀ (i : Nat) (v : Value), nil8[i]? = some v → v = .slice none 0 0 := fun i v hv => by
    have := List.mem_of_getElem? hv
    exact List.eq_of_mem_replicate this
  refine ⟨R, hh, rfl, rfl, fun i G hG => ?_, fun i j v u b hij hi hj hb => ?_, fun i j n c ad u hv1 hn hu => ?_⟩
  · obtain ⟨A, c, e1, e2, e3, e4, e5⟩ := R.2.2.2 i G hG
    have hGe : G = [] := List.eq_of_mem_replicate (List.mem_of_getElem? hG)
    subst hGe
    exact ⟨none, 0, by rw [e1, nb i _ e1]; rfl, World.ownsRow_nil w' 0 9 1, fun ad h => by cases h⟩
  · rw [nb i v hi] at hb
    simp [Value.ownBlock] at hb
  · rw [nb j u hu]
    simp [Value.ownBlock]
theorem str_ne {s t : ByteArray} (h : s ≠ t) : (s.toList == t.toList) = false := by
  rw [beq_eq_false_iff_ne, ByteArray.toList_eq, ByteArray.toList_eq]
  exact fun e => h (ByteArray.ext (Array.toList_inj.1 e))
set_option maxRecDepth 100000 in
set_option maxHeartbeats 4000000 in
theorem RelayKeeps5 (A : Option Addr) (cap : Nat) (acts : List ActV) (w : World) (hA : ActsR w A acts) (hs : ∀ a ∈ acts, a.s.size ≤ maxLen) (hn : acts.length ≤ maxLen) :
    Calls Try.prog 5 #[.slice A acts.length cap] w fun e w' => e = .returned (.bool true) ∧ Below w.heap.size w w' := by
  have M0 := Mem.start w
  go_enter Try.func5, Try.ntmps5
  go_wp2_with (first | (go_at_call 6; refine (alive6 _).mono ?_; rintro e w1 ⟨rfl, M1⟩) | (apply wpList_bld b28; (· rfl); (· rfl); (· rfl); (conv => arg 5; simp only [Act.put, List.setIfInBounds_toArray, List.set_cons_succ, List.set_cons_zero])) | (refine wpList_bx rfl rfl M1 rfl (cs := nil8) rfl (fun b18 w2 M2 => ?_); clear M1; (conv => arg 5; simp only [Act.put, List.setIfInBounds_toArray, List.set_cons_succ, List.set_cons_zero])) | (refine wpList_al rfl rfl M2 z26 rfl (fun b4 w3 M3 => ?_); clear M2; (conv => arg 5; simp only [Act.put, List.setIfInBounds_toArray, List.set_cons_succ, List.set_cons_zero])))
  have hne : b4 ≠ b18 := fun e => by
    have h := (List.pairwise_cons.1 M3.apart).1 (.blk b18 (cellsO 28 nil8)) List.mem_cons_self b4 rfl
    rw [e] at h
    exact h rfl
  have hb18 : w.heap.size ≤ b18 := (M3.fresh _ (List.mem_cons_of_mem _ List.mem_cons_self) b18 rfl).resolve_left (by simp)
  have hb4 : w.heap.size ≤ b4 := (M3.fresh _ List.mem_cons_self b4 rfl).resolve_left (by simp)
  have K1 : KeepS w.heap.size w3 b18 b4 boxes0 boxes0 nil8 nil8 := KeepS.zero (RS.zero (M3.holds _ (List.mem_cons_of_mem _ List.mem_cons_self))) (M3.holds _ List.mem_cons_self)
  have B3 := M3.below
  clear M3 M0
  go_loopw [5] (fun n wr => ∃ (i : Nat) (X H : Boxes) (v1 hv : List Value), i ≤ acts.length ∧ n = .int .i64 i ∧ KeepS w.heap.size wr b18 b4 X H v1 hv ∧ Hid (SubA X H) ∧ Hid (∀ (t : Nat) (G : List ByteArray), H[t]? = some G → G.length ≤ i) ∧ Below w.heap.size w wr) (fun n _ => acts.length - (intOf n).toNat)
  case atStart => exact ⟨0, boxes0, boxes0, nil8, nil8, by omega, rfl, K1, hid (fun t L G hL _ x hx => by
    have hLe : L = [] := List.eq_of_mem_replicate (List.mem_of_getElem? hL)
    subst hLe
    cases hx), hid (fun t G hG => by
    have hGe : G = [] := List.eq_of_mem_replicate (List.mem_of_getElem? hG)
    subst hGe
    exact Nat.le_refl _), B3⟩
  case round =>
    clear K1 B3
    obtain ⟨i, X, H, v1, hv, hi, rfl, K, HSUB, HLEN, B⟩ := hrel
    by_cases hlt : i < acts.length
    · have hltI : (i : Int) < (acts.length : Int) := by omega
      by_cases h150 : i < 150
      · have h150I : (i : Int) < 150 := by omega
        obtain ⟨a, ha⟩ : ∃ a, acts[i]? = some a := ⟨acts[i], List.getElem?_eq_getElem hlt⟩
        have hsz := hs a (List.mem_of_getElem? ha)
        obtain ⟨b, off, rfl, hcs⟩ := hA i a ha
        have HCS := hid (fun (j : Nat) (v : Value) (hv : a.cs[j]? = some v) => below_cell B (hcs j v hv))
        have hb18r : b18 < wr.heap.size := (Array.getElem?_eq_some_iff.1 K.rs.1).1
        have hb4r : b4 < wr.heap.size := (Array.getElem?_eq_some_iff.1 K.hh).1
        have M1 := Mem.start wr
        clear ha hcs hA hs
        by_cases h1000 : a.s.size ≤ 1000
        · have h1000I : ¬ (1000 : Int) < (a.s.size : Int) := by omega
          have h7 := fun w' (h : RS w' b18 28 X v1) => Do7 b18 a.kind a.to a.i a.k a.s X v1 w' h
          by_cases hk0 : a.kind.tmod 5 = 0
          · by_cases hin : inA a.to
            · simp only [step_post hk0 hin] at h7
              obtain ⟨k, hk⟩ := Int.eq_ofNat_of_zero_le hin.1
              have hk8 : k < 8 := by have := hin.2; omega
              obtain ⟨X', hX'⟩ : ∃ x, x = X.set a.to.toNat (postL (X.getD a.to.toNat []) a.s) := ⟨_, rfl⟩
              rw [← hX'] at h7
              have HX := hid hX'
              clear hX'
              have H7 := hid h7
              have HK := hid hk
              clear h7 hk hin
              go_wp2_with (first | (refine wpList_ldagg 32 rfl Try.underlying33 rfl rfl rfl rfl (cs := a.cs) (fun j v hv => HCS.out j v hv) sz33 ?_; (conv => arg 5; simp only [Act.put, List.setIfInBounds_toArray, List.set_cons_succ, List.set_cons_zero])) | (refine wpList_al rfl rfl M1 z33 rfl (fun b6 w1 M2 => ?_); clear M1; (conv => arg 5; simp only [Act.put, List.setIfInBounds_toArray, List.set_cons_succ, List.set_cons_zero])) | (refine wpList_strow rfl rfl rfl rfl (vs := a.cs) M2 Swap.head sz33 rfl (box33 _ _ _ _ _) (fun w2 M3 => ?_); clear M2; (conv => arg 5; simp only [Act.put, List.setIfInBounds_toArray, List.set_cons_succ, List.set_cons_zero]); have hact : actAt w2 b6 a := M3.holds _ List.mem_cons_self; have hb6 : wr.heap.size ≤ b6 := (M3.fresh _ List.mem_cons_self b6 rfl).resolve_left (by simp); have HACT := hid hact; clear hact; have c4 := HACT.out.cell 4 _ rfl) | (refine wpList_ldagg 39 rfl Try.underlying33 rfl rfl rfl rfl (off := 0) (cs := a.cs) (fun j v hv => by rw [Nat.zero_add]; exact HACT.out.cell j v hv) sz33 ?_; (conv => arg 5; simp only [Act.put, List.setIfInBounds_toArray, List.set_cons_succ, List.set_cons_zero])) | (go_at_call 7; refine (H7.out _ (K.below M3.below).rs).mono ?_; rintro e w3 ⟨rfl, hact7⟩; clear c4 H7; have HAW := hid hact7; obtain ⟨v1z, _, hg1, _⟩ := hact7; have HA3 := hid (HACT.out.grown hg1 (by omega)); have c0 := HA3.out.cell 0 _ rfl; have B1 := below_grown (B.trans (M3.below.mono B.size)) rfl hg1 hb18; clear hg1))
              obtain ⟨v1y, K3⟩ := (K.below M3.below).act hne HAW.out
              obtain ⟨G, hG⟩ : ∃ G, H[k]? = some G := ⟨H[k]'(by rw [K3.Hl]; exact hk8), List.getElem?_eq_getElem _⟩
              obtain ⟨A1, c1, g1, g2, g3⟩ := K3.own k G hG
              have hGl := HLEN.out k G hG
              have hkI8 : (k : Int) < 8 := by omega
              have HG := hid hG
              have HK3 := hid K3
              have Hg1 := hid g1
              have Hg2 := hid g2
              clear c0 hG K3 g1 g2
              refine wp_region_planS (fun w' => actAt w' b6 a) (.free 0 (.free 1 (.free 2 (.free 3 (.free 4 (.free 6 (.free 7 (.two 5 (.one 8 (.one 9 (.free 10 (.one 11 (.done))))) 8 (.one 5 (.one 9 (.free 10 (.one 11 (.done))))))))))))) (by kernel_rfl) (by kernel_rfl) (fun _ _ _ _ _ h => h) (fun w4 hb34 => ?_)
              have K4 := HK3.out.below hb34
              have HA4 := HA3.out.below hb34
              have B4 := B1.trans (hb34.mono B1.size)
              have hS := HA4
              refine wpT_free rfl rfl (.inl ⟨rfl, fun w _ => by go_simp; rfl⟩) hS ?_; (conv => arg 6; simp only [Act.put, List.setIfInBounds_toArray, List.set_cons_succ, List.set_cons_zero])
              refine wpT_free (v := .int .i64 (k : Int)) rfl rfl (.inl ⟨rfl, fun w hw => run_ld1 Try.underlying3 rfl rfl rfl (by rw [← HK.out]; exact actAt.cell hw 1 _ rfl)⟩) hS ?_; (conv => arg 6; simp only [Act.put, List.setIfInBounds_toArray, List.set_cons_succ, List.set_cons_zero])
              refine wpT_free rfl rfl (.inl ⟨rfl, fun w _ => by go_simp; rfl⟩) hS ?_; (conv => arg 6; simp only [Act.put, List.setIfInBounds_toArray, List.set_cons_succ, List.set_cons_zero])
              refine wpT_free (v := .int .i64 (k : Int)) rfl rfl (.inl ⟨rfl, fun w hw => run_ld1 Try.underlying3 rfl rfl rfl (by rw [← HK.out]; exact actAt.cell hw 1 _ rfl)⟩) hS ?_; (conv => arg 6; simp only [Act.put, List.setIfInBounds_toArray, List.set_cons_succ, List.set_cons_zero])
              refine wpT_free rfl rfl (.inl ⟨rfl, fun w _ => by go_simp; rfl⟩) hS ?_; (conv => arg 6; simp only [Act.put, List.setIfInBounds_toArray, List.set_cons_succ, List.set_cons_zero])
              refine wpT_free rfl rfl (.inl ⟨rfl, fun w _ => by go_simp; rfl⟩) hS ?_; (conv => arg 6; simp only [Act.put, List.setIfInBounds_toArray, List.set_cons_succ, List.set_cons_zero])
              refine wpT_free rfl rfl (.inl ⟨rfl, fun w hw => run_ld1 Try.underlying9 rfl rfl rfl (actAt.cell hw 4 _ rfl)⟩) hS ?_; (conv => arg 6; simp only [Act.put, List.setIfInBounds_toArray, List.set_cons_succ, List.set_cons_zero])
              have hown4 : w4.ownsRow 0 9 1 (.slice A1 G.length c1) G.length (strs G) := World.ownsRow.kept Hg2.out (grown_of_below hb34 none) (by cases h : Value.ownBlock (.slice A1 G.length c1) <;> simp)
              have HOWN := hid hown4
              have M5 := Mem.startV hown4
              have hkl : k < hv.length := by rw [K4.hl]; exact hk8
              clear hown4
              refine wpT_two rfl rfl ?_ ?_
              · have hcell := RS.cell K4.hh Hg1.out
                go_wp2_with fail
                clear hcell
                refine PlanTQ.mk HA4 (wpT_op rfl ?_)
                go_wp2_with (first | (apply wpList_bsT1 59; (· rfl); (· rfl); (· rfl); (· rfl); (· exact M5); intro b59 w5 M6; (conv => arg 5; simp only [Act.put, List.setIfInBounds_toArray, List.set_cons_succ, List.set_cons_zero])))
                have HA5 := HA4.row M6 HOWN.out (by decide)
                refine PlanTQ.mk HA5 (wpT_op rfl ?_)
                go_wp2_with (first | (refine wpList_appSm 60 rfl Try.underlying25 i9 rfl (by decide) rfl rfl rfl rfl M6 (fun A' cap' => Swap.tail Swap.head) (M6.blkT List.mem_cons_self) rfl (strs_one [a.s]) (by omega) (by omega) (fun A2 c2 w6 M7 => ?_); (conv => arg 5; simp only [Act.put, List.setIfInBounds_toArray, List.set_cons_succ, List.set_cons_zero])))
                rw [← strs_append] at M7
                have HA6 := HA4.row M7 HOWN.out (by decide)
                have hS6 := HA6
                refine PlanTQ.mk HA6 ?_
                refine wpT_free rfl rfl (.inl ⟨rfl, fun w _ => by go_simp; rfl⟩) hS6 ?_; (conv => arg 6; simp only [Act.put, List.setIfInBounds_toArray, List.set_cons_succ, List.set_cons_zero])
                refine wpT_op rfl ?_
                have hh6 : w6.heap[b4]? = some (cellsO 26 hv) := by rw [M7.old b4 (Array.getElem?_eq_some_iff.1 K4.hh).1 (blk_not HOWN.out K4.hh (by decide)), K4.hh]
                have HH6 := hid hh6
                clear hh6
                go_wp2_with (first | (refine wpList_stH rfl rfl s25 rfl rfl rfl HH6.out hkl (fun w7 hgr hh7 => ?_); (conv => arg 5; simp only [Act.put, List.setIfInBounds_toArray, List.set_cons_succ, List.set_cons_zero])))
                have HA7 := HA6.grown hgr (by omega)
                have K7 := K4.put hne B4.size HG.out Hg1.out M7 (List.mem_cons_of_mem _ List.mem_cons_self) hgr hh7
                have B7 := below_grown (below_row B4 M7 g3) rfl hgr hb4
                have HK7 := hid K7
                clear K7 hh7
                refine PlanTQ.mk HA7 (wpT_done ?_)
                obtain ⟨L, hLd⟩ : ∃ L, L = postL (X.getD k []) a.s := ⟨_, rfl⟩
                have hXk : X'[k]? = some L := by rw [HX.out, HK.out, Int.toNat_natCast, List.getElem?_set_self (by rw [K.rs.2.2.1]; exact hk8), hLd]
                have hlast := postL_last (X.getD k []) a.s
                rw [← hLd] at hlast
                obtain ⟨q, hq⟩ : ∃ q, L.length = q + 1 := ⟨L.length - 1, by omega⟩
                have hlast2 := hlast.2
                rw [show L.length - 1 = q from by omega] at hlast2
                have HM := hid (MailRS HK7.out.rs hXk hk8 w7 (Mem.start w7))
                have hL40 : L.length ≤ 40 := by
                  obtain ⟨_, _, _, _, _, _, h40⟩ := HK7.out.rs.2.2.2 k L hXk
                  exact h40
                have hSUB2 : SubA X' (H.set k (G ++ [a.s])) := by
                  have := step_sub_post HSUB.out k G a.s HG.out
                  rw [HX.out, HK.out, Int.toNat_natCast]
                  exact this
                have hLEN2 : ∀ (t : Nat) (G' : List ByteArray), (H.set k (G ++ [a.s]))[t]? = some G' → G'.length ≤ i + 1 := fun t G' hG' => by
                  by_cases htk : k = t
                  · subst htk
                    rw [List.getElem?_set_self (by rw [K.Hl]; exact hk8)] at hG'
                    injection hG' with hG'
                    subst hG'
                    simp
                    omega
                  · rw [List.getElem?_set_ne htk] at hG'
                    exact Nat.le_succ_of_le (HLEN.out t G' hG')
                obtain ⟨H2, hH2⟩ : ∃ x, x = H.set k (G ++ [a.s]) := ⟨_, rfl⟩
                rw [← hH2] at HK7 hSUB2 hLEN2
                obtain ⟨hv2, hhv2⟩ : ∃ x, x = hv.set k (.slice A2 (G.length + 1) c2) := ⟨_, rfl⟩
                rw [← hhv2] at HK7
                have HSUB2 := hid hSUB2
                have HLEN2 := hid hLEN2
                have HLAST := hid hlast2
                have HQ := hid hq
                have hlenI : ((L.length : Int) == 0) = false := by rw [beq_eq_false_iff_ne]; omega
                have hm1 : IntKind.i64.wrap ((L.length : Int) - 1) = (q : Int) := by rw [IntWalk.i64_in _ (by omega)]; omega
                have hm2 : (q : Int) < (L.length : Int) := by omega
                have c1x := HA7.cell 1 _ rfl
                rw [HK.out] at c1x
                clear hLd hXk hlast hq hlast2 hL40 hSUB2 hLEN2 hH2 hhv2
                go_wp2_with (go_at_call 12; refine HM.out.mono ?_; rintro e w8 ⟨A8, c8, rfl, _, _, r8, hb8, _⟩; clear c1x)
                obtain ⟨bm, om, hA8, hcm⟩ := r8.cell (strs_get HLAST.out)
                subst hA8
                have HCM := hid hcm
                have HA8 := hid ((HA7.below hb8).cell 4 _ rfl)
                have M8 := Mem.start w8
                clear hcm r8
                refine wp_region_planT (.free 0 (.free 1 (.free 2 (.free 3 (.free 4 (.free 5 (.free 6 (.free 7 (.free 8 (.free 9 (.free 10 (.free 11 (.free 12 (.free 13 (.done))))))))))))))) (by kernel_rfl) (by kernel_rfl) (fun _ _ _ _ _ h => h) M8 (fun w9 M9 => ?_)
                clear M8
                iterate 9 (refine wpT_free rfl rfl (.inl ⟨rfl, fun w _ => by go_simp; rfl⟩) (by assumption) ?_; (conv => arg 6; simp only [Act.put, List.setIfInBounds_toArray, List.set_cons_succ, List.set_cons_zero]))
                refine wpT_free rfl rfl (.inl ⟨rfl, fun w hw => run_ld1 Try.underlying9 rfl rfl rfl (hw.cell0 HCM.out)⟩) (by assumption) ?_; (conv => arg 6; simp only [Act.put, List.setIfInBounds_toArray, List.set_cons_succ, List.set_cons_zero])
                (refine wpT_free rfl rfl (.inl ⟨rfl, fun w _ => by go_simp; rfl⟩) (by assumption) ?_; (conv => arg 6; simp only [Act.put, List.setIfInBounds_toArray, List.set_cons_succ, List.set_cons_zero]))
                refine wpT_free rfl rfl (.inl ⟨rfl, fun w hw => run_ld1 Try.underlying9 rfl rfl rfl (hw.cell0 HA8.out)⟩) (by assumption) ?_; (conv => arg 6; simp only [Act.put, List.setIfInBounds_toArray, List.set_cons_succ, List.set_cons_zero])
                (refine wpT_free rfl rfl (.inl ⟨rfl, fun w _ => by go_simp; rfl⟩) (by assumption) ?_; (conv => arg 6; simp only [Act.put, List.setIfInBounds_toArray, List.set_cons_succ, List.set_cons_zero]))
                (refine wpT_free rfl rfl (.inl ⟨rfl, fun w _ => by go_simp; rfl⟩) (by assumption) ?_; (conv => arg 6; simp only [Act.put, List.setIfInBounds_toArray, List.set_cons_succ, List.set_cons_zero]))
                refine wpT_done ?_
                have KX := hid ((HK7.out.below hb8).below M9.below)
                have BX := (B7.trans (hb8.mono B7.size)).trans (M9.below.mono (Nat.le_trans B7.size hb8.size))
                clear hlenI hm1 hm2
                go_wp2_with fail
                go_loopw [10] (fun n wt => ∃ t : Nat, t ≤ 8 ∧ n = .int .i64 t ∧ Mem _ [] wt []) (fun n _ => 8 - (intOf n).toNat)
                case atStart => exact ⟨0, by omega, rfl, Mem.start _⟩
                case round =>
                  obtain ⟨t, ht, rfl, Mt⟩ := hrel
                  by_cases ht8 : t < 8
                  · have ht8I : (t : Int) < 8 := by omega
                    obtain ⟨L, hL⟩ : ∃ L, X'[t]? = some L := ⟨X'[t]'(by rw [KX.out.rs.2.2.1]; exact ht8), List.getElem?_eq_getElem _⟩
                    obtain ⟨G, hG⟩ : ∃ G, H2[t]? = some G := ⟨H2[t]'(by rw [KX.out.Hl]; exact ht8), List.getElem?_eq_getElem _⟩
                    obtain ⟨_, _, _, _, _, _, hL40⟩ := KX.out.rs.2.2.2 t L hL
                    have HSB := hid (HSUB2.out t L G hL hG)
                    have hGl := HLEN2.out t G hG
                    obtain ⟨AG, cG, g1, g2, _⟩ := KX.out.own t G hG
                    have HM := hid (fun w' => MailRS KX.out.rs hL ht8 w')
                    have HCH := hid (RS.cell KX.out.hh g1)
                    have HRG := hid (owns_rowT g2)
                    have hL40I : ¬ (40 : Int) < (L.length : Int) := by omega
                    clear hL hG g1 g2
                    go_wp2_with (go_at_call 12; refine (HM.out _ Mt).mono ?_; rintro e wm ⟨A9, c9, rfl, _, _, r9, hb9, _⟩; replace Mt := Mt.call hb9)
                    have HR9 := hid r9
                    have HCM := hid (Mt.cell0 HCH.out)
                    have HRM := hid (HRG.out.mem Mt)
                    clear r9
                    go_loopw [12] (fun n wk => ∃ q : Nat, q ≤ L.length ∧ n = .int .i64 q ∧ Mem wm [] wk []) (fun n _ => L.length - (intOf n).toNat)
                    case atStart => exact ⟨0, by omega, rfl, Mem.start _⟩
                    case round =>
                      obtain ⟨q, hq, rfl, Mq⟩ := hrel
                      by_cases hql : q < L.length
                      · have hqlI : (q : Int) < (L.length : Int) := by omega
                        obtain ⟨x, hx⟩ : ∃ x, L[q]? = some x := ⟨L[q], List.getElem?_eq_getElem hql⟩
                        have hxG : x ∈ G := HSB.out x (List.mem_of_getElem? hx)
                        have HXG := hid hxG
                        obtain ⟨bm, om, hA9, hcx⟩ := HR9.out.cell (strs_get hx)
                        subst hA9
                        have HCX := hid (Mq.cell0 hcx)
                        have HCK := hid (Mq.cell0 HCM.out)
                        have HRK := hid (HRM.out.mem Mq)
                        clear hxG hcx hx
                        go_wp2_with fail
                        go_loopw [13, 14] (fun v n wn => ∃ (p : Nat) (b0 : Bool), p ≤ G.length ∧ n = .int .i64 p ∧ v = .bool b0 ∧ Hid (b0 = true ↔ x ∈ G.take p) ∧ Mem _ [] wn []) (fun _ n _ => G.length - (intOf n).toNat)
                        case atStart => exact ⟨0, false, by omega, rfl, rfl, hid (by simp), Mem.start _⟩
                        case round =>
                          obtain ⟨p, b0, hp, rfl, rfl, hb0, Mp⟩ := hrel
                          have hcell := Mp.cell0 HCK.out
                          by_cases hpl : p < G.length
                          · have hplI : (p : Int) < (G.length : Int) := by omega
                            obtain ⟨y, hy⟩ : ∃ y, G[p]? = some y := ⟨G[p], List.getElem?_eq_getElem hpl⟩
                            have htk : G.take (p + 1) = G.take p ++ [y] := by
                              rw [List.take_succ_eq_append_getElem hpl]
                              rw [List.getElem?_eq_getElem hpl] at hy
                              injection hy with hy
                              rw [hy]
                            obtain ⟨bg, og, hAG, hcg⟩ := HRK.out.cell (strs_get hy)
                            subst hAG
                            have HCG := hid hcg
                            have HTK := hid htk
                            clear hy htk hcg
                            cases b0 with
                            | true =>
                              go_wp2_with fail
                              clear hcell
                              refine wp_region_planT (.free 0 (.free 1 (.free 2 (.free 3 (.free 4 (.free 5 (.free 6 (.free 7 (.free 8 (.free 9 (.free 10 (.free 11 (.free 12 (.free 13 (.free 14 (.done)))))))))))))))) (by kernel_rfl) (by kernel_rfl) (fun _ _ _ _ _ h => h) Mp (fun wz Mz => ?_)
                              clear Mp
                              (refine wpT_free rfl rfl (.inl ⟨rfl, fun w _ => by go_simp; rfl⟩) (by assumption) ?_; (conv => arg 6; simp only [Act.put, List.setIfInBounds_toArray, List.set_cons_succ, List.set_cons_zero]))
                              (refine wpT_free rfl rfl (.inl ⟨rfl, fun w _ => by go_simp; rfl⟩) (by assumption) ?_; (conv => arg 6; simp only [Act.put, List.setIfInBounds_toArray, List.set_cons_succ, List.set_cons_zero]))
                              iterate 11 (refine wpT_free rfl rfl (.inr ⟨rfl, rfl⟩) (by assumption) ?_; (conv => arg 6; simp only [Act.put, List.setIfInBounds_toArray, List.set_cons_succ, List.set_cons_zero]))
                              (refine wpT_free rfl rfl (.inl ⟨rfl, fun w _ => by go_simp; rfl⟩) (by assumption) ?_; (conv => arg 6; simp only [Act.put, List.setIfInBounds_toArray, List.set_cons_succ, List.set_cons_zero]))
                              (refine wpT_free rfl rfl (.inl ⟨rfl, fun w _ => by go_simp; rfl⟩) (by assumption) ?_; (conv => arg 6; simp only [Act.put, List.setIfInBounds_toArray, List.set_cons_succ, List.set_cons_zero]))
                              refine wpT_done ?_
                              go_wp2_with fail
                              go_roundw
                              case rel => exact ⟨p + 1, true, by omega, by go_num, rfl, hid (by
                                have := hb0.out
                                rw [HTK.out, List.mem_append]
                                have hm : x ∈ G.take p := by first | exact this.1 rfl | exact this.1 trivial
                                simp [hm]), Mz⟩
                              case measure => simp [intOf]; omega
                            | false =>
                              by_cases hyx : y = x
                              · subst hyx
                                go_wp2_with fail
                                clear hcell
                                refine wp_region_planT (.free 0 (.free 1 (.free 2 (.free 3 (.free 4 (.free 5 (.free 6 (.free 7 (.free 8 (.free 9 (.free 10 (.free 11 (.free 12 (.free 13 (.free 14 (.done)))))))))))))))) (by kernel_rfl) (by kernel_rfl) (fun _ _ _ _ _ h => h) Mp (fun wz Mz => ?_)
                                clear Mp
                                iterate 4 (refine wpT_free rfl rfl (.inl ⟨rfl, fun w _ => by go_simp; rfl⟩) (by assumption) ?_; (conv => arg 6; simp only [Act.put, List.setIfInBounds_toArray, List.set_cons_succ, List.set_cons_zero]))
                                refine wpT_free rfl rfl (.inl ⟨rfl, fun w hw => run_ld1 Try.underlying25 rfl rfl rfl (hw.cell0 HCK.out)⟩) (by assumption) ?_; (conv => arg 6; simp only [Act.put, List.setIfInBounds_toArray, List.set_cons_succ, List.set_cons_zero])
                                iterate 2 (refine wpT_free rfl rfl (.inl ⟨rfl, fun w _ => by go_simp; rfl⟩) (by assumption) ?_; (conv => arg 6; simp only [Act.put, List.setIfInBounds_toArray, List.set_cons_succ, List.set_cons_zero]))
                                refine wpT_free rfl rfl (.inl ⟨rfl, fun w hw => run_ld1 Try.underlying9 rfl rfl rfl (hw.cell0 HCG.out)⟩) (by assumption) ?_; (conv => arg 6; simp only [Act.put, List.setIfInBounds_toArray, List.set_cons_succ, List.set_cons_zero])
                                iterate 3 (refine wpT_free rfl rfl (.inl ⟨rfl, fun w _ => by go_simp; rfl⟩) (by assumption) ?_; (conv => arg 6; simp only [Act.put, List.setIfInBounds_toArray, List.set_cons_succ, List.set_cons_zero]))
                                refine wpT_free rfl rfl (.inl ⟨rfl, fun w hw => run_ld1 Try.underlying9 rfl rfl rfl (hw.cell0 HCX.out)⟩) (by assumption) ?_; (conv => arg 6; simp only [Act.put, List.setIfInBounds_toArray, List.set_cons_succ, List.set_cons_zero])
                                iterate 3 (refine wpT_free rfl rfl (.inl ⟨rfl, fun w _ => by go_simp; rfl⟩) (by assumption) ?_; (conv => arg 6; simp only [Act.put, List.setIfInBounds_toArray, List.set_cons_succ, List.set_cons_zero]))
                                refine wpT_done ?_
                                go_wp2_with fail
                                go_roundw
                                case rel => exact ⟨p + 1, true, by omega, by go_num, rfl, hid (by rw [HTK.out]; simp), Mz⟩
                                case measure => simp [intOf]; omega
                              · have hse : (y.toList == x.toList) = false := str_ne hyx
                                go_wp2_with fail
                                clear hcell
                                refine wp_region_planT (.free 0 (.free 1 (.free 2 (.free 3 (.free 4 (.free 5 (.free 6 (.free 7 (.free 8 (.free 9 (.free 10 (.free 11 (.free 12 (.free 13 (.free 14 (.done)))))))))))))))) (by kernel_rfl) (by kernel_rfl) (fun _ _ _ _ _ h => h) Mp (fun wz Mz => ?_)
                                clear Mp
                                iterate 4 (refine wpT_free rfl rfl (.inl ⟨rfl, fun w _ => by go_simp; rfl⟩) (by assumption) ?_; (conv => arg 6; simp only [Act.put, List.setIfInBounds_toArray, List.set_cons_succ, List.set_cons_zero]))
                                refine wpT_free rfl rfl (.inl ⟨rfl, fun w hw => run_ld1 Try.underlying25 rfl rfl rfl (hw.cell0 HCK.out)⟩) (by assumption) ?_; (conv => arg 6; simp only [Act.put, List.setIfInBounds_toArray, List.set_cons_succ, List.set_cons_zero])
                                iterate 2 (refine wpT_free rfl rfl (.inl ⟨rfl, fun w _ => by go_simp; rfl⟩) (by assumption) ?_; (conv => arg 6; simp only [Act.put, List.setIfInBounds_toArray, List.set_cons_succ, List.set_cons_zero]))
                                refine wpT_free rfl rfl (.inl ⟨rfl, fun w hw => run_ld1 Try.underlying9 rfl rfl rfl (hw.cell0 HCG.out)⟩) (by assumption) ?_; (conv => arg 6; simp only [Act.put, List.setIfInBounds_toArray, List.set_cons_succ, List.set_cons_zero])
                                iterate 3 (refine wpT_free rfl rfl (.inl ⟨rfl, fun w _ => by go_simp; rfl⟩) (by assumption) ?_; (conv => arg 6; simp only [Act.put, List.setIfInBounds_toArray, List.set_cons_succ, List.set_cons_zero]))
                                refine wpT_free rfl rfl (.inl ⟨rfl, fun w hw => run_ld1 Try.underlying9 rfl rfl rfl (hw.cell0 HCX.out)⟩) (by assumption) ?_; (conv => arg 6; simp only [Act.put, List.setIfInBounds_toArray, List.set_cons_succ, List.set_cons_zero])
                                iterate 3 (refine wpT_free rfl rfl (.inl ⟨rfl, fun w _ => by go_simp; rfl⟩) (by assumption) ?_; (conv => arg 6; simp only [Act.put, List.setIfInBounds_toArray, List.set_cons_succ, List.set_cons_zero]))
                                refine wpT_done ?_
                                go_wp2_with fail
                                go_roundw
                                case rel => exact ⟨p + 1, false, by omega, by go_num, rfl, hid (by
                                  have := hb0.out
                                  rw [HTK.out, List.mem_append, List.mem_singleton]
                                  constructor
                                  · intro h; cases h
                                  · rintro (h | h)
                                    · exact absurd (this.2 h) (by decide)
                                    · exact absurd h.symm hyx), Mz⟩
                                case measure => simp [intOf]; omega
                          · obtain rfl : p = G.length := by omega
                            obtain rfl : b0 = true := hb0.out.2 (by rw [List.take_of_length_le (Nat.le_refl _)]; exact HXG.out)
                            go_wp2_with fail
                            go_roundw
                            case rel => exact ⟨q + 1, by omega, by go_num, Mq.call Mp.below⟩
                            case measure => simp [intOf]; omega
                      · obtain rfl : q = L.length := by omega
                        go_wp2_with fail
                        go_roundw
                        case rel => exact ⟨t + 1, by omega, by go_num, Mt.call Mq.below⟩
                        case measure => simp [intOf]; omega
                  · obtain rfl : t = 8 := by omega
                    go_wp2_with fail
                    go_roundw
                    case rel => exact ⟨i + 1, X', H2, _, _, by omega, by go_num, KX.out.below Mt.below, HSUB2, HLEN2, BX.trans (Mt.below.mono BX.size)⟩
                    case measure => simp [intOf]; omega
              ·
                go_wp2_with (first | (apply wpList_bsT1 59; (· rfl); (· rfl); (· rfl); (· rfl); (· exact M5); intro b59 w5 M6; (conv => arg 5; simp only [Act.put, List.setIfInBounds_toArray, List.set_cons_succ, List.set_cons_zero])))
                have HA5 := HA4.row M6 HOWN.out (by decide)
                have hh5 : w5.heap[b4]? = some (cellsO 26 hv) := by rw [M6.old b4 (Array.getElem?_eq_some_iff.1 K4.hh).1 (blk_not HOWN.out K4.hh (by decide)), K4.hh]
                have hcell := RS.cell hh5 Hg1.out
                clear hh5
                refine PlanTQ.mk HA5 (wpT_op rfl ?_)
                go_wp2_with fail
                clear hcell
                refine PlanTQ.mk HA5 (wpT_op rfl ?_)
                go_wp2_with (first | (refine wpList_appSm 60 rfl Try.underlying25 i9 rfl (by decide) rfl rfl rfl rfl M6 (fun A' cap' => Swap.tail Swap.head) (M6.blkT List.mem_cons_self) rfl (strs_one [a.s]) (by omega) (by omega) (fun A2 c2 w6 M7 => ?_); (conv => arg 5; simp only [Act.put, List.setIfInBounds_toArray, List.set_cons_succ, List.set_cons_zero])))
                rw [← strs_append] at M7
                have HA6 := HA4.row M7 HOWN.out (by decide)
                have hS6 := HA6
                refine PlanTQ.mk HA6 ?_
                refine wpT_free rfl rfl (.inl ⟨rfl, fun w _ => by go_simp; rfl⟩) hS6 ?_; (conv => arg 6; simp only [Act.put, List.setIfInBounds_toArray, List.set_cons_succ, List.set_cons_zero])
                refine wpT_op rfl ?_
                have hh6 : w6.heap[b4]? = some (cellsO 26 hv) := by rw [M7.old b4 (Array.getElem?_eq_some_iff.1 K4.hh).1 (blk_not HOWN.out K4.hh (by decide)), K4.hh]
                have HH6 := hid hh6
                clear hh6
                go_wp2_with (first | (refine wpList_stH rfl rfl s25 rfl rfl rfl HH6.out hkl (fun w7 hgr hh7 => ?_); (conv => arg 5; simp only [Act.put, List.setIfInBounds_toArray, List.set_cons_succ, List.set_cons_zero])))
                have HA7 := HA6.grown hgr (by omega)
                have K7 := K4.put hne B4.size HG.out Hg1.out M7 (List.mem_cons_of_mem _ List.mem_cons_self) hgr hh7
                have B7 := below_grown (below_row B4 M7 g3) rfl hgr hb4
                have HK7 := hid K7
                clear K7 hh7
                refine PlanTQ.mk HA7 (wpT_done ?_)
                obtain ⟨L, hLd⟩ : ∃ L, L = postL (X.getD k []) a.s := ⟨_, rfl⟩
                have hXk : X'[k]? = some L := by rw [HX.out, HK.out, Int.toNat_natCast, List.getElem?_set_self (by rw [K.rs.2.2.1]; exact hk8), hLd]
                have hlast := postL_last (X.getD k []) a.s
                rw [← hLd] at hlast
                obtain ⟨q, hq⟩ : ∃ q, L.length = q + 1 := ⟨L.length - 1, by omega⟩
                have hlast2 := hlast.2
                rw [show L.length - 1 = q from by omega] at hlast2
                have HM := hid (MailRS HK7.out.rs hXk hk8 w7 (Mem.start w7))
                have hL40 : L.length ≤ 40 := by
                  obtain ⟨_, _, _, _, _, _, h40⟩ := HK7.out.rs.2.2.2 k L hXk
                  exact h40
                have hSUB2 : SubA X' (H.set k (G ++ [a.s])) := by
                  have := step_sub_post HSUB.out k G a.s HG.out
                  rw [HX.out, HK.out, Int.toNat_natCast]
                  exact this
                have hLEN2 : ∀ (t : Nat) (G' : List ByteArray), (H.set k (G ++ [a.s]))[t]? = some G' → G'.length ≤ i + 1 := fun t G' hG' => by
                  by_cases htk : k = t
                  · subst htk
                    rw [List.getElem?_set_self (by rw [K.Hl]; exact hk8)] at hG'
                    injection hG' with hG'
                    subst hG'
                    simp
                    omega
                  · rw [List.getElem?_set_ne htk] at hG'
                    exact Nat.le_succ_of_le (HLEN.out t G' hG')
                obtain ⟨H2, hH2⟩ : ∃ x, x = H.set k (G ++ [a.s]) := ⟨_, rfl⟩
                rw [← hH2] at HK7 hSUB2 hLEN2
                obtain ⟨hv2, hhv2⟩ : ∃ x, x = hv.set k (.slice A2 (G.length + 1) c2) := ⟨_, rfl⟩
                rw [← hhv2] at HK7
                have HSUB2 := hid hSUB2
                have HLEN2 := hid hLEN2
                have HLAST := hid hlast2
                have HQ := hid hq
                have hlenI : ((L.length : Int) == 0) = false := by rw [beq_eq_false_iff_ne]; omega
                have hm1 : IntKind.i64.wrap ((L.length : Int) - 1) = (q : Int) := by rw [IntWalk.i64_in _ (by omega)]; omega
                have hm2 : (q : Int) < (L.length : Int) := by omega
                have c1x := HA7.cell 1 _ rfl
                rw [HK.out] at c1x
                clear hLd hXk hlast hq hlast2 hL40 hSUB2 hLEN2 hH2 hhv2
                go_wp2_with (go_at_call 12; refine HM.out.mono ?_; rintro e w8 ⟨A8, c8, rfl, _, _, r8, hb8, _⟩; clear c1x)
                obtain ⟨bm, om, hA8, hcm⟩ := r8.cell (strs_get HLAST.out)
                subst hA8
                have HCM := hid hcm
                have HA8 := hid ((HA7.below hb8).cell 4 _ rfl)
                have M8 := Mem.start w8
                clear hcm r8
                refine wp_region_planT (.free 0 (.free 1 (.free 2 (.free 3 (.free 4 (.free 5 (.free 6 (.free 7 (.free 8 (.free 9 (.free 10 (.free 11 (.free 12 (.free 13 (.done))))))))))))))) (by kernel_rfl) (by kernel_rfl) (fun _ _ _ _ _ h => h) M8 (fun w9 M9 => ?_)
                clear M8
                iterate 9 (refine wpT_free rfl rfl (.inl ⟨rfl, fun w _ => by go_simp; rfl⟩) (by assumption) ?_; (conv => arg 6; simp only [Act.put, List.setIfInBounds_toArray, List.set_cons_succ, List.set_cons_zero]))
                refine wpT_free rfl rfl (.inl ⟨rfl, fun w hw => run_ld1 Try.underlying9 rfl rfl rfl (hw.cell0 HCM.out)⟩) (by assumption) ?_; (conv => arg 6; simp only [Act.put, List.setIfInBounds_toArray, List.set_cons_succ, List.set_cons_zero])
                (refine wpT_free rfl rfl (.inl ⟨rfl, fun w _ => by go_simp; rfl⟩) (by assumption) ?_; (conv => arg 6; simp only [Act.put, List.setIfInBounds_toArray, List.set_cons_succ, List.set_cons_zero]))
                refine wpT_free rfl rfl (.inl ⟨rfl, fun w hw => run_ld1 Try.underlying9 rfl rfl rfl (hw.cell0 HA8.out)⟩) (by assumption) ?_; (conv => arg 6; simp only [Act.put, List.setIfInBounds_toArray, List.set_cons_succ, List.set_cons_zero])
                (refine wpT_free rfl rfl (.inl ⟨rfl, fun w _ => by go_simp; rfl⟩) (by assumption) ?_; (conv => arg 6; simp only [Act.put, List.setIfInBounds_toArray, List.set_cons_succ, List.set_cons_zero]))
                (refine wpT_free rfl rfl (.inl ⟨rfl, fun w _ => by go_simp; rfl⟩) (by assumption) ?_; (conv => arg 6; simp only [Act.put, List.setIfInBounds_toArray, List.set_cons_succ, List.set_cons_zero]))
                refine wpT_done ?_
                have KX := hid ((HK7.out.below hb8).below M9.below)
                have BX := (B7.trans (hb8.mono B7.size)).trans (M9.below.mono (Nat.le_trans B7.size hb8.size))
                clear hlenI hm1 hm2
                go_wp2_with fail
                go_loopw [10] (fun n wt => ∃ t : Nat, t ≤ 8 ∧ n = .int .i64 t ∧ Mem _ [] wt []) (fun n _ => 8 - (intOf n).toNat)
                case atStart => exact ⟨0, by omega, rfl, Mem.start _⟩
                case round =>
                  obtain ⟨t, ht, rfl, Mt⟩ := hrel
                  by_cases ht8 : t < 8
                  · have ht8I : (t : Int) < 8 := by omega
                    obtain ⟨L, hL⟩ : ∃ L, X'[t]? = some L := ⟨X'[t]'(by rw [KX.out.rs.2.2.1]; exact ht8), List.getElem?_eq_getElem _⟩
                    obtain ⟨G, hG⟩ : ∃ G, H2[t]? = some G := ⟨H2[t]'(by rw [KX.out.Hl]; exact ht8), List.getElem?_eq_getElem _⟩
                    obtain ⟨_, _, _, _, _, _, hL40⟩ := KX.out.rs.2.2.2 t L hL
                    have HSB := hid (HSUB2.out t L G hL hG)
                    have hGl := HLEN2.out t G hG
                    obtain ⟨AG, cG, g1, g2, _⟩ := KX.out.own t G hG
                    have HM := hid (fun w' => MailRS KX.out.rs hL ht8 w')
                    have HCH := hid (RS.cell KX.out.hh g1)
                    have HRG := hid (owns_rowT g2)
                    have hL40I : ¬ (40 : Int) < (L.length : Int) := by omega
                    clear hL hG g1 g2
                    go_wp2_with (go_at_call 12; refine (HM.out _ Mt).mono ?_; rintro e wm ⟨A9, c9, rfl, _, _, r9, hb9, _⟩; replace Mt := Mt.call hb9)
                    have HR9 := hid r9
                    have HCM := hid (Mt.cell0 HCH.out)
                    have HRM := hid (HRG.out.mem Mt)
                    clear r9
                    go_loopw [12] (fun n wk => ∃ q : Nat, q ≤ L.length ∧ n = .int .i64 q ∧ Mem wm [] wk []) (fun n _ => L.length - (intOf n).toNat)
                    case atStart => exact ⟨0, by omega, rfl, Mem.start _⟩
                    case round =>
                      obtain ⟨q, hq, rfl, Mq⟩ := hrel
                      by_cases hql : q < L.length
                      · have hqlI : (q : Int) < (L.length : Int) := by omega
                        obtain ⟨x, hx⟩ : ∃ x, L[q]? = some x := ⟨L[q], List.getElem?_eq_getElem hql⟩
                        have hxG : x ∈ G := HSB.out x (List.mem_of_getElem? hx)
                        have HXG := hid hxG
                        obtain ⟨bm, om, hA9, hcx⟩ := HR9.out.cell (strs_get hx)
                        subst hA9
                        have HCX := hid (Mq.cell0 hcx)
                        have HCK := hid (Mq.cell0 HCM.out)
                        have HRK := hid (HRM.out.mem Mq)
                        clear hxG hcx hx
                        go_wp2_with fail
                        go_loopw [13, 14] (fun v n wn => ∃ (p : Nat) (b0 : Bool), p ≤ G.length ∧ n = .int .i64 p ∧ v = .bool b0 ∧ Hid (b0 = true ↔ x ∈ G.take p) ∧ Mem _ [] wn []) (fun _ n _ => G.length - (intOf n).toNat)
                        case atStart => exact ⟨0, false, by omega, rfl, rfl, hid (by simp), Mem.start _⟩
                        case round =>
                          obtain ⟨p, b0, hp, rfl, rfl, hb0, Mp⟩ := hrel
                          have hcell := Mp.cell0 HCK.out
                          by_cases hpl : p < G.length
                          · have hplI : (p : Int) < (G.length : Int) := by omega
                            obtain ⟨y, hy⟩ : ∃ y, G[p]? = some y := ⟨G[p], List.getElem?_eq_getElem hpl⟩
                            have htk : G.take (p + 1) = G.take p ++ [y] := by
                              rw [List.take_succ_eq_append_getElem hpl]
                              rw [List.getElem?_eq_getElem hpl] at hy
                              injection hy with hy
                              rw [hy]
                            obtain ⟨bg, og, hAG, hcg⟩ := HRK.out.cell (strs_get hy)
                            subst hAG
                            have HCG := hid hcg
                            have HTK := hid htk
                            clear hy htk hcg
                            cases b0 with
                            | true =>
                              go_wp2_with fail
                              clear hcell
                              refine wp_region_planT (.free 0 (.free 1 (.free 2 (.free 3 (.free 4 (.free 5 (.free 6 (.free 7 (.free 8 (.free 9 (.free 10 (.free 11 (.free 12 (.free 13 (.free 14 (.done)))))))))))))))) (by kernel_rfl) (by kernel_rfl) (fun _ _ _ _ _ h => h) Mp (fun wz Mz => ?_)
                              clear Mp
                              (refine wpT_free rfl rfl (.inl ⟨rfl, fun w _ => by go_simp; rfl⟩) (by assumption) ?_; (conv => arg 6; simp only [Act.put, List.setIfInBounds_toArray, List.set_cons_succ, List.set_cons_zero]))
                              (refine wpT_free rfl rfl (.inl ⟨rfl, fun w _ => by go_simp; rfl⟩) (by assumption) ?_; (conv => arg 6; simp only [Act.put, List.setIfInBounds_toArray, List.set_cons_succ, List.set_cons_zero]))
                              iterate 11 (refine wpT_free rfl rfl (.inr ⟨rfl, rfl⟩) (by assumption) ?_; (conv => arg 6; simp only [Act.put, List.setIfInBounds_toArray, List.set_cons_succ, List.set_cons_zero]))
                              (refine wpT_free rfl rfl (.inl ⟨rfl, fun w _ => by go_simp; rfl⟩) (by assumption) ?_; (conv => arg 6; simp only [Act.put, List.setIfInBounds_toArray, List.set_cons_succ, List.set_cons_zero]))
                              (refine wpT_free rfl rfl (.inl ⟨rfl, fun w _ => by go_simp; rfl⟩) (by assumption) ?_; (conv => arg 6; simp only [Act.put, List.setIfInBounds_toArray, List.set_cons_succ, List.set_cons_zero]))
                              refine wpT_done ?_
                              go_wp2_with fail
                              go_roundw
                              case rel => exact ⟨p + 1, true, by omega, by go_num, rfl, hid (by
                                have := hb0.out
                                rw [HTK.out, List.mem_append]
                                have hm : x ∈ G.take p := by first | exact this.1 rfl | exact this.1 trivial
                                simp [hm]), Mz⟩
                              case measure => simp [intOf]; omega
                            | false =>
                              by_cases hyx : y = x
                              · subst hyx
                                go_wp2_with fail
                                clear hcell
                                refine wp_region_planT (.free 0 (.free 1 (.free 2 (.free 3 (.free 4 (.free 5 (.free 6 (.free 7 (.free 8 (.free 9 (.free 10 (.free 11 (.free 12 (.free 13 (.free 14 (.done)))))))))))))))) (by kernel_rfl) (by kernel_rfl) (fun _ _ _ _ _ h => h) Mp (fun wz Mz => ?_)
                                clear Mp
                                iterate 4 (refine wpT_free rfl rfl (.inl ⟨rfl, fun w _ => by go_simp; rfl⟩) (by assumption) ?_; (conv => arg 6; simp only [Act.put, List.setIfInBounds_toArray, List.set_cons_succ, List.set_cons_zero]))
                                refine wpT_free rfl rfl (.inl ⟨rfl, fun w hw => run_ld1 Try.underlying25 rfl rfl rfl (hw.cell0 HCK.out)⟩) (by assumption) ?_; (conv => arg 6; simp only [Act.put, List.setIfInBounds_toArray, List.set_cons_succ, List.set_cons_zero])
                                iterate 2 (refine wpT_free rfl rfl (.inl ⟨rfl, fun w _ => by go_simp; rfl⟩) (by assumption) ?_; (conv => arg 6; simp only [Act.put, List.setIfInBounds_toArray, List.set_cons_succ, List.set_cons_zero]))
                                refine wpT_free rfl rfl (.inl ⟨rfl, fun w hw => run_ld1 Try.underlying9 rfl rfl rfl (hw.cell0 HCG.out)⟩) (by assumption) ?_; (conv => arg 6; simp only [Act.put, List.setIfInBounds_toArray, List.set_cons_succ, List.set_cons_zero])
                                iterate 3 (refine wpT_free rfl rfl (.inl ⟨rfl, fun w _ => by go_simp; rfl⟩) (by assumption) ?_; (conv => arg 6; simp only [Act.put, List.setIfInBounds_toArray, List.set_cons_succ, List.set_cons_zero]))
                                refine wpT_free rfl rfl (.inl ⟨rfl, fun w hw => run_ld1 Try.underlying9 rfl rfl rfl (hw.cell0 HCX.out)⟩) (by assumption) ?_; (conv => arg 6; simp only [Act.put, List.setIfInBounds_toArray, List.set_cons_succ, List.set_cons_zero])
                                iterate 3 (refine wpT_free rfl rfl (.inl ⟨rfl, fun w _ => by go_simp; rfl⟩) (by assumption) ?_; (conv => arg 6; simp only [Act.put, List.setIfInBounds_toArray, List.set_cons_succ, List.set_cons_zero]))
                                refine wpT_done ?_
                                go_wp2_with fail
                                go_roundw
                                case rel => exact ⟨p + 1, true, by omega, by go_num, rfl, hid (by rw [HTK.out]; simp), Mz⟩
                                case measure => simp [intOf]; omega
                              · have hse : (y.toList == x.toList) = false := str_ne hyx
                                go_wp2_with fail
                                clear hcell
                                refine wp_region_planT (.free 0 (.free 1 (.free 2 (.free 3 (.free 4 (.free 5 (.free 6 (.free 7 (.free 8 (.free 9 (.free 10 (.free 11 (.free 12 (.free 13 (.free 14 (.done)))))))))))))))) (by kernel_rfl) (by kernel_rfl) (fun _ _ _ _ _ h => h) Mp (fun wz Mz => ?_)
                                clear Mp
                                iterate 4 (refine wpT_free rfl rfl (.inl ⟨rfl, fun w _ => by go_simp; rfl⟩) (by assumption) ?_; (conv => arg 6; simp only [Act.put, List.setIfInBounds_toArray, List.set_cons_succ, List.set_cons_zero]))
                                refine wpT_free rfl rfl (.inl ⟨rfl, fun w hw => run_ld1 Try.underlying25 rfl rfl rfl (hw.cell0 HCK.out)⟩) (by assumption) ?_; (conv => arg 6; simp only [Act.put, List.setIfInBounds_toArray, List.set_cons_succ, List.set_cons_zero])
                                iterate 2 (refine wpT_free rfl rfl (.inl ⟨rfl, fun w _ => by go_simp; rfl⟩) (by assumption) ?_; (conv => arg 6; simp only [Act.put, List.setIfInBounds_toArray, List.set_cons_succ, List.set_cons_zero]))
                                refine wpT_free rfl rfl (.inl ⟨rfl, fun w hw => run_ld1 Try.underlying9 rfl rfl rfl (hw.cell0 HCG.out)⟩) (by assumption) ?_; (conv => arg 6; simp only [Act.put, List.setIfInBounds_toArray, List.set_cons_succ, List.set_cons_zero])
                                iterate 3 (refine wpT_free rfl rfl (.inl ⟨rfl, fun w _ => by go_simp; rfl⟩) (by assumption) ?_; (conv => arg 6; simp only [Act.put, List.setIfInBounds_toArray, List.set_cons_succ, List.set_cons_zero]))
                                refine wpT_free rfl rfl (.inl ⟨rfl, fun w hw => run_ld1 Try.underlying9 rfl rfl rfl (hw.cell0 HCX.out)⟩) (by assumption) ?_; (conv => arg 6; simp only [Act.put, List.setIfInBounds_toArray, List.set_cons_succ, List.set_cons_zero])
                                iterate 3 (refine wpT_free rfl rfl (.inl ⟨rfl, fun w _ => by go_simp; rfl⟩) (by assumption) ?_; (conv => arg 6; simp only [Act.put, List.setIfInBounds_toArray, List.set_cons_succ, List.set_cons_zero]))
                                refine wpT_done ?_
                                go_wp2_with fail
                                go_roundw
                                case rel => exact ⟨p + 1, false, by omega, by go_num, rfl, hid (by
                                  have := hb0.out
                                  rw [HTK.out, List.mem_append, List.mem_singleton]
                                  constructor
                                  · intro h; cases h
                                  · rintro (h | h)
                                    · exact absurd (this.2 h) (by decide)
                                    · exact absurd h.symm hyx), Mz⟩
                                case measure => simp [intOf]; omega
                          · obtain rfl : p = G.length := by omega
                            obtain rfl : b0 = true := hb0.out.2 (by rw [List.take_of_length_le (Nat.le_refl _)]; exact HXG.out)
                            go_wp2_with fail
                            go_roundw
                            case rel => exact ⟨q + 1, by omega, by go_num, Mq.call Mp.below⟩
                            case measure => simp [intOf]; omega
                      · obtain rfl : q = L.length := by omega
                        go_wp2_with fail
                        go_roundw
                        case rel => exact ⟨t + 1, by omega, by go_num, Mt.call Mq.below⟩
                        case measure => simp [intOf]; omega
                  · obtain rfl : t = 8 := by omega
                    go_wp2_with fail
                    go_roundw
                    case rel => exact ⟨i + 1, X', H2, _, _, by omega, by go_num, KX.out.below Mt.below, HSUB2, HLEN2, BX.trans (Mt.below.mono BX.size)⟩
                    case measure => simp [intOf]; omega
            ·
              rw [step_fail hk0 hin] at h7
              have hsub := step_sub_no HSUB.out a.kind a.to a.i a.k a.s (fun h => hin h.2)
              obtain ⟨X', hX'⟩ : ∃ x, x = (stepA X a.kind a.to a.i a.k a.s).1 := ⟨_, rfl⟩
              obtain ⟨o1, ho1⟩ : ∃ x, x = (stepA X a.kind a.to a.i a.k a.s).2.1 := ⟨_, rfl⟩
              rw [← hX', ← ho1] at h7
              rw [← hX'] at hsub
              obtain ⟨H2, hH2⟩ : ∃ x, x = H := ⟨_, rfl⟩
              rw [← hH2] at hsub HLEN K
              have HSUB2 := hid hsub
              have H7 := hid h7
              clear h7 hX' ho1 hsub hin hH2
              go_wp2_with (first | (refine wpList_ldagg 32 rfl Try.underlying33 rfl rfl rfl rfl (cs := a.cs) (fun j v hv => HCS.out j v hv) sz33 ?_; (conv => arg 5; simp only [Act.put, List.setIfInBounds_toArray, List.set_cons_succ, List.set_cons_zero])) | (refine wpList_al rfl rfl M1 z33 rfl (fun b6 w1 M2 => ?_); clear M1; (conv => arg 5; simp only [Act.put, List.setIfInBounds_toArray, List.set_cons_succ, List.set_cons_zero])) | (refine wpList_strow rfl rfl rfl rfl (vs := a.cs) M2 Swap.head sz33 rfl (box33 _ _ _ _ _) (fun w2 M3 => ?_); clear M2; (conv => arg 5; simp only [Act.put, List.setIfInBounds_toArray, List.set_cons_succ, List.set_cons_zero]); have hact : actAt w2 b6 a := M3.holds _ List.mem_cons_self; have hb6 : wr.heap.size ≤ b6 := (M3.fresh _ List.mem_cons_self b6 rfl).resolve_left (by simp); have HACT := hid hact; clear hact; have c4 := HACT.out.cell 4 _ rfl) | (refine wpList_ldagg 39 rfl Try.underlying33 rfl rfl rfl rfl (off := 0) (cs := a.cs) (fun j v hv => by rw [Nat.zero_add]; exact HACT.out.cell j v hv) sz33 ?_; (conv => arg 5; simp only [Act.put, List.setIfInBounds_toArray, List.set_cons_succ, List.set_cons_zero])) | (go_at_call 7; refine (H7.out _ (K.below M3.below).rs).mono ?_; rintro e w3 ⟨rfl, hact7⟩; clear c4 H7; have HAW := hid hact7; obtain ⟨v1z, _, hg1, _⟩ := hact7; have HA3 := hid (HACT.out.grown hg1 (by omega)); have c0 := HA3.out.cell 0 _ rfl; have B1 := below_grown (B.trans (M3.below.mono B.size)) rfl hg1 hb18; clear hg1))
              obtain ⟨v1y, K3⟩ := (K.below M3.below).act hne HAW.out
              clear c0
              have KX := hid K3
              have BX := B1
              have HLEN2 := hid (fun (t : Nat) (G : List ByteArray) (hG : H2[t]? = some G) => Nat.le_succ_of_le (HLEN.out t G hG))
              clear K3
              go_loopw [10] (fun n wt => ∃ t : Nat, t ≤ 8 ∧ n = .int .i64 t ∧ Mem _ [] wt []) (fun n _ => 8 - (intOf n).toNat)
              case atStart => exact ⟨0, by omega, rfl, Mem.start _⟩
              case round =>
                obtain ⟨t, ht, rfl, Mt⟩ := hrel
                by_cases ht8 : t < 8
                · have ht8I : (t : Int) < 8 := by omega
                  obtain ⟨L, hL⟩ : ∃ L, X'[t]? = some L := ⟨X'[t]'(by rw [KX.out.rs.2.2.1]; exact ht8), List.getElem?_eq_getElem _⟩
                  obtain ⟨G, hG⟩ : ∃ G, H2[t]? = some G := ⟨H2[t]'(by rw [KX.out.Hl]; exact ht8), List.getElem?_eq_getElem _⟩
                  obtain ⟨_, _, _, _, _, _, hL40⟩ := KX.out.rs.2.2.2 t L hL
                  have HSB := hid (HSUB2.out t L G hL hG)
                  have hGl := HLEN2.out t G hG
                  obtain ⟨AG, cG, g1, g2, _⟩ := KX.out.own t G hG
                  have HM := hid (fun w' => MailRS KX.out.rs hL ht8 w')
                  have HCH := hid (RS.cell KX.out.hh g1)
                  have HRG := hid (owns_rowT g2)
                  have hL40I : ¬ (40 : Int) < (L.length : Int) := by omega
                  clear hL hG g1 g2
                  go_wp2_with (go_at_call 12; refine (HM.out _ Mt).mono ?_; rintro e wm ⟨A9, c9, rfl, _, _, r9, hb9, _⟩; replace Mt := Mt.call hb9)
                  have HR9 := hid r9
                  have HCM := hid (Mt.cell0 HCH.out)
                  have HRM := hid (HRG.out.mem Mt)
                  clear r9
                  go_loopw [12] (fun n wk => ∃ q : Nat, q ≤ L.length ∧ n = .int .i64 q ∧ Mem wm [] wk []) (fun n _ => L.length - (intOf n).toNat)
                  case atStart => exact ⟨0, by omega, rfl, Mem.start _⟩
                  case round =>
                    obtain ⟨q, hq, rfl, Mq⟩ := hrel
                    by_cases hql : q < L.length
                    · have hqlI : (q : Int) < (L.length : Int) := by omega
                      obtain ⟨x, hx⟩ : ∃ x, L[q]? = some x := ⟨L[q], List.getElem?_eq_getElem hql⟩
                      have hxG : x ∈ G := HSB.out x (List.mem_of_getElem? hx)
                      have HXG := hid hxG
                      obtain ⟨bm, om, hA9, hcx⟩ := HR9.out.cell (strs_get hx)
                      subst hA9
                      have HCX := hid (Mq.cell0 hcx)
                      have HCK := hid (Mq.cell0 HCM.out)
                      have HRK := hid (HRM.out.mem Mq)
                      clear hxG hcx hx
                      go_wp2_with fail
                      go_loopw [13, 14] (fun v n wn => ∃ (p : Nat) (b0 : Bool), p ≤ G.length ∧ n = .int .i64 p ∧ v = .bool b0 ∧ Hid (b0 = true ↔ x ∈ G.take p) ∧ Mem _ [] wn []) (fun _ n _ => G.length - (intOf n).toNat)
                      case atStart => exact ⟨0, false, by omega, rfl, rfl, hid (by simp), Mem.start _⟩
                      case round =>
                        obtain ⟨p, b0, hp, rfl, rfl, hb0, Mp⟩ := hrel
                        have hcell := Mp.cell0 HCK.out
                        by_cases hpl : p < G.length
                        · have hplI : (p : Int) < (G.length : Int) := by omega
                          obtain ⟨y, hy⟩ : ∃ y, G[p]? = some y := ⟨G[p], List.getElem?_eq_getElem hpl⟩
                          have htk : G.take (p + 1) = G.take p ++ [y] := by
                            rw [List.take_succ_eq_append_getElem hpl]
                            rw [List.getElem?_eq_getElem hpl] at hy
                            injection hy with hy
                            rw [hy]
                          obtain ⟨bg, og, hAG, hcg⟩ := HRK.out.cell (strs_get hy)
                          subst hAG
                          have HCG := hid hcg
                          have HTK := hid htk
                          clear hy htk hcg
                          cases b0 with
                          | true =>
                            go_wp2_with fail
                            clear hcell
                            refine wp_region_planT (.free 0 (.free 1 (.free 2 (.free 3 (.free 4 (.free 5 (.free 6 (.free 7 (.free 8 (.free 9 (.free 10 (.free 11 (.free 12 (.free 13 (.free 14 (.done)))))))))))))))) (by kernel_rfl) (by kernel_rfl) (fun _ _ _ _ _ h => h) Mp (fun wz Mz => ?_)
                            clear Mp
                            (refine wpT_free rfl rfl (.inl ⟨rfl, fun w _ => by go_simp; rfl⟩) (by assumption) ?_; (conv => arg 6; simp only [Act.put, List.setIfInBounds_toArray, List.set_cons_succ, List.set_cons_zero]))
                            (refine wpT_free rfl rfl (.inl ⟨rfl, fun w _ => by go_simp; rfl⟩) (by assumption) ?_; (conv => arg 6; simp only [Act.put, List.setIfInBounds_toArray, List.set_cons_succ, List.set_cons_zero]))
                            iterate 11 (refine wpT_free rfl rfl (.inr ⟨rfl, rfl⟩) (by assumption) ?_; (conv => arg 6; simp only [Act.put, List.setIfInBounds_toArray, List.set_cons_succ, List.set_cons_zero]))
                            (refine wpT_free rfl rfl (.inl ⟨rfl, fun w _ => by go_simp; rfl⟩) (by assumption) ?_; (conv => arg 6; simp only [Act.put, List.setIfInBounds_toArray, List.set_cons_succ, List.set_cons_zero]))
                            (refine wpT_free rfl rfl (.inl ⟨rfl, fun w _ => by go_simp; rfl⟩) (by assumption) ?_; (conv => arg 6; simp only [Act.put, List.setIfInBounds_toArray, List.set_cons_succ, List.set_cons_zero]))
                            refine wpT_done ?_
                            go_wp2_with fail
                            go_roundw
                            case rel => exact ⟨p + 1, true, by omega, by go_num, rfl, hid (by
                              have := hb0.out
                              rw [HTK.out, List.mem_append]
                              have hm : x ∈ G.take p := by first | exact this.1 rfl | exact this.1 trivial
                              simp [hm]), Mz⟩
                            case measure => simp [intOf]; omega
                          | false =>
                            by_cases hyx : y = x
                            · subst hyx
                              go_wp2_with fail
                              clear hcell
                              refine wp_region_planT (.free 0 (.free 1 (.free 2 (.free 3 (.free 4 (.free 5 (.free 6 (.free 7 (.free 8 (.free 9 (.free 10 (.free 11 (.free 12 (.free 13 (.free 14 (.done)))))))))))))))) (by kernel_rfl) (by kernel_rfl) (fun _ _ _ _ _ h => h) Mp (fun wz Mz => ?_)
                              clear Mp
                              iterate 4 (refine wpT_free rfl rfl (.inl ⟨rfl, fun w _ => by go_simp; rfl⟩) (by assumption) ?_; (conv => arg 6; simp only [Act.put, List.setIfInBounds_toArray, List.set_cons_succ, List.set_cons_zero]))
                              refine wpT_free rfl rfl (.inl ⟨rfl, fun w hw => run_ld1 Try.underlying25 rfl rfl rfl (hw.cell0 HCK.out)⟩) (by assumption) ?_; (conv => arg 6; simp only [Act.put, List.setIfInBounds_toArray, List.set_cons_succ, List.set_cons_zero])
                              iterate 2 (refine wpT_free rfl rfl (.inl ⟨rfl, fun w _ => by go_simp; rfl⟩) (by assumption) ?_; (conv => arg 6; simp only [Act.put, List.setIfInBounds_toArray, List.set_cons_succ, List.set_cons_zero]))
                              refine wpT_free rfl rfl (.inl ⟨rfl, fun w hw => run_ld1 Try.underlying9 rfl rfl rfl (hw.cell0 HCG.out)⟩) (by assumption) ?_; (conv => arg 6; simp only [Act.put, List.setIfInBounds_toArray, List.set_cons_succ, List.set_cons_zero])
                              iterate 3 (refine wpT_free rfl rfl (.inl ⟨rfl, fun w _ => by go_simp; rfl⟩) (by assumption) ?_; (conv => arg 6; simp only [Act.put, List.setIfInBounds_toArray, List.set_cons_succ, List.set_cons_zero]))
                              refine wpT_free rfl rfl (.inl ⟨rfl, fun w hw => run_ld1 Try.underlying9 rfl rfl rfl (hw.cell0 HCX.out)⟩) (by assumption) ?_; (conv => arg 6; simp only [Act.put, List.setIfInBounds_toArray, List.set_cons_succ, List.set_cons_zero])
                              iterate 3 (refine wpT_free rfl rfl (.inl ⟨rfl, fun w _ => by go_simp; rfl⟩) (by assumption) ?_; (conv => arg 6; simp only [Act.put, List.setIfInBounds_toArray, List.set_cons_succ, List.set_cons_zero]))
                              refine wpT_done ?_
                              go_wp2_with fail
                              go_roundw
                              case rel => exact ⟨p + 1, true, by omega, by go_num, rfl, hid (by rw [HTK.out]; simp), Mz⟩
                              case measure => simp [intOf]; omega
                            · have hse : (y.toList == x.toList) = false := str_ne hyx
                              go_wp2_with fail
                              clear hcell
                              refine wp_region_planT (.free 0 (.free 1 (.free 2 (.free 3 (.free 4 (.free 5 (.free 6 (.free 7 (.free 8 (.free 9 (.free 10 (.free 11 (.free 12 (.free 13 (.free 14 (.done)))))))))))))))) (by kernel_rfl) (by kernel_rfl) (fun _ _ _ _ _ h => h) Mp (fun wz Mz => ?_)
                              clear Mp
                              iterate 4 (refine wpT_free rfl rfl (.inl ⟨rfl, fun w _ => by go_simp; rfl⟩) (by assumption) ?_; (conv => arg 6; simp only [Act.put, List.setIfInBounds_toArray, List.set_cons_succ, List.set_cons_zero]))
                              refine wpT_free rfl rfl (.inl ⟨rfl, fun w hw => run_ld1 Try.underlying25 rfl rfl rfl (hw.cell0 HCK.out)⟩) (by assumption) ?_; (conv => arg 6; simp only [Act.put, List.setIfInBounds_toArray, List.set_cons_succ, List.set_cons_zero])
                              iterate 2 (refine wpT_free rfl rfl (.inl ⟨rfl, fun w _ => by go_simp; rfl⟩) (by assumption) ?_; (conv => arg 6; simp only [Act.put, List.setIfInBounds_toArray, List.set_cons_succ, List.set_cons_zero]))
                              refine wpT_free rfl rfl (.inl ⟨rfl, fun w hw => run_ld1 Try.underlying9 rfl rfl rfl (hw.cell0 HCG.out)⟩) (by assumption) ?_; (conv => arg 6; simp only [Act.put, List.setIfInBounds_toArray, List.set_cons_succ, List.set_cons_zero])
                              iterate 3 (refine wpT_free rfl rfl (.inl ⟨rfl, fun w _ => by go_simp; rfl⟩) (by assumption) ?_; (conv => arg 6; simp only [Act.put, List.setIfInBounds_toArray, List.set_cons_succ, List.set_cons_zero]))
                              refine wpT_free rfl rfl (.inl ⟨rfl, fun w hw => run_ld1 Try.underlying9 rfl rfl rfl (hw.cell0 HCX.out)⟩) (by assumption) ?_; (conv => arg 6; simp only [Act.put, List.setIfInBounds_toArray, List.set_cons_succ, List.set_cons_zero])
                              iterate 3 (refine wpT_free rfl rfl (.inl ⟨rfl, fun w _ => by go_simp; rfl⟩) (by assumption) ?_; (conv => arg 6; simp only [Act.put, List.setIfInBounds_toArray, List.set_cons_succ, List.set_cons_zero]))
                              refine wpT_done ?_
                              go_wp2_with fail
                              go_roundw
                              case rel => exact ⟨p + 1, false, by omega, by go_num, rfl, hid (by
                                have := hb0.out
                                rw [HTK.out, List.mem_append, List.mem_singleton]
                                constructor
                                · intro h; cases h
                                · rintro (h | h)
                                  · exact absurd (this.2 h) (by decide)
                                  · exact absurd h.symm hyx), Mz⟩
                              case measure => simp [intOf]; omega
                        · obtain rfl : p = G.length := by omega
                          obtain rfl : b0 = true := hb0.out.2 (by rw [List.take_of_length_le (Nat.le_refl _)]; exact HXG.out)
                          go_wp2_with fail
                          go_roundw
                          case rel => exact ⟨q + 1, by omega, by go_num, Mq.call Mp.below⟩
                          case measure => simp [intOf]; omega
                    · obtain rfl : q = L.length := by omega
                      go_wp2_with fail
                      go_roundw
                      case rel => exact ⟨t + 1, by omega, by go_num, Mt.call Mq.below⟩
                      case measure => simp [intOf]; omega
                · obtain rfl : t = 8 := by omega
                  go_wp2_with fail
                  go_roundw
                  case rel => exact ⟨i + 1, X', H2, _, _, by omega, by go_num, KX.out.below Mt.below, HSUB2, HLEN2, BX.trans (Mt.below.mono BX.size)⟩
                  case measure => simp [intOf]; omega
          · have hk0b : (a.kind.tmod 5 == 0) = false := by rw [beq_eq_false_iff_ne]; exact hk0
            have hsub := step_sub_no HSUB.out a.kind a.to a.i a.k a.s (fun h => hk0 h.1)
            obtain ⟨X', hX'⟩ : ∃ x, x = (stepA X a.kind a.to a.i a.k a.s).1 := ⟨_, rfl⟩
            obtain ⟨o1, ho1⟩ : ∃ x, x = (stepA X a.kind a.to a.i a.k a.s).2.1 := ⟨_, rfl⟩
            obtain ⟨e1, he1⟩ : ∃ x, x = (stepA X a.kind a.to a.i a.k a.s).2.2 := ⟨_, rfl⟩
            rw [← hX', ← ho1, ← he1] at h7
            rw [← hX'] at hsub
            obtain ⟨H2, hH2⟩ : ∃ x, x = H := ⟨_, rfl⟩
            rw [← hH2] at hsub HLEN K
            have HSUB2 := hid hsub
            have H7 := hid h7
            clear h7 hX' ho1 he1 hsub hk0 hH2
            go_wp2_with (first | (refine wpList_ldagg 32 rfl Try.underlying33 rfl rfl rfl rfl (cs := a.cs) (fun j v hv => HCS.out j v hv) sz33 ?_; (conv => arg 5; simp only [Act.put, List.setIfInBounds_toArray, List.set_cons_succ, List.set_cons_zero])) | (refine wpList_al rfl rfl M1 z33 rfl (fun b6 w1 M2 => ?_); clear M1; (conv => arg 5; simp only [Act.put, List.setIfInBounds_toArray, List.set_cons_succ, List.set_cons_zero])) | (refine wpList_strow rfl rfl rfl rfl (vs := a.cs) M2 Swap.head sz33 rfl (box33 _ _ _ _ _) (fun w2 M3 => ?_); clear M2; (conv => arg 5; simp only [Act.put, List.setIfInBounds_toArray, List.set_cons_succ, List.set_cons_zero]); have hact : actAt w2 b6 a := M3.holds _ List.mem_cons_self; have hb6 : wr.heap.size ≤ b6 := (M3.fresh _ List.mem_cons_self b6 rfl).resolve_left (by simp); have HACT := hid hact; clear hact; have c4 := HACT.out.cell 4 _ rfl) | (refine wpList_ldagg 39 rfl Try.underlying33 rfl rfl rfl rfl (off := 0) (cs := a.cs) (fun j v hv => by rw [Nat.zero_add]; exact HACT.out.cell j v hv) sz33 ?_; (conv => arg 5; simp only [Act.put, List.setIfInBounds_toArray, List.set_cons_succ, List.set_cons_zero])) | (go_at_call 7; refine (H7.out _ (K.below M3.below).rs).mono ?_; rintro e w3 ⟨rfl, hact7⟩; clear c4 H7; have HAW := hid hact7; obtain ⟨v1z, _, hg1, _⟩ := hact7; have HA3 := hid (HACT.out.grown hg1 (by omega)); have c0 := HA3.out.cell 0 _ rfl; have B1 := below_grown (B.trans (M3.below.mono B.size)) rfl hg1 hb18; clear hg1))
            obtain ⟨v1y, K3⟩ := (K.below M3.below).act hne HAW.out
            clear c0
            have KX := hid K3
            have BX := B1
            have HLEN2 := hid (fun (t : Nat) (G : List ByteArray) (hG : H2[t]? = some G) => Nat.le_succ_of_le (HLEN.out t G hG))
            clear K3
            go_loopw [10] (fun n wt => ∃ t : Nat, t ≤ 8 ∧ n = .int .i64 t ∧ Mem _ [] wt []) (fun n _ => 8 - (intOf n).toNat)
            case atStart => exact ⟨0, by omega, rfl, Mem.start _⟩
            case round =>
              obtain ⟨t, ht, rfl, Mt⟩ := hrel
              by_cases ht8 : t < 8
              · have ht8I : (t : Int) < 8 := by omega
                obtain ⟨L, hL⟩ : ∃ L, X'[t]? = some L := ⟨X'[t]'(by rw [KX.out.rs.2.2.1]; exact ht8), List.getElem?_eq_getElem _⟩
                obtain ⟨G, hG⟩ : ∃ G, H2[t]? = some G := ⟨H2[t]'(by rw [KX.out.Hl]; exact ht8), List.getElem?_eq_getElem _⟩
                obtain ⟨_, _, _, _, _, _, hL40⟩ := KX.out.rs.2.2.2 t L hL
                have HSB := hid (HSUB2.out t L G hL hG)
                have hGl := HLEN2.out t G hG
                obtain ⟨AG, cG, g1, g2, _⟩ := KX.out.own t G hG
                have HM := hid (fun w' => MailRS KX.out.rs hL ht8 w')
                have HCH := hid (RS.cell KX.out.hh g1)
                have HRG := hid (owns_rowT g2)
                have hL40I : ¬ (40 : Int) < (L.length : Int) := by omega
                clear hL hG g1 g2
                go_wp2_with (go_at_call 12; refine (HM.out _ Mt).mono ?_; rintro e wm ⟨A9, c9, rfl, _, _, r9, hb9, _⟩; replace Mt := Mt.call hb9)
                have HR9 := hid r9
                have HCM := hid (Mt.cell0 HCH.out)
                have HRM := hid (HRG.out.mem Mt)
                clear r9
                go_loopw [12] (fun n wk => ∃ q : Nat, q ≤ L.length ∧ n = .int .i64 q ∧ Mem wm [] wk []) (fun n _ => L.length - (intOf n).toNat)
                case atStart => exact ⟨0, by omega, rfl, Mem.start _⟩
                case round =>
                  obtain ⟨q, hq, rfl, Mq⟩ := hrel
                  by_cases hql : q < L.length
                  · have hqlI : (q : Int) < (L.length : Int) := by omega
                    obtain ⟨x, hx⟩ : ∃ x, L[q]? = some x := ⟨L[q], List.getElem?_eq_getElem hql⟩
                    have hxG : x ∈ G := HSB.out x (List.mem_of_getElem? hx)
                    have HXG := hid hxG
                    obtain ⟨bm, om, hA9, hcx⟩ := HR9.out.cell (strs_get hx)
                    subst hA9
                    have HCX := hid (Mq.cell0 hcx)
                    have HCK := hid (Mq.cell0 HCM.out)
                    have HRK := hid (HRM.out.mem Mq)
                    clear hxG hcx hx
                    go_wp2_with fail
                    go_loopw [13, 14] (fun v n wn => ∃ (p : Nat) (b0 : Bool), p ≤ G.length ∧ n = .int .i64 p ∧ v = .bool b0 ∧ Hid (b0 = true ↔ x ∈ G.take p) ∧ Mem _ [] wn []) (fun _ n _ => G.length - (intOf n).toNat)
                    case atStart => exact ⟨0, false, by omega, rfl, rfl, hid (by simp), Mem.start _⟩
                    case round =>
                      obtain ⟨p, b0, hp, rfl, rfl, hb0, Mp⟩ := hrel
                      have hcell := Mp.cell0 HCK.out
                      by_cases hpl : p < G.length
                      · have hplI : (p : Int) < (G.length : Int) := by omega
                        obtain ⟨y, hy⟩ : ∃ y, G[p]? = some y := ⟨G[p], List.getElem?_eq_getElem hpl⟩
                        have htk : G.take (p + 1) = G.take p ++ [y] := by
                          rw [List.take_succ_eq_append_getElem hpl]
                          rw [List.getElem?_eq_getElem hpl] at hy
                          injection hy with hy
                          rw [hy]
                        obtain ⟨bg, og, hAG, hcg⟩ := HRK.out.cell (strs_get hy)
                        subst hAG
                        have HCG := hid hcg
                        have HTK := hid htk
                        clear hy htk hcg
                        cases b0 with
                        | true =>
                          go_wp2_with fail
                          clear hcell
                          refine wp_region_planT (.free 0 (.free 1 (.free 2 (.free 3 (.free 4 (.free 5 (.free 6 (.free 7 (.free 8 (.free 9 (.free 10 (.free 11 (.free 12 (.free 13 (.free 14 (.done)))))))))))))))) (by kernel_rfl) (by kernel_rfl) (fun _ _ _ _ _ h => h) Mp (fun wz Mz => ?_)
                          clear Mp
                          (refine wpT_free rfl rfl (.inl ⟨rfl, fun w _ => by go_simp; rfl⟩) (by assumption) ?_; (conv => arg 6; simp only [Act.put, List.setIfInBounds_toArray, List.set_cons_succ, List.set_cons_zero]))
                          (refine wpT_free rfl rfl (.inl ⟨rfl, fun w _ => by go_simp; rfl⟩) (by assumption) ?_; (conv => arg 6; simp only [Act.put, List.setIfInBounds_toArray, List.set_cons_succ, List.set_cons_zero]))
                          iterate 11 (refine wpT_free rfl rfl (.inr ⟨rfl, rfl⟩) (by assumption) ?_; (conv => arg 6; simp only [Act.put, List.setIfInBounds_toArray, List.set_cons_succ, List.set_cons_zero]))
                          (refine wpT_free rfl rfl (.inl ⟨rfl, fun w _ => by go_simp; rfl⟩) (by assumption) ?_; (conv => arg 6; simp only [Act.put, List.setIfInBounds_toArray, List.set_cons_succ, List.set_cons_zero]))
                          (refine wpT_free rfl rfl (.inl ⟨rfl, fun w _ => by go_simp; rfl⟩) (by assumption) ?_; (conv => arg 6; simp only [Act.put, List.setIfInBounds_toArray, List.set_cons_succ, List.set_cons_zero]))
                          refine wpT_done ?_
                          go_wp2_with fail
                          go_roundw
                          case rel => exact ⟨p + 1, true, by omega, by go_num, rfl, hid (by
                            have := hb0.out
                            rw [HTK.out, List.mem_append]
                            have hm : x ∈ G.take p := by first | exact this.1 rfl | exact this.1 trivial
                            simp [hm]), Mz⟩
                          case measure => simp [intOf]; omega
                        | false =>
                          by_cases hyx : y = x
                          · subst hyx
                            go_wp2_with fail
                            clear hcell
                            refine wp_region_planT (.free 0 (.free 1 (.free 2 (.free 3 (.free 4 (.free 5 (.free 6 (.free 7 (.free 8 (.free 9 (.free 10 (.free 11 (.free 12 (.free 13 (.free 14 (.done)))))))))))))))) (by kernel_rfl) (by kernel_rfl) (fun _ _ _ _ _ h => h) Mp (fun wz Mz => ?_)
                            clear Mp
                            iterate 4 (refine wpT_free rfl rfl (.inl ⟨rfl, fun w _ => by go_simp; rfl⟩) (by assumption) ?_; (conv => arg 6; simp only [Act.put, List.setIfInBounds_toArray, List.set_cons_succ, List.set_cons_zero]))
                            refine wpT_free rfl rfl (.inl ⟨rfl, fun w hw => run_ld1 Try.underlying25 rfl rfl rfl (hw.cell0 HCK.out)⟩) (by assumption) ?_; (conv => arg 6; simp only [Act.put, List.setIfInBounds_toArray, List.set_cons_succ, List.set_cons_zero])
                            iterate 2 (refine wpT_free rfl rfl (.inl ⟨rfl, fun w _ => by go_simp; rfl⟩) (by assumption) ?_; (conv => arg 6; simp only [Act.put, List.setIfInBounds_toArray, List.set_cons_succ, List.set_cons_zero]))
                            refine wpT_free rfl rfl (.inl ⟨rfl, fun w hw => run_ld1 Try.underlying9 rfl rfl rfl (hw.cell0 HCG.out)⟩) (by assumption) ?_; (conv => arg 6; simp only [Act.put, List.setIfInBounds_toArray, List.set_cons_succ, List.set_cons_zero])
                            iterate 3 (refine wpT_free rfl rfl (.inl ⟨rfl, fun w _ => by go_simp; rfl⟩) (by assumption) ?_; (conv => arg 6; simp only [Act.put, List.setIfInBounds_toArray, List.set_cons_succ, List.set_cons_zero]))
                            refine wpT_free rfl rfl (.inl ⟨rfl, fun w hw => run_ld1 Try.underlying9 rfl rfl rfl (hw.cell0 HCX.out)⟩) (by assumption) ?_; (conv => arg 6; simp only [Act.put, List.setIfInBounds_toArray, List.set_cons_succ, List.set_cons_zero])
                            iterate 3 (refine wpT_free rfl rfl (.inl ⟨rfl, fun w _ => by go_simp; rfl⟩) (by assumption) ?_; (conv => arg 6; simp only [Act.put, List.setIfInBounds_toArray, List.set_cons_succ, List.set_cons_zero]))
                            refine wpT_done ?_
                            go_wp2_with fail
                            go_roundw
                            case rel => exact ⟨p + 1, true, by omega, by go_num, rfl, hid (by rw [HTK.out]; simp), Mz⟩
                            case measure => simp [intOf]; omega
                          · have hse : (y.toList == x.toList) = false := str_ne hyx
                            go_wp2_with fail
                            clear hcell
                            refine wp_region_planT (.free 0 (.free 1 (.free 2 (.free 3 (.free 4 (.free 5 (.free 6 (.free 7 (.free 8 (.free 9 (.free 10 (.free 11 (.free 12 (.free 13 (.free 14 (.done)))))))))))))))) (by kernel_rfl) (by kernel_rfl) (fun _ _ _ _ _ h => h) Mp (fun wz Mz => ?_)
                            clear Mp
                            iterate 4 (refine wpT_free rfl rfl (.inl ⟨rfl, fun w _ => by go_simp; rfl⟩) (by assumption) ?_; (conv => arg 6; simp only [Act.put, List.setIfInBounds_toArray, List.set_cons_succ, List.set_cons_zero]))
                            refine wpT_free rfl rfl (.inl ⟨rfl, fun w hw => run_ld1 Try.underlying25 rfl rfl rfl (hw.cell0 HCK.out)⟩) (by assumption) ?_; (conv => arg 6; simp only [Act.put, List.setIfInBounds_toArray, List.set_cons_succ, List.set_cons_zero])
                            iterate 2 (refine wpT_free rfl rfl (.inl ⟨rfl, fun w _ => by go_simp; rfl⟩) (by assumption) ?_; (conv => arg 6; simp only [Act.put, List.setIfInBounds_toArray, List.set_cons_succ, List.set_cons_zero]))
                            refine wpT_free rfl rfl (.inl ⟨rfl, fun w hw => run_ld1 Try.underlying9 rfl rfl rfl (hw.cell0 HCG.out)⟩) (by assumption) ?_; (conv => arg 6; simp only [Act.put, List.setIfInBounds_toArray, List.set_cons_succ, List.set_cons_zero])
                            iterate 3 (refine wpT_free rfl rfl (.inl ⟨rfl, fun w _ => by go_simp; rfl⟩) (by assumption) ?_; (conv => arg 6; simp only [Act.put, List.setIfInBounds_toArray, List.set_cons_succ, List.set_cons_zero]))
                            refine wpT_free rfl rfl (.inl ⟨rfl, fun w hw => run_ld1 Try.underlying9 rfl rfl rfl (hw.cell0 HCX.out)⟩) (by assumption) ?_; (conv => arg 6; simp only [Act.put, List.setIfInBounds_toArray, List.set_cons_succ, List.set_cons_zero])
                            iterate 3 (refine wpT_free rfl rfl (.inl ⟨rfl, fun w _ => by go_simp; rfl⟩) (by assumption) ?_; (conv => arg 6; simp only [Act.put, List.setIfInBounds_toArray, List.set_cons_succ, List.set_cons_zero]))
                            refine wpT_done ?_
                            go_wp2_with fail
                            go_roundw
                            case rel => exact ⟨p + 1, false, by omega, by go_num, rfl, hid (by
                              have := hb0.out
                              rw [HTK.out, List.mem_append, List.mem_singleton]
                              constructor
                              · intro h; cases h
                              · rintro (h | h)
                                · exact absurd (this.2 h) (by decide)
                                · exact absurd h.symm hyx), Mz⟩
                            case measure => simp [intOf]; omega
                      · obtain rfl : p = G.length := by omega
                        obtain rfl : b0 = true := hb0.out.2 (by rw [List.take_of_length_le (Nat.le_refl _)]; exact HXG.out)
                        go_wp2_with fail
                        go_roundw
                        case rel => exact ⟨q + 1, by omega, by go_num, Mq.call Mp.below⟩
                        case measure => simp [intOf]; omega
                  · obtain rfl : q = L.length := by omega
                    go_wp2_with fail
                    go_roundw
                    case rel => exact ⟨t + 1, by omega, by go_num, Mt.call Mq.below⟩
                    case measure => simp [intOf]; omega
              · obtain rfl : t = 8 := by omega
                go_wp2_with fail
                go_roundw
                case rel => exact ⟨i + 1, X', H2, _, _, by omega, by go_num, KX.out.below Mt.below, HSUB2, HLEN2, BX.trans (Mt.below.mono BX.size)⟩
                case measure => simp [intOf]; omega
        · have h1000I : (1000 : Int) < (a.s.size : Int) := by omega
          go_wp2_with (first | (refine wpList_ldagg 32 rfl Try.underlying33 rfl rfl rfl rfl (cs := a.cs) (fun j v hv => HCS.out j v hv) sz33 ?_; (conv => arg 5; simp only [Act.put, List.setIfInBounds_toArray, List.set_cons_succ, List.set_cons_zero])) | (refine wpList_al rfl rfl M1 z33 rfl (fun b6 w1 M2 => ?_); clear M1; (conv => arg 5; simp only [Act.put, List.setIfInBounds_toArray, List.set_cons_succ, List.set_cons_zero])) | (refine wpList_strow rfl rfl rfl rfl (vs := a.cs) M2 Swap.head sz33 rfl (box33 _ _ _ _ _) (fun w2 M3 => ?_); clear M2; (conv => arg 5; simp only [Act.put, List.setIfInBounds_toArray, List.set_cons_succ, List.set_cons_zero]); have hact : actAt w2 b6 a := M3.holds _ List.mem_cons_self; have hb6 : wr.heap.size ≤ b6 := (M3.fresh _ List.mem_cons_self b6 rfl).resolve_left (by simp); have HACT := hid hact; clear hact; have c4 := HACT.out.cell 4 _ rfl) | (refine wpList_ldagg 39 rfl Try.underlying33 rfl rfl rfl rfl (off := 0) (cs := a.cs) (fun j v hv => by rw [Nat.zero_add]; exact HACT.out.cell j v hv) sz33 ?_; (conv => arg 5; simp only [Act.put, List.setIfInBounds_toArray, List.set_cons_succ, List.set_cons_zero])) | (go_at_call 7; refine (H7.out _ (K.below M3.below).rs).mono ?_; rintro e w3 ⟨rfl, hact7⟩; clear c4 H7; have HAW := hid hact7; obtain ⟨v1z, _, hg1, _⟩ := hact7; have HA3 := hid (HACT.out.grown hg1 (by omega)); have c0 := HA3.out.cell 0 _ rfl; have B1 := below_grown (B.trans (M3.below.mono B.size)) rfl hg1 hb18; clear hg1))
          go_roundw
          case rel => exact ⟨i + 1, X, H, v1, hv, by omega, by go_num, K.below M3.below, HSUB, hid (fun t G hG => Nat.le_succ_of_le (HLEN.out t G hG)), B.trans (M3.below.mono B.size)⟩
          case measure => simp [intOf]; omega
      · have h150I : ¬ (i : Int) < 150 := by omega
        go_wp2_with (go_at_call 6; refine (alive6 _).mono ?_; rintro e w1 ⟨rfl, M1⟩)
        go_ret
        exact ⟨rfl, B.trans (M1.below.mono B.size)⟩
    · have hltI : ¬ (i : Int) < (acts.length : Int) := by omega
      go_wp2_with (go_at_call 6; refine (alive6 _).mono ?_; rintro e w1 ⟨rfl, M1⟩)
      go_ret
      exact ⟨rfl, B.trans (M1.below.mono B.size)⟩
end Go.Proofs.Ytbofobkpplncaaa
