/- Walks of the onetime layer's laws: OnetimeWrites. -/
import Derived.Test.YtcjfpcajjhccaaaO4
set_option linter.unusedVariables false
set_option linter.unusedSimpArgs false
namespace Go.Proofs.Ytcjfpcajjhccaaa
open Go.RowKit
theorem tag_of_nil : (outTo (leastL (List.replicate 5 0)) (List.replicate 16 0) 16).2 = List.replicate 16 0 := by
  have h0 : Lim 67108872 67108864 (List.replicate 5 0) := ⟨0, 0, 0, 0, 0, rfl, by omega, by omega, by omega, by omega, by omega⟩
  rw [least_spec _ h0, out_spec _ _ (digs_ok (by decide) _ _) (digs_length _ _ _) (digOk_zeros (by decide) 16) (by simp)]
  decide +kernel
set_option maxRecDepth 100000 in
set_option maxHeartbeats 2000000 in
theorem OnetimeWrites11 (key : List Int) (A : Option Addr) (cap : Nat) (ps : List ByteArray) (w : World) (hk : key.length = 32) (hkb : digOk 256 key) (hA : RowS w A ps) (hn : ps.length ≤ maxLen) (hs : ∀ p ∈ ps, p.size ≤ maxLen) :
    Calls Try.prog 11 #[.agg (nums .u8 key).toArray, .slice A ps.length cap] w fun e w' => e = .returned (.bool true) ∧ Below w.heap.size w w' := by
  have M0 := Mem.start w
  have HG := hid (fun w' (h : RowS w' A ps) => great26 A cap ps w' h hn hs)
  obtain ⟨zt, hzt⟩ : ∃ x, x = strOfNums (((List.replicate 16 (0 : Int)).drop 0).take 16) := ⟨_, rfl⟩
  have HN34 := hid (fun w' => Tag34_nil w')
  rw [tag_of_nil, ← cut_all (xs := List.replicate 16 (0 : Int)) (n := 16) (by simp), ← hzt] at HN34
  have HZ := hid hzt.symm
  clear hzt
  go_enter Try.func11, Try.ntmps11
  go_wp2_with (first | (go_at_call 25; refine (alive25 _).mono ?_; rintro e w' ⟨rfl, hb⟩; replace M' := M'.call hb) | (apply wpList_bxN 2; (· rfl); (· rfl); (· rfl); (· rfl); (· assumption); intro b2 w' M'; (conv => arg 5; simp only [Act.put, List.setIfInBounds_toArray, List.set_cons_succ, List.set_cons_zero])) | (apply wpList_ldrowN Try.underlying23 s23; (· rfl); (· rfl); (· rfl); (· rfl); (· assumption); (· (repeat (first | exact List.mem_cons_self | refine List.mem_cons_of_mem _ ?_))); (· (first | with_reducible assumption | omega | (simp only [nums_length, List.length_set, List.length_replicate]; first | with_reducible assumption | omega) | rfl | (simp [*]; done) | (simp [*]; omega))); (conv => arg 5; simp only [Act.put, List.setIfInBounds_toArray, List.set_cons_succ, List.set_cons_zero])) | (apply wpList_wantLd; (· rfl)) | (apply wpList_wantCv; (· rfl)) | (apply wpList_cvS Try.underlying47 Try.underlying5 Try.underlying9; (· rfl); (· rfl); (· rfl); (· assumption); (· (repeat (first | exact List.mem_cons_self | refine List.mem_cons_of_mem _ ?_))); (· (first | with_reducible assumption | omega | (simp only [nums_length, List.length_set, List.length_replicate]; first | with_reducible assumption | omega) | rfl | (simp [*]; done) | (simp [*]; omega))); (conv => arg 5; simp only [Act.put, List.setIfInBounds_toArray, List.set_cons_succ, List.set_cons_zero])))
  refine (HG.out _ (hA.kept (M'.sub (List.nil_sublist _)))).mono ?_
  rintro e w2 ⟨g, rfl, rfl, hg⟩
  cases g with
  | true =>
    clear hg
    go_wp2_with (go_at_call 25; refine (alive25 _).mono ?_; rintro e w' ⟨rfl, hb⟩; replace M' := M'.call hb)
    go_ret
    exact ⟨rfl, M'.below⟩
  | false =>
    obtain ⟨hl, hp⟩ := hg rfl
    have Hkb := hid hkb
    clear hg HG hkb hn hs
    go_wp2_with (first | (apply wpList_bxN 2; (· rfl); (· rfl); (· rfl); (· rfl); (· assumption); intro b2 w' M'; (conv => arg 5; simp only [Act.put, List.setIfInBounds_toArray, List.set_cons_succ, List.set_cons_zero])) | (apply wpList_ldrowN Try.underlying23 s23; (· rfl); (· rfl); (· rfl); (· rfl); (· assumption); (· (repeat (first | exact List.mem_cons_self | refine List.mem_cons_of_mem _ ?_))); (· (first | with_reducible assumption | omega | (simp only [nums_length, List.length_set, List.length_replicate]; first | with_reducible assumption | omega) | rfl | (simp [*]; done) | (simp [*]; omega))); (conv => arg 5; simp only [Act.put, List.setIfInBounds_toArray, List.set_cons_succ, List.set_cons_zero])) | (apply wpList_wantLd; (· rfl)) | (apply wpList_wantCv; (· rfl)) | (apply wpList_cvS Try.underlying47 Try.underlying5 Try.underlying9; (· rfl); (· rfl); (· rfl); (· assumption); (· (repeat (first | exact List.mem_cons_self | refine List.mem_cons_of_mem _ ?_))); (· (first | with_reducible assumption | omega | (simp only [nums_length, List.length_set, List.length_replicate]; first | with_reducible assumption | omega) | rfl | (simp [*]; done) | (simp [*]; omega))); (conv => arg 5; simp only [Act.put, List.setIfInBounds_toArray, List.set_cons_succ, List.set_cons_zero])))
    refine (NewP key _ hk Hkb.out M').mono ?_; rintro e w2 ⟨g, rfl, M2⟩
    clear M'
    go_wp2_with fail
    go_loopw [6, 7] (fun s n wr => ∃ i : Nat, n = .int .i64 i ∧ s = .string (joinAll (ps.take i)) ∧ i ≤ ps.length ∧ i ≤ 8 ∧ Mem w [] wr [PB g key (bytesAll (ps.take i)), .blk b2 (rowO .u8 23 key)]) (fun _ n _ => ps.length - (intOf n).toNat)
    case atStart => exact ⟨0, rfl, rfl, by omega, by omega, M2⟩
    case round =>
      obtain ⟨i, rfl, rfl, hi, hi8, Mi⟩ := hrel
      clear M2
      obtain ⟨bs, hbs⟩ : ∃ x, x = bytesAll (ps.take i) := ⟨_, rfl⟩
      obtain ⟨jn, hjn⟩ : ∃ x, x = joinAll (ps.take i) := ⟨_, rfl⟩
      have hbk : digOk 256 bs := by rw [hbs]; exact bytesAll_ok _
      have hjb : bytesOf jn = bs := by rw [hjn, hbs]; exact joinAll_all _
      have hjs : jn.size ≤ 17000 := by
        have h1 := joinAll_size (ps.take i) 500 (fun q hq => hp q (List.mem_of_mem_take hq))
        have h2 : (ps.take i).length ≤ 30 := by simp; omega
        have h3 := Nat.mul_le_mul_right 500 h2
        rw [hjn]
        omega
      have H28 := hid (fun w' => Tag28k key jn w' hk Hkb.out hjs)
      rw [hjb] at H28
      have H34 := hid (fun (w' : World) (L : List Item) (M : Mem w [] w' L) (hin : PB g key bs ∈ L) => TagPB key hk g bs hbk w' M hin)
      obtain ⟨tg, htg⟩ : ∃ x, x = strOfNums (tagK key bs) := ⟨_, rfl⟩
      rw [← htg] at H28 H34
      rw [← hbs] at Mi
      rw [← hjn]
      have HJ := hid hjn
      have HB := hid hbs
      have Hbk := hid hbk
      have Hjs := hid hjs
      clear htg hjn hbs hbk hjb hjs
      by_cases hgo : i < ps.length ∧ i < 8
      · obtain ⟨hlt, hlt8⟩ := hgo
        have hltI : (i : Int) < (ps.length : Int) := by omega
        have hlt8I : (i : Int) < 8 := by omega
        obtain ⟨p, hpe⟩ : ∃ p, ps[i]? = some p := ⟨ps[i], List.getElem?_eq_getElem hlt⟩
        have hps := hp p (List.mem_of_getElem? hpe)
        have hnext := bytesAll_take ps i p hpe
        have hjnext := joinAll_take ps i p hpe
        obtain ⟨b, off, rfl, hc⟩ := hA i p hpe
        have HN := hid hnext
        have HJN := hid hjnext
        have HC := hid hc
        clear hnext hjnext hpe hc
        go_wp2_with fail
        refine wp_region_planH [(true, 0), (true, 2), (true, 3), (false, 1), (false, 4), (true, 5)] (by kernel_rfl) (by kernel_rfl) (fun _ _ _ _ _ h => h) Mi (fun w1 M1 => ?_)
        clear Mi
        (refine wpPlan_free rfl rfl (.inl ⟨rfl, fun w _ => by go_simp; rfl⟩) (by assumption) ?_; (conv => arg 6; simp only [Act.put, List.setIfInBounds_toArray, List.set_cons_succ, List.set_cons_zero]))
        refine wpPlan_free rfl rfl (.inl ⟨rfl, fun w hw => run_ldrowN Try.underlying23 s23 rfl rfl rfl hw (List.mem_cons_of_mem _ List.mem_cons_self) hk⟩) (by assumption) ?_; (conv => arg 6; simp only [Act.put, List.setIfInBounds_toArray, List.set_cons_succ, List.set_cons_zero])
        (refine wpPlan_free rfl rfl (.inl ⟨rfl, fun w _ => by go_simp; rfl⟩) (by assumption) ?_; (conv => arg 6; simp only [Act.put, List.setIfInBounds_toArray, List.set_cons_succ, List.set_cons_zero]))
        refine wpPlan_op rfl ?_
        go_wp2_with (go_at_call 34; refine (H34.out _ _ M1 List.mem_cons_self).mono ?_; rintro e w' ⟨rfl, M2⟩; replace M1 := M2; clear M2)
        refine PlanQ.mk M1 (wpPlan_op rfl ?_)
        go_wp2_with (go_at_call 28; refine (H28.out _).mono ?_; rintro e w' ⟨rfl, hb⟩; replace M1 := M1.call hb)
        refine PlanQ.mk M1 ?_
        (refine wpPlan_free rfl rfl (.inl ⟨rfl, fun w _ => by go_simp; rfl⟩) (by assumption) ?_; (conv => arg 6; simp only [Act.put, List.setIfInBounds_toArray, List.set_cons_succ, List.set_cons_zero]))
        refine wpPlan_nil ?_
        have hc1 := M1.cell0 HC.out
        go_wp2_with (first | (apply wpList_bsS1 37; (· rfl); (· rfl); (· rfl); (· rfl); (· exact M1); intro b37 w' M2; (conv => arg 5; simp only [Act.put, List.setIfInBounds_toArray, List.set_cons_succ, List.set_cons_zero])))
        refine (WriteP1 key hk g b37 bs Hbk.out p (by omega) _ M2).mono ?_; rintro e w3 ⟨rfl, M3⟩
        have hc2 := M3.cell0 HC.out
        clear hc1 M1 M2
        have hq : p.size ≤ 500 := hps
        have hjs := Hjs.out
        go_wp2_with fail
        go_roundw
        case rel => exact ⟨i + 1, by go_num, by rw [HJN.out, ← HJ.out], by omega, by omega, by rw [HN.out, ← HB.out]; exact M3⟩
        case measure => simp [intOf]; omega
      · have hgo' : i < ps.length → ¬ i < 8 := fun h1 h2 => hgo ⟨h1, h2⟩
        clear hgo HJ HB
        by_cases hlt : i < ps.length
        · have hlt8 := hgo' hlt
          have hltI : (i : Int) < (ps.length : Int) := by omega
          have hlt8I : ¬ (i : Int) < 8 := by omega
          go_wp2_with (first | (apply wpList_bsS1 46; (· rfl); (· rfl); (· rfl); (· rfl); (· exact Mi); intro b46 w' M2; replace Mi := M2.sub (List.sublist_cons_self _ _); clear M2; (conv => arg 5; simp only [Act.put, List.setIfInBounds_toArray, List.set_cons_succ, List.set_cons_zero])) | (go_at_call 35; refine (Write35_nil _ _).mono ?_; rintro e w' ⟨rfl, rfl⟩))
          refine wp_region_planT (.one 0 (.free 1 (.free 2 (.free 4 (.free 5 (.one 3 (.one 6 (.free 7 (.free 8 (.free 9 (.free 10 (.two 11 (.one 12 (.one 13 (.free 14 (.free 15 (.free 16 (.done)))))) 12 (.two 11 (.one 13 (.free 14 (.free 15 (.free 16 (.done))))) 13 (.one 11 (.free 14 (.free 15 (.free 16 (.done)))))))))))))))))) (by kernel_rfl) (by kernel_rfl) (fun _ _ _ _ _ h => h) Mi (fun w1 M1 => ?_)
          clear Mi
          refine wpT_op rfl ?_
          go_wp2_with (go_at_call 25; refine (alive25 _).mono ?_; rintro e w' ⟨rfl, hb⟩; replace M1 := M1.call hb)
          refine PlanTQ.mk M1 ?_
          (refine wpT_free rfl rfl (.inl ⟨rfl, fun w _ => by go_simp; rfl⟩) (by assumption) ?_; (conv => arg 6; simp only [Act.put, List.setIfInBounds_toArray, List.set_cons_succ, List.set_cons_zero]))
          (refine wpT_free rfl rfl (.inl ⟨rfl, fun w _ => by go_simp; rfl⟩) (by assumption) ?_; (conv => arg 6; simp only [Act.put, List.setIfInBounds_toArray, List.set_cons_succ, List.set_cons_zero]))
          refine wpT_free rfl rfl (.inl ⟨rfl, fun w hw => run_ldrowN Try.underlying23 s23 rfl rfl rfl hw (List.mem_cons_of_mem _ List.mem_cons_self) hk⟩) (by assumption) ?_; (conv => arg 6; simp only [Act.put, List.setIfInBounds_toArray, List.set_cons_succ, List.set_cons_zero])
          (refine wpT_free rfl rfl (.inl ⟨rfl, fun w _ => by go_simp; rfl⟩) (by assumption) ?_; (conv => arg 6; simp only [Act.put, List.setIfInBounds_toArray, List.set_cons_succ, List.set_cons_zero]))
          refine wpT_op rfl ?_
          go_wp2_with (go_at_call 34; refine (H34.out _ _ M1 List.mem_cons_self).mono ?_; rintro e w' ⟨rfl, M2⟩; replace M1 := M2; clear M2)
          refine PlanTQ.mk M1 (wpT_op rfl ?_)
          go_wp2_with (go_at_call 28; refine (H28.out _).mono ?_; rintro e w' ⟨rfl, hb⟩; replace M1 := M1.call hb)
          refine PlanTQ.mk M1 ?_
          (refine wpT_free rfl rfl (.inl ⟨rfl, fun w _ => by go_simp; rfl⟩) (by assumption) ?_; (conv => arg 6; simp only [Act.put, List.setIfInBounds_toArray, List.set_cons_succ, List.set_cons_zero]))
          (refine wpT_free rfl rfl (.inl ⟨rfl, fun w _ => by go_simp; rfl⟩) (by assumption) ?_; (conv => arg 6; simp only [Act.put, List.setIfInBounds_toArray, List.set_cons_succ, List.set_cons_zero]))
          (refine wpT_free rfl rfl (.inl ⟨rfl, fun w _ => by go_simp; rfl⟩) (by assumption) ?_; (conv => arg 6; simp only [Act.put, List.setIfInBounds_toArray, List.set_cons_succ, List.set_cons_zero]))
          (refine wpT_free rfl rfl (.inl ⟨rfl, fun w _ => by go_simp; rfl⟩) (by assumption) ?_; (conv => arg 6; simp only [Act.put, List.setIfInBounds_toArray, List.set_cons_succ, List.set_cons_zero]))
          refine wpT_two rfl rfl ?_ ?_
          ·
            go_wp2_with (go_at_call 34; refine (HN34.out _).mono ?_; rintro e w' ⟨rfl, hb⟩; replace M1 := M1.call hb)
            refine PlanTQ.mk M1 (wpT_op rfl ?_)
            refine wpList_want rfl ?_
            refine wpList_mkN 60 16 Try.underlying47 i5 rfl rfl rfl rfl rfl rfl rfl (by decide) (by decide) M1 (fun b60 w' M3 => ?_)
            replace M1 := M3.sub (List.sublist_cons_self _ _)
            (conv => arg 5; simp only [Act.put, List.setIfInBounds_toArray, List.set_cons_succ, List.set_cons_zero])
            go_wp2_with fail
            refine PlanTQ.mk M1 ?_
            refine wpT_op rfl ?_
            refine wpList_want rfl ?_
            refine wpList_cvS Try.underlying47 Try.underlying5 Try.underlying9 rfl rfl rfl M3 List.mem_cons_self (by simp) ?_
            rw [HZ.out]
            (conv => arg 5; simp only [Act.put, List.setIfInBounds_toArray, List.set_cons_succ, List.set_cons_zero])
            go_wp2_with fail
            refine PlanTQ.mk M1 ?_
            (refine wpT_free rfl rfl (.inl ⟨rfl, fun w _ => by go_simp; rfl⟩) (by assumption) ?_; (conv => arg 6; simp only [Act.put, List.setIfInBounds_toArray, List.set_cons_succ, List.set_cons_zero]))
            (refine wpT_free rfl rfl (.inl ⟨rfl, fun w _ => by go_simp; rfl⟩) (by assumption) ?_; (conv => arg 6; simp only [Act.put, List.setIfInBounds_toArray, List.set_cons_succ, List.set_cons_zero]))
            (refine wpT_free rfl rfl (.inl ⟨rfl, fun w _ => by go_simp; rfl⟩) (by assumption) ?_; (conv => arg 6; simp only [Act.put, List.setIfInBounds_toArray, List.set_cons_succ, List.set_cons_zero]))
            refine wpT_done ?_
            go_wp2_with fail
            go_ret
            exact ⟨rfl, M1.below⟩
          ·
            refine wpList_want rfl ?_
            refine wpList_mkN 60 16 Try.underlying47 i5 rfl rfl rfl rfl rfl rfl rfl (by decide) (by decide) M1 (fun b60 w' M3 => ?_)
            replace M1 := M3.sub (List.sublist_cons_self _ _)
            (conv => arg 5; simp only [Act.put, List.setIfInBounds_toArray, List.set_cons_succ, List.set_cons_zero])
            go_wp2_with fail
            refine PlanTQ.mk M1 ?_
            refine wpT_two rfl rfl ?_ ?_
            · replace M1 := M3
              go_wp2_with (go_at_call 34; refine (HN34.out _).mono ?_; rintro e w' ⟨rfl, hb⟩; replace M1 := M1.call hb)
              replace M3 := M1
              replace M1 := M3.sub (List.sublist_cons_self _ _)
              refine PlanTQ.mk M1 (wpT_op rfl ?_)
              refine wpList_want rfl ?_
              refine wpList_cvS Try.underlying47 Try.underlying5 Try.underlying9 rfl rfl rfl M3 List.mem_cons_self (by simp) ?_
              rw [HZ.out]
              (conv => arg 5; simp only [Act.put, List.setIfInBounds_toArray, List.set_cons_succ, List.set_cons_zero])
              go_wp2_with fail
              refine PlanTQ.mk M1 ?_
              (refine wpT_free rfl rfl (.inl ⟨rfl, fun w _ => by go_simp; rfl⟩) (by assumption) ?_; (conv => arg 6; simp only [Act.put, List.setIfInBounds_toArray, List.set_cons_succ, List.set_cons_zero]))
              (refine wpT_free rfl rfl (.inl ⟨rfl, fun w _ => by go_simp; rfl⟩) (by assumption) ?_; (conv => arg 6; simp only [Act.put, List.setIfInBounds_toArray, List.set_cons_succ, List.set_cons_zero]))
              (refine wpT_free rfl rfl (.inl ⟨rfl, fun w _ => by go_simp; rfl⟩) (by assumption) ?_; (conv => arg 6; simp only [Act.put, List.setIfInBounds_toArray, List.set_cons_succ, List.set_cons_zero]))
              refine wpT_done ?_
              go_wp2_with fail
              go_ret
              exact ⟨rfl, M1.below⟩
            ·
              refine wpList_want rfl ?_
              refine wpList_cvS Try.underlying47 Try.underlying5 Try.underlying9 rfl rfl rfl M3 List.mem_cons_self (by simp) ?_
              rw [HZ.out]
              (conv => arg 5; simp only [Act.put, List.setIfInBounds_toArray, List.set_cons_succ, List.set_cons_zero])
              go_wp2_with fail
              refine PlanTQ.mk M1 ?_
              refine wpT_op rfl ?_
              go_wp2_with (go_at_call 34; refine (HN34.out _).mono ?_; rintro e w' ⟨rfl, hb⟩; replace M1 := M1.call hb)
              refine PlanTQ.mk M1 ?_
              (refine wpT_free rfl rfl (.inl ⟨rfl, fun w _ => by go_simp; rfl⟩) (by assumption) ?_; (conv => arg 6; simp only [Act.put, List.setIfInBounds_toArray, List.set_cons_succ, List.set_cons_zero]))
              (refine wpT_free rfl rfl (.inl ⟨rfl, fun w _ => by go_simp; rfl⟩) (by assumption) ?_; (conv => arg 6; simp only [Act.put, List.setIfInBounds_toArray, List.set_cons_succ, List.set_cons_zero]))
              (refine wpT_free rfl rfl (.inl ⟨rfl, fun w _ => by go_simp; rfl⟩) (by assumption) ?_; (conv => arg 6; simp only [Act.put, List.setIfInBounds_toArray, List.set_cons_succ, List.set_cons_zero]))
              refine wpT_done ?_
              go_wp2_with fail
              go_ret
              exact ⟨rfl, M1.below⟩
        · have hltI : ¬ (i : Int) < (ps.length : Int) := by omega
          go_wp2_with (first | (apply wpList_bsS1 46; (· rfl); (· rfl); (· rfl); (· rfl); (· exact Mi); intro b46 w' M2; replace Mi := M2.sub (List.sublist_cons_self _ _); clear M2; (conv => arg 5; simp only [Act.put, List.setIfInBounds_toArray, List.set_cons_succ, List.set_cons_zero])) | (go_at_call 35; refine (Write35_nil _ _).mono ?_; rintro e w' ⟨rfl, rfl⟩))
          refine wp_region_planT (.one 0 (.free 1 (.free 2 (.free 4 (.free 5 (.one 3 (.one 6 (.free 7 (.free 8 (.free 9 (.free 10 (.two 11 (.one 12 (.one 13 (.free 14 (.free 15 (.free 16 (.done)))))) 12 (.two 11 (.one 13 (.free 14 (.free 15 (.free 16 (.done))))) 13 (.one 11 (.free 14 (.free 15 (.free 16 (.done)))))))))))))))))) (by kernel_rfl) (by kernel_rfl) (fun _ _ _ _ _ h => h) Mi (fun w1 M1 => ?_)
          clear Mi
          refine wpT_op rfl ?_
          go_wp2_with (go_at_call 25; refine (alive25 _).mono ?_; rintro e w' ⟨rfl, hb⟩; replace M1 := M1.call hb)
          refine PlanTQ.mk M1 ?_
          (refine wpT_free rfl rfl (.inl ⟨rfl, fun w _ => by go_simp; rfl⟩) (by assumption) ?_; (conv => arg 6; simp only [Act.put, List.setIfInBounds_toArray, List.set_cons_succ, List.set_cons_zero]))
          (refine wpT_free rfl rfl (.inl ⟨rfl, fun w _ => by go_simp; rfl⟩) (by assumption) ?_; (conv => arg 6; simp only [Act.put, List.setIfInBounds_toArray, List.set_cons_succ, List.set_cons_zero]))
          refine wpT_free rfl rfl (.inl ⟨rfl, fun w hw => run_ldrowN Try.underlying23 s23 rfl rfl rfl hw (List.mem_cons_of_mem _ List.mem_cons_self) hk⟩) (by assumption) ?_; (conv => arg 6; simp only [Act.put, List.setIfInBounds_toArray, List.set_cons_succ, List.set_cons_zero])
          (refine wpT_free rfl rfl (.inl ⟨rfl, fun w _ => by go_simp; rfl⟩) (by assumption) ?_; (conv => arg 6; simp only [Act.put, List.setIfInBounds_toArray, List.set_cons_succ, List.set_cons_zero]))
          refine wpT_op rfl ?_
          go_wp2_with (go_at_call 34; refine (H34.out _ _ M1 List.mem_cons_self).mono ?_; rintro e w' ⟨rfl, M2⟩; replace M1 := M2; clear M2)
          refine PlanTQ.mk M1 (wpT_op rfl ?_)
          go_wp2_with (go_at_call 28; refine (H28.out _).mono ?_; rintro e w' ⟨rfl, hb⟩; replace M1 := M1.call hb)
          refine PlanTQ.mk M1 ?_
          (refine wpT_free rfl rfl (.inl ⟨rfl, fun w _ => by go_simp; rfl⟩) (by assumption) ?_; (conv => arg 6; simp only [Act.put, List.setIfInBounds_toArray, List.set_cons_succ, List.set_cons_zero]))
          (refine wpT_free rfl rfl (.inl ⟨rfl, fun w _ => by go_simp; rfl⟩) (by assumption) ?_; (conv => arg 6; simp only [Act.put, List.setIfInBounds_toArray, List.set_cons_succ, List.set_cons_zero]))
          (refine wpT_free rfl rfl (.inl ⟨rfl, fun w _ => by go_simp; rfl⟩) (by assumption) ?_; (conv => arg 6; simp only [Act.put, List.setIfInBounds_toArray, List.set_cons_succ, List.set_cons_zero]))
          (refine wpT_free rfl rfl (.inl ⟨rfl, fun w _ => by go_simp; rfl⟩) (by assumption) ?_; (conv => arg 6; simp only [Act.put, List.setIfInBounds_toArray, List.set_cons_succ, List.set_cons_zero]))
          refine wpT_two rfl rfl ?_ ?_
          ·
            go_wp2_with (go_at_call 34; refine (HN34.out _).mono ?_; rintro e w' ⟨rfl, hb⟩; replace M1 := M1.call hb)
            refine PlanTQ.mk M1 (wpT_op rfl ?_)
            refine wpList_want rfl ?_
            refine wpList_mkN 60 16 Try.underlying47 i5 rfl rfl rfl rfl rfl rfl rfl (by decide) (by decide) M1 (fun b60 w' M3 => ?_)
            replace M1 := M3.sub (List.sublist_cons_self _ _)
            (conv => arg 5; simp only [Act.put, List.setIfInBounds_toArray, List.set_cons_succ, List.set_cons_zero])
            go_wp2_with fail
            refine PlanTQ.mk M1 ?_
            refine wpT_op rfl ?_
            refine wpList_want rfl ?_
            refine wpList_cvS Try.underlying47 Try.underlying5 Try.underlying9 rfl rfl rfl M3 List.mem_cons_self (by simp) ?_
            rw [HZ.out]
            (conv => arg 5; simp only [Act.put, List.setIfInBounds_toArray, List.set_cons_succ, List.set_cons_zero])
            go_wp2_with fail
            refine PlanTQ.mk M1 ?_
            (refine wpT_free rfl rfl (.inl ⟨rfl, fun w _ => by go_simp; rfl⟩) (by assumption) ?_; (conv => arg 6; simp only [Act.put, List.setIfInBounds_toArray, List.set_cons_succ, List.set_cons_zero]))
            (refine wpT_free rfl rfl (.inl ⟨rfl, fun w _ => by go_simp; rfl⟩) (by assumption) ?_; (conv => arg 6; simp only [Act.put, List.setIfInBounds_toArray, List.set_cons_succ, List.set_cons_zero]))
            (refine wpT_free rfl rfl (.inl ⟨rfl, fun w _ => by go_simp; rfl⟩) (by assumption) ?_; (conv => arg 6; simp only [Act.put, List.setIfInBounds_toArray, List.set_cons_succ, List.set_cons_zero]))
            refine wpT_done ?_
            go_wp2_with fail
            go_ret
            exact ⟨rfl, M1.below⟩
          ·
            refine wpList_want rfl ?_
            refine wpList_mkN 60 16 Try.underlying47 i5 rfl rfl rfl rfl rfl rfl rfl (by decide) (by decide) M1 (fun b60 w' M3 => ?_)
            replace M1 := M3.sub (List.sublist_cons_self _ _)
            (conv => arg 5; simp only [Act.put, List.setIfInBounds_toArray, List.set_cons_succ, List.set_cons_zero])
            go_wp2_with fail
            refine PlanTQ.mk M1 ?_
            refine wpT_two rfl rfl ?_ ?_
            · replace M1 := M3
              go_wp2_with (go_at_call 34; refine (HN34.out _).mono ?_; rintro e w' ⟨rfl, hb⟩; replace M1 := M1.call hb)
              replace M3 := M1
              replace M1 := M3.sub (List.sublist_cons_self _ _)
              refine PlanTQ.mk M1 (wpT_op rfl ?_)
              refine wpList_want rfl ?_
              refine wpList_cvS Try.underlying47 Try.underlying5 Try.underlying9 rfl rfl rfl M3 List.mem_cons_self (by simp) ?_
              rw [HZ.out]
              (conv => arg 5; simp only [Act.put, List.setIfInBounds_toArray, List.set_cons_succ, List.set_cons_zero])
              go_wp2_with fail
              refine PlanTQ.mk M1 ?_
              (refine wpT_free rfl rfl (.inl ⟨rfl, fun w _ => by go_simp; rfl⟩) (by assumption) ?_; (conv => arg 6; simp only [Act.put, List.setIfInBounds_toArray, List.set_cons_succ, List.set_cons_zero]))
              (refine wpT_free rfl rfl (.inl ⟨rfl, fun w _ => by go_simp; rfl⟩) (by assumption) ?_; (conv => arg 6; simp only [Act.put, List.setIfInBounds_toArray, List.set_cons_succ, List.set_cons_zero]))
              (refine wpT_free rfl rfl (.inl ⟨rfl, fun w _ => by go_simp; rfl⟩) (by assumption) ?_; (conv => arg 6; simp only [Act.put, List.setIfInBounds_toArray, List.set_cons_succ, List.set_cons_zero]))
              refine wpT_done ?_
              go_wp2_with fail
              go_ret
              exact ⟨rfl, M1.below⟩
            ·
              refine wpList_want rfl ?_
              refine wpList_cvS Try.underlying47 Try.underlying5 Try.underlying9 rfl rfl rfl M3 List.mem_cons_self (by simp) ?_
              rw [HZ.out]
              (conv => arg 5; simp only [Act.put, List.setIfInBounds_toArray, List.set_cons_succ, List.set_cons_zero])
              go_wp2_with fail
              refine PlanTQ.mk M1 ?_
              refine wpT_op rfl ?_
              go_wp2_with (go_at_call 34; refine (HN34.out _).mono ?_; rintro e w' ⟨rfl, hb⟩; replace M1 := M1.call hb)
              refine PlanTQ.mk M1 ?_
              (refine wpT_free rfl rfl (.inl ⟨rfl, fun w _ => by go_simp; rfl⟩) (by assumption) ?_; (conv => arg 6; simp only [Act.put, List.setIfInBounds_toArray, List.set_cons_succ, List.set_cons_zero]))
              (refine wpT_free rfl rfl (.inl ⟨rfl, fun w _ => by go_simp; rfl⟩) (by assumption) ?_; (conv => arg 6; simp only [Act.put, List.setIfInBounds_toArray, List.set_cons_succ, List.set_cons_zero]))
              (refine wpT_free rfl rfl (.inl ⟨rfl, fun w _ => by go_simp; rfl⟩) (by assumption) ?_; (conv => arg 6; simp only [Act.put, List.setIfInBounds_toArray, List.set_cons_succ, List.set_cons_zero]))
              refine wpT_done ?_
              go_wp2_with fail
              go_ret
              exact ⟨rfl, M1.below⟩
end Go.Proofs.Ytcjfpcajjhccaaa
