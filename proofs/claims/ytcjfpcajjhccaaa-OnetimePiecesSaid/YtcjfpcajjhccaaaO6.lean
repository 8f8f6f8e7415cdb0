/- Walks of the onetime layer's laws: OnetimePieces. -/
import Derived.Test.YtcjfpcajjhccaaaO5
set_option linter.unusedVariables false
set_option linter.unusedSimpArgs false
namespace Go.Proofs.Ytcjfpcajjhccaaa
open Go.RowKit
theorem extract_bytes' (s : ByteArray) (i j : Nat) : bytesOf (s.extract i j) = ((bytesOf s).drop i).take (j - i) := by
  simp [bytesOf, ByteArray.data_extract, List.map_take, List.map_drop]
theorem c39 : Try.prog.cellsOf 39 = 1 := by kernel_rfl
/-- A slice of numbers among the arguments. -/
theorem opened_u16 {H : Type} {enc : TypeId × Value → H} {W : World} {base : Nat} {v : Value} {d : DataW H} {p : List MemPlace} (hv : Value.okWide Try.prog W Reach.any base 60 v) (h : DataW.Trod enc Try.prog W 0 (fun _ => true) true 60 v d p) :
    ∃ (A : Option Addr) (cap : Nat) (xs : List Int), v = .slice A xs.length cap ∧ RowR .u16 W A xs ∧ xs.length ≤ maxLen ∧ ∀ x ∈ xs, (Lit.int .u16 x).wf = true := by
  obtain ⟨a0, len0, cap0, rfl⟩ := Go.WideShapes.okWide_slice Try.underlying60 hv
  obtain ⟨fuel, hf⟩ := h
  rcases Go.ChangeShapes.open_ints Try.underlying60 Try.underlying39 c39 hf with ⟨hcs, hx⟩ | ⟨a, len, cap, zs, hcs, _, hl, hm, hz, hx, hcell, hsz⟩
  · have hcs' : Value.slice a0 len0 cap0 = .slice none 0 0 := by simpa [Value.cells] using hcs
    injection hcs' with h1 h2 h3
    subst h1 h2 h3
    exact ⟨none, 0, [], rfl, fun i s h => by simp at h, by decide, fun p hp => by simp at hp⟩
  · have hcs' : Value.slice a0 len0 cap0 = .slice (some a) len cap := by simpa [Value.cells] using hcs
    injection hcs' with h1 h2 h3
    subst h1 h2 h3
    rw [if_pos rfl] at hz
    have hlen : (zs.take len0).length = len0 := by rw [List.length_take]; omega
    refine ⟨some a, cap0, zs.take len0, by rw [hlen], ?_, by rw [hlen]; omega, fun p hp => hsz p (List.mem_of_mem_take hp)⟩
    intro i s hi
    have hi' : i < len0 := by
      have := (List.getElem?_eq_some_iff.1 hi).1
      omega
    have h0 := hcell 0 (by omega)
    obtain ⟨b, off, spot⟩ := a
    have hspot : spot = none := by simpa [Addr.add] using World.cell?_spot h0
    subst hspot
    refine ⟨b, off, rfl, ?_⟩
    have hc := hcell i (by omega)
    rw [Addr.add_lit] at hc
    rw [hc]
    rw [List.getElem?_take_of_lt hi'] at hi
    simp [List.getD_eq_getElem?_getD, hi]
set_option maxRecDepth 100000 in
set_option maxHeartbeats 2000000 in
theorem OnetimePieces12 (key : List Int) (text : ByteArray) (A : Option Addr) (cap : Nat) (xs : List Int) (w : World) (hk : key.length = 32) (hkb : digOk 256 key) (ht : text.size ≤ maxLen) (hA : RowR .u16 w A xs) (hn : xs.length ≤ maxLen) (hs : ∀ x ∈ xs, 0 ≤ x ∧ x < 65536) :
    Calls Try.prog 12 #[.agg (nums .u8 key).toArray, .string text, .slice A xs.length cap] w fun e w' => e = .returned (.bool true) ∧ Below w.heap.size w w' := by
  have M0 := Mem.start w
  by_cases h2 : text.size ≤ 2000
  · have h2I : ¬ (2000 : Int) < (text.size : Int) := by omega
    have Hkb := hid hkb
    obtain ⟨tl, htl⟩ : ∃ x, x = bytesOf text := ⟨_, rfl⟩
    have ltl : tl.length = text.size := by rw [htl, bytesOf_length]
    have tok : digOk 256 tl := fun x hx => by rw [htl] at hx; exact bytesOf_all text x hx
    have HT := hid htl
    have Htok := hid tok
    have H27 := hid (fun (w' : World) (b : Nat) (h : RowS w' (some ⟨b, 0, none⟩) [text]) => Tag27 key (.slice (some ⟨b, 0, none⟩) 1 1) [text] w' hk hkb (fun g hg => h.strs g hg) (by simp) (fun p h => by simp at h; subst h; omega))
    have e1 : bytesAll [text] = tl := by rw [htl]; simp [bytesAll]
    rw [e1] at H27
    have H34 := hid (fun (w' : World) (g : Nat) (L : List Item) (M : Mem w [] w' L) (hin : PB g key tl ∈ L) => TagPB key hk g tl tok w' M hin)
    obtain ⟨tg, htg⟩ : ∃ x, x = strOfNums (tagK key tl) := ⟨_, rfl⟩
    have htl16 : tg.size = 16 := by rw [htg, strOfNums_size, tag_eq key tl hk hkb tok, tagV, digs_length]
    rw [← htg] at H27 H34
    clear hkb htl htg tok e1
    go_enter Try.func12, Try.ntmps12
    go_wp2_with (first | (go_at_call 25; refine (alive25 _).mono ?_; rintro e w' ⟨rfl, hb⟩; replace M' := M'.call hb) | (apply wpList_bxN 3; (· rfl); (· rfl); (· rfl); (· rfl); (· assumption); intro b3 w' M'; (conv => arg 5; simp only [Act.put, List.setIfInBounds_toArray, List.set_cons_succ, List.set_cons_zero])) | (apply wpList_ldrowN Try.underlying23 s23; (· rfl); (· rfl); (· rfl); (· rfl); (· assumption); (· (repeat (first | exact List.mem_cons_self | refine List.mem_cons_of_mem _ ?_))); (· (first | with_reducible assumption | omega | (simp only [nums_length, List.length_set, List.length_replicate]; first | with_reducible assumption | omega) | rfl | (simp [*]; done) | (simp [*]; omega))); (conv => arg 5; simp only [Act.put, List.setIfInBounds_toArray, List.set_cons_succ, List.set_cons_zero])) | (apply wpList_ldN Try.underlying39; (· rfl); (· rfl); (· rfl); (· rfl); (· assumption); (· (repeat (first | exact List.mem_cons_self | refine List.mem_cons_of_mem _ ?_))); (· (first | with_reducible assumption | omega | (simp only [nums_length, List.length_set, List.length_replicate]; first | with_reducible assumption | omega) | rfl | (simp [*]; done) | (simp [*]; omega))); (conv => arg 5; simp only [Act.put, List.setIfInBounds_toArray, List.set_cons_succ, List.set_cons_zero])) | (apply wpList_wantLd; (· rfl)))
    refine (NewP key _ hk Hkb.out M').mono ?_; rintro e w2 ⟨g, rfl, M2⟩
    clear M'
    go_wp2_with fail
    go_loopw [8, 9] (fun a n wr => ∃ c i : Nat, n = .int .i64 i ∧ a = .int .i64 c ∧ c ≤ text.size ∧ i ≤ xs.length ∧ i ≤ 40 ∧ Mem w [] wr [PB g key (tl.take c), .blk b3 (rowO .u8 23 key)]) (fun _ n _ => xs.length - (intOf n).toNat)
    case atStart => exact ⟨0, 0, rfl, rfl, by omega, by omega, by omega, M2⟩
    case round =>
      obtain ⟨c, i, rfl, rfl, hc, hi, hi40, Mi⟩ := hrel
      clear M2
      by_cases hgo : i < xs.length ∧ i < 40
      · obtain ⟨hlt, hlt40⟩ := hgo
        have hltI : (i : Int) < (xs.length : Int) := by omega
        have hlt40I : (i : Int) < 40 := by omega
        obtain ⟨b, off, rfl, hcx⟩ := hA.at hlt
        have hx := hs (rd xs i) (by rw [rd, List.getD_eq_getElem?_getD, List.getElem?_eq_getElem hlt]; exact List.getElem_mem hlt)
        obtain ⟨x, hxe⟩ : ∃ x, x = rd xs i := ⟨_, rfl⟩
        rw [← hxe] at hcx hx
        have hcc := Mi.cell0 hcx
        clear hxe hcx
        obtain ⟨x0, x1⟩ := hx
        have hcI : (c : Int) ≤ (text.size : Int) := by omega
        have dpos : 0 < (text.size : Int) - (c : Int) + 1 := by omega
        obtain ⟨n, hn2⟩ : ∃ n : Nat, (n : Int) = x % ((text.size : Int) - (c : Int) + 1) := ⟨(x % ((text.size : Int) - (c : Int) + 1)).toNat, by have := Int.emod_nonneg x (show (text.size : Int) - (c : Int) + 1 ≠ 0 by omega); omega⟩
        have hn3 : c + n ≤ text.size := by have := Int.emod_lt_of_pos x dpos; omega
        have hn3I : (c : Int) + (n : Int) ≤ (text.size : Int) := by omega
        have m1 : x.tmod ((text.size : Int) - (c : Int) + 1) = (n : Int) := by rw [Int.tmod_eq_emod_of_nonneg x0]; exact hn2.symm
        have m2 : x % ((text.size : Int) - (c : Int) + 1) = (n : Int) := hn2.symm
        clear hn2
        have hex : bytesOf (text.extract c (c + n)) = (tl.drop c).take n := by rw [extract_bytes', HT.out, Nat.add_sub_cancel_left]
        have hes : (text.extract c (c + n)).size ≤ 1000000 := by simp; omega
        have hnext : tl.take c ++ bytesOf (text.extract c (c + n)) = tl.take (c + n) := by rw [hex, List.take_add]
        have HN := hid hnext
        have HE := hid hes
        clear hex hes hnext
        have dne : ¬ (text.size : Int) - (c : Int) + 1 = 0 := by omega
        go_wp2_with (first | (apply wpList_bsS1 47; (· rfl); (· rfl); (· rfl); (· rfl); (· exact Mi); intro b47 w' M2; (conv => arg 5; simp only [Act.put, List.setIfInBounds_toArray, List.set_cons_succ, List.set_cons_zero])))
        refine (WriteP1 key hk g b47 _ (digOk_take Htok.out c) _ HE.out _ M2).mono ?_; rintro e w3 ⟨rfl, M3⟩
        rw [HN.out] at M3
        clear Mi M2
        go_wp2_with fail
        go_roundw
        case rel => exact ⟨c + n, i + 1, by go_num, by go_num, by omega, by omega, by omega, M3⟩
        case measure => simp [intOf]; omega
      · have hgo' : i < xs.length → ¬ i < 40 := fun h1 h2 => hgo ⟨h1, h2⟩
        have hcI : (c : Int) ≤ (text.size : Int) := by omega
        have hex : bytesOf (text.extract c text.size) = tl.drop c := by rw [extract_bytes', HT.out, List.take_of_length_le]; rw [List.length_drop, ← HT.out, ltl]; omega
        have hes : (text.extract c text.size).size ≤ 1000000 := by simp; omega
        have hnext : tl.take c ++ bytesOf (text.extract c text.size) = tl := by rw [hex, List.take_append_drop]
        have HN := hid hnext
        have HE := hid hes
        clear hgo hex hes hnext
        by_cases hlt : i < xs.length
        · have hlt40 := hgo' hlt
          have hltI : (i : Int) < (xs.length : Int) := by omega
          have hlt40I : ¬ (i : Int) < 40 := by omega
          go_wp2_with (first | (apply wpList_bsS1 56; (· rfl); (· rfl); (· rfl); (· rfl); (· exact Mi); intro b56 w' M2; (conv => arg 5; simp only [Act.put, List.setIfInBounds_toArray, List.set_cons_succ, List.set_cons_zero])))
          refine (WriteP1 key hk g b56 _ (digOk_take Htok.out c) _ HE.out _ M2).mono ?_; rintro e w3 ⟨rfl, M3⟩
          rw [HN.out] at M3
          clear Mi M2
          go_wp2_with fail
          refine wp_region_planT (.one 0 (.free 1 (.free 2 (.free 4 (.free 5 (.two 3 (.one 6 (.one 7 (.free 8 (.free 9 (.free 10 (.free 11 (.one 12 (.free 13 (.free 14 (.free 15 (.free 16 (.done)))))))))))) 6 (.one 3 (.one 7 (.free 8 (.free 9 (.free 10 (.free 11 (.one 12 (.free 13 (.free 14 (.free 15 (.free 16 (.done)))))))))))))))))) (by kernel_rfl) (by kernel_rfl) (fun _ _ _ _ _ h => h) M3 (fun w1 M1 => ?_)
          clear M3
          refine wpT_op rfl ?_
          go_wp2_with (go_at_call 25; refine (alive25 _).mono ?_; rintro e w' ⟨rfl, hb⟩; replace M1 := M1.call hb)
          refine PlanTQ.mk M1 ?_
          (refine wpT_free rfl rfl (.inl ⟨rfl, fun w _ => by go_simp; rfl⟩) (by assumption) ?_; (conv => arg 6; simp only [Act.put, List.setIfInBounds_toArray, List.set_cons_succ, List.set_cons_zero]))
          (refine wpT_free rfl rfl (.inl ⟨rfl, fun w _ => by go_simp; rfl⟩) (by assumption) ?_; (conv => arg 6; simp only [Act.put, List.setIfInBounds_toArray, List.set_cons_succ, List.set_cons_zero]))
          refine wpT_free rfl rfl (.inl ⟨rfl, fun w hw => run_ldrowN Try.underlying23 s23 rfl rfl rfl hw (List.mem_cons_of_mem _ List.mem_cons_self) hk⟩) (by assumption) ?_; (conv => arg 6; simp only [Act.put, List.setIfInBounds_toArray, List.set_cons_succ, List.set_cons_zero])
          (refine wpT_free rfl rfl (.inl ⟨rfl, fun w _ => by go_simp; rfl⟩) (by assumption) ?_; (conv => arg 6; simp only [Act.put, List.setIfInBounds_toArray, List.set_cons_succ, List.set_cons_zero]))
          refine wpT_two rfl rfl ?_ ?_
          ·
            go_wp2_with (go_at_call 34; refine (H34.out _ _ _ M1 List.mem_cons_self).mono ?_; rintro e w' ⟨rfl, M2⟩; replace M1 := M2; clear M2)
            refine PlanTQ.mk M1 (wpT_op rfl ?_)
            refine wpList_want rfl ?_
            refine wpList_bsS1 64 rfl rfl rfl rfl M1 (fun b64 w' M3 => ?_)
            (conv => arg 5; simp only [Act.put, List.setIfInBounds_toArray, List.set_cons_succ, List.set_cons_zero])
            go_wp2_with fail
            refine PlanTQ.mk (M3.sub (List.sublist_cons_self _ _)) ?_
            have hR := M3.rowStr List.mem_cons_self
            replace M1 := M3.sub (List.sublist_cons_self _ _)
            clear M3
            refine wpT_op rfl ?_
            go_wp2_with (go_at_call 27; refine (H27.out _ _ hR).mono ?_; rintro e w' ⟨rfl, hb⟩; replace M1 := M1.call hb)
            refine PlanTQ.mk M1 ?_
            (refine wpT_free rfl rfl (.inl ⟨rfl, fun w _ => by go_simp; rfl⟩) (by assumption) ?_; (conv => arg 6; simp only [Act.put, List.setIfInBounds_toArray, List.set_cons_succ, List.set_cons_zero]))
            (refine wpT_free rfl rfl (.inl ⟨rfl, fun w _ => by go_simp; rfl⟩) (by assumption) ?_; (conv => arg 6; simp only [Act.put, List.setIfInBounds_toArray, List.set_cons_succ, List.set_cons_zero]))
            (refine wpT_free rfl rfl (.inl ⟨rfl, fun w _ => by go_simp; rfl⟩) (by assumption) ?_; (conv => arg 6; simp only [Act.put, List.setIfInBounds_toArray, List.set_cons_succ, List.set_cons_zero]))
            (refine wpT_free rfl rfl (.inl ⟨rfl, fun w _ => by go_simp; rfl⟩) (by assumption) ?_; (conv => arg 6; simp only [Act.put, List.setIfInBounds_toArray, List.set_cons_succ, List.set_cons_zero]))
            refine wpT_op rfl ?_
            go_wp2_with (go_at_call 34; refine (H34.out _ _ _ M1 List.mem_cons_self).mono ?_; rintro e w' ⟨rfl, M2⟩; replace M1 := M2; clear M2)
            refine PlanTQ.mk M1 ?_
            (refine wpT_free rfl rfl (.inl ⟨rfl, fun w _ => by go_simp; rfl⟩) (by assumption) ?_; (conv => arg 6; simp only [Act.put, List.setIfInBounds_toArray, List.set_cons_succ, List.set_cons_zero]))
            (refine wpT_free rfl rfl (.inl ⟨rfl, fun w _ => by go_simp; rfl⟩) (by assumption) ?_; (conv => arg 6; simp only [Act.put, List.setIfInBounds_toArray, List.set_cons_succ, List.set_cons_zero]))
            (refine wpT_free rfl rfl (.inl ⟨rfl, fun w _ => by go_simp; rfl⟩) (by assumption) ?_; (conv => arg 6; simp only [Act.put, List.setIfInBounds_toArray, List.set_cons_succ, List.set_cons_zero]))
            (refine wpT_free rfl rfl (.inl ⟨rfl, fun w _ => by go_simp; rfl⟩) (by assumption) ?_; (conv => arg 6; simp only [Act.put, List.setIfInBounds_toArray, List.set_cons_succ, List.set_cons_zero]))
            refine wpT_done ?_
            go_wp2_with fail
            go_ret
            exact ⟨rfl, M1.below⟩
          ·
            refine wpList_want rfl ?_
            refine wpList_bsS1 64 rfl rfl rfl rfl M1 (fun b64 w' M3 => ?_)
            (conv => arg 5; simp only [Act.put, List.setIfInBounds_toArray, List.set_cons_succ, List.set_cons_zero])
            go_wp2_with fail
            refine PlanTQ.mk (M3.sub (List.sublist_cons_self _ _)) ?_
            refine wpT_op rfl ?_
            go_wp2_with (go_at_call 34; refine (H34.out _ _ _ M3 (List.mem_cons_of_mem _ List.mem_cons_self)).mono ?_; rintro e w' ⟨rfl, M2⟩; replace M3 := M2; clear M2)
            have hR := M3.rowStr List.mem_cons_self
            replace M1 := M3.sub (List.sublist_cons_self _ _)
            clear M3
            refine PlanTQ.mk M1 ?_
            refine wpT_op rfl ?_
            go_wp2_with (go_at_call 27; refine (H27.out _ _ hR).mono ?_; rintro e w' ⟨rfl, hb⟩; replace M1 := M1.call hb)
            refine PlanTQ.mk M1 ?_
            (refine wpT_free rfl rfl (.inl ⟨rfl, fun w _ => by go_simp; rfl⟩) (by assumption) ?_; (conv => arg 6; simp only [Act.put, List.setIfInBounds_toArray, List.set_cons_succ, List.set_cons_zero]))
            (refine wpT_free rfl rfl (.inl ⟨rfl, fun w _ => by go_simp; rfl⟩) (by assumption) ?_; (conv => arg 6; simp only [Act.put, List.setIfInBounds_toArray, List.set_cons_succ, List.set_cons_zero]))
            (refine wpT_free rfl rfl (.inl ⟨rfl, fun w _ => by go_simp; rfl⟩) (by assumption) ?_; (conv => arg 6; simp only [Act.put, List.setIfInBounds_toArray, List.set_cons_succ, List.set_cons_zero]))
            (refine wpT_free rfl rfl (.inl ⟨rfl, fun w _ => by go_simp; rfl⟩) (by assumption) ?_; (conv => arg 6; simp only [Act.put, List.setIfInBounds_toArray, List.set_cons_succ, List.set_cons_zero]))
            refine wpT_op rfl ?_
            go_wp2_with (go_at_call 34; refine (H34.out _ _ _ M1 List.mem_cons_self).mono ?_; rintro e w' ⟨rfl, M2⟩; replace M1 := M2; clear M2)
            refine PlanTQ.mk M1 ?_
            (refine wpT_free rfl rfl (.inl ⟨rfl, fun w _ => by go_simp; rfl⟩) (by assumption) ?_; (conv => arg 6; simp only [Act.put, List.setIfInBounds_toArray, List.set_cons_succ, List.set_cons_zero]))
            (refine wpT_free rfl rfl (.inl ⟨rfl, fun w _ => by go_simp; rfl⟩) (by assumption) ?_; (conv => arg 6; simp only [Act.put, List.setIfInBounds_toArray, List.set_cons_succ, List.set_cons_zero]))
            (refine wpT_free rfl rfl (.inl ⟨rfl, fun w _ => by go_simp; rfl⟩) (by assumption) ?_; (conv => arg 6; simp only [Act.put, List.setIfInBounds_toArray, List.set_cons_succ, List.set_cons_zero]))
            (refine wpT_free rfl rfl (.inl ⟨rfl, fun w _ => by go_simp; rfl⟩) (by assumption) ?_; (conv => arg 6; simp only [Act.put, List.setIfInBounds_toArray, List.set_cons_succ, List.set_cons_zero]))
            refine wpT_done ?_
            go_wp2_with fail
            go_ret
            exact ⟨rfl, M1.below⟩
        · have hltI : ¬ (i : Int) < (xs.length : Int) := by omega
          go_wp2_with (first | (apply wpList_bsS1 56; (· rfl); (· rfl); (· rfl); (· rfl); (· exact Mi); intro b56 w' M2; (conv => arg 5; simp only [Act.put, List.setIfInBounds_toArray, List.set_cons_succ, List.set_cons_zero])))
          refine (WriteP1 key hk g b56 _ (digOk_take Htok.out c) _ HE.out _ M2).mono ?_; rintro e w3 ⟨rfl, M3⟩
          rw [HN.out] at M3
          clear Mi M2
          go_wp2_with fail
          refine wp_region_planT (.one 0 (.free 1 (.free 2 (.free 4 (.free 5 (.two 3 (.one 6 (.one 7 (.free 8 (.free 9 (.free 10 (.free 11 (.one 12 (.free 13 (.free 14 (.free 15 (.free 16 (.done)))))))))))) 6 (.one 3 (.one 7 (.free 8 (.free 9 (.free 10 (.free 11 (.one 12 (.free 13 (.free 14 (.free 15 (.free 16 (.done)))))))))))))))))) (by kernel_rfl) (by kernel_rfl) (fun _ _ _ _ _ h => h) M3 (fun w1 M1 => ?_)
          clear M3
          refine wpT_op rfl ?_
          go_wp2_with (go_at_call 25; refine (alive25 _).mono ?_; rintro e w' ⟨rfl, hb⟩; replace M1 := M1.call hb)
          refine PlanTQ.mk M1 ?_
          (refine wpT_free rfl rfl (.inl ⟨rfl, fun w _ => by go_simp; rfl⟩) (by assumption) ?_; (conv => arg 6; simp only [Act.put, List.setIfInBounds_toArray, List.set_cons_succ, List.set_cons_zero]))
          (refine wpT_free rfl rfl (.inl ⟨rfl, fun w _ => by go_simp; rfl⟩) (by assumption) ?_; (conv => arg 6; simp only [Act.put, List.setIfInBounds_toArray, List.set_cons_succ, List.set_cons_zero]))
          refine wpT_free rfl rfl (.inl ⟨rfl, fun w hw => run_ldrowN Try.underlying23 s23 rfl rfl rfl hw (List.mem_cons_of_mem _ List.mem_cons_self) hk⟩) (by assumption) ?_; (conv => arg 6; simp only [Act.put, List.setIfInBounds_toArray, List.set_cons_succ, List.set_cons_zero])
          (refine wpT_free rfl rfl (.inl ⟨rfl, fun w _ => by go_simp; rfl⟩) (by assumption) ?_; (conv => arg 6; simp only [Act.put, List.setIfInBounds_toArray, List.set_cons_succ, List.set_cons_zero]))
          refine wpT_two rfl rfl ?_ ?_
          ·
            go_wp2_with (go_at_call 34; refine (H34.out _ _ _ M1 List.mem_cons_self).mono ?_; rintro e w' ⟨rfl, M2⟩; replace M1 := M2; clear M2)
            refine PlanTQ.mk M1 (wpT_op rfl ?_)
            refine wpList_want rfl ?_
            refine wpList_bsS1 64 rfl rfl rfl rfl M1 (fun b64 w' M3 => ?_)
            (conv => arg 5; simp only [Act.put, List.setIfInBounds_toArray, List.set_cons_succ, List.set_cons_zero])
            go_wp2_with fail
            refine PlanTQ.mk (M3.sub (List.sublist_cons_self _ _)) ?_
            have hR := M3.rowStr List.mem_cons_self
            replace M1 := M3.sub (List.sublist_cons_self _ _)
            clear M3
            refine wpT_op rfl ?_
            go_wp2_with (go_at_call 27; refine (H27.out _ _ hR).mono ?_; rintro e w' ⟨rfl, hb⟩; replace M1 := M1.call hb)
            refine PlanTQ.mk M1 ?_
            (refine wpT_free rfl rfl (.inl ⟨rfl, fun w _ => by go_simp; rfl⟩) (by assumption) ?_; (conv => arg 6; simp only [Act.put, List.setIfInBounds_toArray, List.set_cons_succ, List.set_cons_zero]))
            (refine wpT_free rfl rfl (.inl ⟨rfl, fun w _ => by go_simp; rfl⟩) (by assumption) ?_; (conv => arg 6; simp only [Act.put, List.setIfInBounds_toArray, List.set_cons_succ, List.set_cons_zero]))
            (refine wpT_free rfl rfl (.inl ⟨rfl, fun w _ => by go_simp; rfl⟩) (by assumption) ?_; (conv => arg 6; simp only [Act.put, List.setIfInBounds_toArray, List.set_cons_succ, List.set_cons_zero]))
            (refine wpT_free rfl rfl (.inl ⟨rfl, fun w _ => by go_simp; rfl⟩) (by assumption) ?_; (conv => arg 6; simp only [Act.put, List.setIfInBounds_toArray, List.set_cons_succ, List.set_cons_zero]))
            refine wpT_op rfl ?_
            go_wp2_with (go_at_call 34; refine (H34.out _ _ _ M1 List.mem_cons_self).mono ?_; rintro e w' ⟨rfl, M2⟩; replace M1 := M2; clear M2)
            refine PlanTQ.mk M1 ?_
            (refine wpT_free rfl rfl (.inl ⟨rfl, fun w _ => by go_simp; rfl⟩) (by assumption) ?_; (conv => arg 6; simp only [Act.put, List.setIfInBounds_toArray, List.set_cons_succ, List.set_cons_zero]))
            (refine wpT_free rfl rfl (.inl ⟨rfl, fun w _ => by go_simp; rfl⟩) (by assumption) ?_; (conv => arg 6; simp only [Act.put, List.setIfInBounds_toArray, List.set_cons_succ, List.set_cons_zero]))
            (refine wpT_free rfl rfl (.inl ⟨rfl, fun w _ => by go_simp; rfl⟩) (by assumption) ?_; (conv => arg 6; simp only [Act.put, List.setIfInBounds_toArray, List.set_cons_succ, List.set_cons_zero]))
            (refine wpT_free rfl rfl (.inl ⟨rfl, fun w _ => by go_simp; rfl⟩) (by assumption) ?_; (conv => arg 6; simp only [Act.put, List.setIfInBounds_toArray, List.set_cons_succ, List.set_cons_zero]))
            refine wpT_done ?_
            go_wp2_with fail
            go_ret
            exact ⟨rfl, M1.below⟩
          ·
            refine wpList_want rfl ?_
            refine wpList_bsS1 64 rfl rfl rfl rfl M1 (fun b64 w' M3 => ?_)
            (conv => arg 5; simp only [Act.put, List.setIfInBounds_toArray, List.set_cons_succ, List.set_cons_zero])
            go_wp2_with fail
            refine PlanTQ.mk (M3.sub (List.sublist_cons_self _ _)) ?_
            refine wpT_op rfl ?_
            go_wp2_with (go_at_call 34; refine (H34.out _ _ _ M3 (List.mem_cons_of_mem _ List.mem_cons_self)).mono ?_; rintro e w' ⟨rfl, M2⟩; replace M3 := M2; clear M2)
            have hR := M3.rowStr List.mem_cons_self
            replace M1 := M3.sub (List.sublist_cons_self _ _)
            clear M3
            refine PlanTQ.mk M1 ?_
            refine wpT_op rfl ?_
            go_wp2_with (go_at_call 27; refine (H27.out _ _ hR).mono ?_; rintro e w' ⟨rfl, hb⟩; replace M1 := M1.call hb)
            refine PlanTQ.mk M1 ?_
            (refine wpT_free rfl rfl (.inl ⟨rfl, fun w _ => by go_simp; rfl⟩) (by assumption) ?_; (conv => arg 6; simp only [Act.put, List.setIfInBounds_toArray, List.set_cons_succ, List.set_cons_zero]))
            (refine wpT_free rfl rfl (.inl ⟨rfl, fun w _ => by go_simp; rfl⟩) (by assumption) ?_; (conv => arg 6; simp only [Act.put, List.setIfInBounds_toArray, List.set_cons_succ, List.set_cons_zero]))
            (refine wpT_free rfl rfl (.inl ⟨rfl, fun w _ => by go_simp; rfl⟩) (by assumption) ?_; (conv => arg 6; simp only [Act.put, List.setIfInBounds_toArray, List.set_cons_succ, List.set_cons_zero]))
            (refine wpT_free rfl rfl (.inl ⟨rfl, fun w _ => by go_simp; rfl⟩) (by assumption) ?_; (conv => arg 6; simp only [Act.put, List.setIfInBounds_toArray, List.set_cons_succ, List.set_cons_zero]))
            refine wpT_op rfl ?_
            go_wp2_with (go_at_call 34; refine (H34.out _ _ _ M1 List.mem_cons_self).mono ?_; rintro e w' ⟨rfl, M2⟩; replace M1 := M2; clear M2)
            refine PlanTQ.mk M1 ?_
            (refine wpT_free rfl rfl (.inl ⟨rfl, fun w _ => by go_simp; rfl⟩) (by assumption) ?_; (conv => arg 6; simp only [Act.put, List.setIfInBounds_toArray, List.set_cons_succ, List.set_cons_zero]))
            (refine wpT_free rfl rfl (.inl ⟨rfl, fun w _ => by go_simp; rfl⟩) (by assumption) ?_; (conv => arg 6; simp only [Act.put, List.setIfInBounds_toArray, List.set_cons_succ, List.set_cons_zero]))
            (refine wpT_free rfl rfl (.inl ⟨rfl, fun w _ => by go_simp; rfl⟩) (by assumption) ?_; (conv => arg 6; simp only [Act.put, List.setIfInBounds_toArray, List.set_cons_succ, List.set_cons_zero]))
            (refine wpT_free rfl rfl (.inl ⟨rfl, fun w _ => by go_simp; rfl⟩) (by assumption) ?_; (conv => arg 6; simp only [Act.put, List.setIfInBounds_toArray, List.set_cons_succ, List.set_cons_zero]))
            refine wpT_done ?_
            go_wp2_with fail
            go_ret
            exact ⟨rfl, M1.below⟩
  · have h2I : (2000 : Int) < (text.size : Int) := by omega
    go_enter Try.func12, Try.ntmps12
    go_wp2_with (first | (go_at_call 25; refine (alive25 _).mono ?_; rintro e w' ⟨rfl, hb⟩; replace M' := M'.call hb) | (apply wpList_bxN 3; (· rfl); (· rfl); (· rfl); (· rfl); (· assumption); intro b3 w' M'; (conv => arg 5; simp only [Act.put, List.setIfInBounds_toArray, List.set_cons_succ, List.set_cons_zero])) | (apply wpList_ldrowN Try.underlying23 s23; (· rfl); (· rfl); (· rfl); (· rfl); (· assumption); (· (repeat (first | exact List.mem_cons_self | refine List.mem_cons_of_mem _ ?_))); (· (first | with_reducible assumption | omega | (simp only [nums_length, List.length_set, List.length_replicate]; first | with_reducible assumption | omega) | rfl | (simp [*]; done) | (simp [*]; omega))); (conv => arg 5; simp only [Act.put, List.setIfInBounds_toArray, List.set_cons_succ, List.set_cons_zero])) | (apply wpList_ldN Try.underlying39; (· rfl); (· rfl); (· rfl); (· rfl); (· assumption); (· (repeat (first | exact List.mem_cons_self | refine List.mem_cons_of_mem _ ?_))); (· (first | with_reducible assumption | omega | (simp only [nums_length, List.length_set, List.length_replicate]; first | with_reducible assumption | omega) | rfl | (simp [*]; done) | (simp [*]; omega))); (conv => arg 5; simp only [Act.put, List.setIfInBounds_toArray, List.set_cons_succ, List.set_cons_zero])) | (apply wpList_wantLd; (· rfl)))
    go_ret
    exact ⟨rfl, M'.below⟩
end Go.Proofs.Ytcjfpcajjhccaaa
