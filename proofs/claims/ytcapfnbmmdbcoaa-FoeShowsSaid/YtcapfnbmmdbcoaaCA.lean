/- Walks of the term layer's laws: alive. -/
import Derived.Test.YtcapfnbmmdbcoaaCQ
set_option linter.unusedVariables false
set_option linter.unusedSimpArgs false
namespace Go.Proofs.Ytcapfnbmmdbcoaa
open Go.RowKit
section
variable {g : Nat} {ts ts' : List Tm} {w0 w : World} {L : List Item} {k : List Int}
theorem DrawN (H : TS (tabR g ts) w0 w L) {text : ByteArray} (hq : nm ts ⟨1, text, []⟩ = k ∧ putL ts ⟨1, text, []⟩ = ts') (ht : text.size ≤ 1000) (hf : ts.length ≤ 900000) :
    Calls Try.prog 12 #[.pointer (some ⟨g, 0, none⟩), .string text] w fun e w' => e = .returned (.agg (nums .u8 k).toArray) ∧ TS (tabR g ts') w0 w' L := by
  obtain ⟨rfl, rfl⟩ := hq
  exact H.run fun K hK _ => DrawK hK ht hf
theorem HashN (H : TS (tabR g ts) w0 w L) {text : ByteArray} {B : Option Addr} {d : Nat} {ks : List (List Int)} (hq : nm ts ⟨2, text, ks⟩ = k ∧ putL ts ⟨2, text, ks⟩ = ts') (ht : text.size ≤ 1000) (hk : ∀ k ∈ ks, KeyOk k) (hl : ks.length ≤ 1000) (hr : RowT w 26 B (nums .u8 ks.flatten)) (hn : B = none → d = 0) (hf : ts.length ≤ 900000) :
    Calls Try.prog 13 #[.pointer (some ⟨g, 0, none⟩), .string text, .slice B ks.length d] w fun e w' => e = .returned (.agg (nums .u8 k).toArray) ∧ TS (tabR g ts') w0 w' L := by
  obtain ⟨rfl, rfl⟩ := hq
  exact H.run fun K hK _ => HashK hK ht hk hl hr hn hf
theorem PubN (H : TS (tabR g ts) w0 w L) {q : List Int} (hq : nm ts ⟨3, ⟨#[]⟩, [q]⟩ = k ∧ putL ts ⟨3, ⟨#[]⟩, [q]⟩ = ts') (hk : KeyOk q) (hf : ts.length ≤ 900000) :
    Calls Try.prog 27 #[.pointer (some ⟨g, 0, none⟩), .agg (nums .u8 q).toArray] w fun e w' => e = .returned (.agg (nums .u8 k).toArray) ∧ TS (tabR g ts') w0 w' L := by
  obtain ⟨rfl, rfl⟩ := hq
  exact H.run fun K hK _ => PubK hK hk hf
theorem SealN (H : TS (tabR g ts) w0 w L) {text : ByteArray} {q l : List Int} {B : Option Addr} {d : Nat} {ks : List (List Int)} (hq : nm ts ⟨6, text, q :: l :: ks⟩ = k ∧ putL ts ⟨6, text, q :: l :: ks⟩ = ts') (ht : text.size ≤ 1000) (hk : KeyOk q) (hkl : KeyOk l) (hks : ∀ k ∈ ks, KeyOk k) (hl : ks.length ≤ 900) (hr : RowT w 26 B (nums .u8 ks.flatten)) (hn : B = none → d = 0) (hf : ts.length ≤ 900000) :
    Calls Try.prog 15 #[.pointer (some ⟨g, 0, none⟩), .agg (nums .u8 q).toArray, .agg (nums .u8 l).toArray, .string text, .slice B ks.length d] w fun e w' => e = .returned (.string (strOfNums k)) ∧ TS (tabR g ts') w0 w' L := by
  obtain ⟨rfl, rfl⟩ := hq
  exact H.run fun K hK _ => SealK hK ht hk hkl hks hl hr hn hf
theorem AgreeN (H : TS (tabR g ts) w0 w L) {s p : List Int} {t : Tm} (ha : agreeT ts s p = t) (hq : nm ts t = k ∧ putL ts t = ts') (hw : ∀ t ∈ ts, TmW t) (hs : KeyOk s) (hp : KeyOk p) (hf : ts.length ≤ 900000) (hz : p ≠ zK) :
    Calls Try.prog 28 #[.pointer (some ⟨g, 0, none⟩), .agg (nums .u8 s).toArray, .agg (nums .u8 p).toArray] w fun e w' => e = .returned (.tuple #[.agg (nums .u8 k).toArray, .bool true]) ∧ TS (tabR g ts') w0 w' L := by
  subst ha
  obtain ⟨rfl, rfl⟩ := hq
  exact H.run fun K hK _ => AgreeK hK hw hs hp hf hz
end
theorem TS.call0 {P : Res} {w0 w w' : World} {L : List Item} (h : TS P w0 w L) (hP : Ok P) (M : Mem w [] w' []) : TS P w0 w' L := h.call hP M
theorem key14k {k : List Int} (w : World) (hk : KeyOk k) : Calls Try.prog 14 #[.string (strOfNums k)] w (Key2R k true w) := by
  have := key14 (strOfNums k) w (strKey hk).1
  rw [(strKey hk).2] at this
  exact this
set_option maxRecDepth 100000 in
set_option maxHeartbeats 4000000 in
theorem alive10 (w : World) : Calls Try.prog 10 #[] w (BoolR true w) := by
  go_enter Try.func10, Try.ntmps10
  go_upto_region 6 with (first
    | (go_at_call 11; refine (New11 _).mono ?_; rintro e w1 ⟨g, mb, rfl, T, M1⟩; have H1 := TS.new (M := Mem.start w) T M1; clear T M1)
    | (go_at_call 12; refine (DrawN H1 al0 (by decide) (by decide)).mono ?_; rintro e w2 ⟨rfl, H2⟩; clear H1)
    | (go_at_call 12; refine (DrawN H2 al1 (by decide) (by decide)).mono ?_; rintro e w3 ⟨rfl, H3⟩; clear H2; have R1 := H3.reb)
    | (refine wpList_alN z26 2 rfl rfl rfl R1 (fun b2 w4 R2 => ?_); clear R1; (conv => arg 5; simp only [Act.put, List.setIfInBounds_toArray, List.set_cons_succ, List.set_cons_zero]))
    | (refine wpList_alN z26 3 rfl rfl rfl R2 (fun b3 w5 R3 => ?_); clear R2; (conv => arg 5; simp only [Act.put, List.setIfInBounds_toArray, List.set_cons_succ, List.set_cons_zero]))
    | (refine wpList_strowN s26 rfl rfl rfl rfl R3 (Swap.tail Swap.head) (by simp) (kn_len 0) (fun w6 R4 => ?_); clear R3; (conv => arg 5; simp only [Act.put, List.setIfInBounds_toArray, List.set_cons_succ, List.set_cons_zero]))
    | (refine wpList_strowN s26 rfl rfl rfl rfl R4 Swap.head (by simp) (kn_len 1) (fun w7 R5 => ?_); clear R4; (conv => arg 5; simp only [Act.put, List.setIfInBounds_toArray, List.set_cons_succ, List.set_cons_zero]))
    | (refine wpList_ldrowN Try.underlying26 s26 rfl rfl rfl rfl R5 (List.mem_cons_of_mem _ List.mem_cons_self) (kn_len 0) ?_; (conv => arg 5; simp only [Act.put, List.setIfInBounds_toArray, List.set_cons_succ, List.set_cons_zero]))
    | (refine wpList_ldrowN Try.underlying26 s26 rfl rfl rfl rfl R5 List.mem_cons_self (kn_len 1) ?_; (conv => arg 5; simp only [Act.put, List.setIfInBounds_toArray, List.set_cons_succ, List.set_cons_zero]))
    | (refine wpList_bld (vs := #[]) b26z rfl rfl rfl ?_; (conv => arg 5; simp only [Act.put, List.setIfInBounds_toArray, List.set_cons_succ, List.set_cons_zero]))
    | (refine wpList_bsK1 19 rfl rfl rfl rfl (kn_ok 1) R5 (fun b19 w8 R6 => ?_); clear R5; have H4 := H3.step (tabR_ok _ _) R6; (conv => arg 5; simp only [Act.put, List.setIfInBounds_toArray, List.set_cons_succ, List.set_cons_zero]))
    | (go_at_call 15; refine (SealN H4 al2 (by decide) (kn_ok 0) zK_ok (by simpa using kn_ok 1) (by decide) (R6.blkT List.mem_cons_self) (fun h => by cases h) (by decide)).mono ?_; rintro e w9 ⟨rfl, H5⟩; clear H3 H4 R6)
    | (go_at_call 14; refine (key14k _ (kn_ok 2)).mono ?_; rintro e w10 ⟨rfl, M10⟩; have H6 := H5.call0 (tabR_ok _ _) M10; clear M10 H5; have R7 := H6.reb)
    | (refine wpList_alN z26 5 rfl rfl rfl R7 (fun b5 w11 R8 => ?_); clear R7; (conv => arg 5; simp only [Act.put, List.setIfInBounds_toArray, List.set_cons_succ, List.set_cons_zero]))
    | (refine wpList_strowN s26 rfl rfl rfl rfl R8 Swap.head (by simp) (kn_len 2) (fun w12 R9 => ?_); clear R8; have H7 := H6.step (tabR_ok _ _) R9; clear H6 R9; (conv => arg 5; simp only [Act.put, List.setIfInBounds_toArray, List.set_cons_succ, List.set_cons_zero]))
    | (refine wpList_ldrowN Try.underlying26 s26 rfl rfl rfl rfl H7.mem (by (repeat (first | exact List.mem_cons_self | refine List.mem_cons_of_mem _ ?_))) (kn_len 0) ?_; (conv => arg 5; simp only [Act.put, List.setIfInBounds_toArray, List.set_cons_succ, List.set_cons_zero]))
    | (go_at_call 17; have HO := Open17T H7 alW (s := strOfNums (kn 2)) (kn_ok 0) zK_ok; rw [alO] at HO; refine HO.mono ?_; clear HO; rintro e w13 ⟨A8, c8, rfl, hc8, hn8, hr8, M13⟩; have H8 := H7.call (tabR_ok _ _) M13; clear H7 M13))
  obtain ⟨bk, off, rfl, _⟩ := keys_at (i := 0) (k := kn 1) (by simpa using kn_ok 1) hr8 rfl
  have R10 := H8.reb
  clear hr8 hn8 hc8
  refine wp_region_planT (.free 0 (.free 1 (.free 2 (.free 3 (.free 4 (.free 5 (.free 6 (.free 7 (.free 8 (.free 9 (.free 10 (.free 11 (.free 12 (.free 13 (.free 14 (.free 15 (.free 16 (.free 17 (.free 18 (.free 19 (.free 20 (.free 21 (.free 22 (.free 23 (.free 24 (.free 25 (.free 28 (.one 26 (.one 27 (.one 29 (.free 30 (.free 31 (.free 32 (.free 33 (.free 36 (.one 34 (.one 35 (.one 37 (.free 38 (.free 39 (.free 40 (.free 41 (.one 42 (.free 43 (.free 44 (.free 45 (.done))))))))))))))))))))))))))))))))))))))))))))))) (by kernel_rfl) (by kernel_rfl) (fun _ _ _ _ _ h => h) R10 (fun w14 R11 => ?_)
  clear R10
  iterate 3 (refine wpT_free rfl rfl (.inl ⟨rfl, fun w _ => by go_simp; rfl⟩) (by assumption) ?_; (conv => arg 6; simp only [Act.put, List.setIfInBounds_toArray, List.set_cons_succ, List.set_cons_zero]))
  refine wpT_free (v := .bool true) rfl rfl (.inl ⟨rfl, fun w _ => by (go_simp <;> rfl)⟩) (by assumption) ?_; (conv => arg 6; simp only [Act.put, List.setIfInBounds_toArray, List.set_cons_succ, List.set_cons_zero])
  iterate 4 (refine wpT_free rfl rfl (.inl ⟨rfl, fun w _ => by go_simp; rfl⟩) (by assumption) ?_; (conv => arg 6; simp only [Act.put, List.setIfInBounds_toArray, List.set_cons_succ, List.set_cons_zero]))
  refine wpT_free (v := .bool true) rfl rfl (.inl ⟨rfl, fun w _ => by (go_simp <;> rfl)⟩) (by assumption) ?_; (conv => arg 6; simp only [Act.put, List.setIfInBounds_toArray, List.set_cons_succ, List.set_cons_zero])
  iterate 3 (refine wpT_free rfl rfl (.inl ⟨rfl, fun w _ => by go_simp; rfl⟩) (by assumption) ?_; (conv => arg 6; simp only [Act.put, List.setIfInBounds_toArray, List.set_cons_succ, List.set_cons_zero]))
  refine wpT_free (v := .pointer (some ⟨bk, off, none⟩)) rfl rfl (.inl ⟨rfl, fun w _ => by go_simp⟩) (by assumption) ?_; (conv => arg 6; simp only [Act.put, List.setIfInBounds_toArray, List.set_cons_succ, List.set_cons_zero])
  refine wpT_free rfl rfl (.inl ⟨rfl, fun w hw => run_ldK Try.underlying26 rfl rfl rfl (by simpa using keys_cells (i := 0) (k := kn 1) (by simpa using kn_ok 1) (hw.vecT List.mem_cons_self) rfl) (s26k (kn_ok 1))⟩) (by assumption) ?_; (conv => arg 6; simp only [Act.put, List.setIfInBounds_toArray, List.set_cons_succ, List.set_cons_zero])
  refine wpT_free rfl rfl (.inl ⟨rfl, fun w hw => run_ldrowN Try.underlying26 s26 rfl rfl rfl hw (by (repeat (first | exact List.mem_cons_self | refine List.mem_cons_of_mem _ ?_))) (kn_len 1)⟩) (by assumption) ?_; (conv => arg 6; simp only [Act.put, List.setIfInBounds_toArray, List.set_cons_succ, List.set_cons_zero])
  refine wpT_free rfl rfl (.inl ⟨rfl, fun w _ => run_eq26b true rfl rfl rfl (kn_len 1) (kn_len 1) (by simp) w⟩) (by assumption) ?_; (conv => arg 6; simp only [Act.put, List.setIfInBounds_toArray, List.set_cons_succ, List.set_cons_zero])
  iterate 2 (refine wpT_free rfl rfl (.inl ⟨rfl, fun w _ => by go_simp; rfl⟩) (by assumption) ?_; (conv => arg 6; simp only [Act.put, List.setIfInBounds_toArray, List.set_cons_succ, List.set_cons_zero]))
  refine wpT_free rfl rfl (.inl ⟨rfl, fun w hw => run_ldrowN Try.underlying26 s26 rfl rfl rfl hw (by (repeat (first | exact List.mem_cons_self | refine List.mem_cons_of_mem _ ?_))) (kn_len 0)⟩) (by assumption) ?_; (conv => arg 6; simp only [Act.put, List.setIfInBounds_toArray, List.set_cons_succ, List.set_cons_zero])
  refine wpT_free rfl rfl (.inl ⟨rfl, fun w hw => run_ldrowN Try.underlying26 s26 rfl rfl rfl hw (by (repeat (first | exact List.mem_cons_self | refine List.mem_cons_of_mem _ ?_))) (kn_len 1)⟩) (by assumption) ?_; (conv => arg 6; simp only [Act.put, List.setIfInBounds_toArray, List.set_cons_succ, List.set_cons_zero])
  refine wpT_free rfl rfl (.inl ⟨rfl, fun w _ => run_neq26b true rfl rfl rfl (kn_len 0) (kn_len 1) (by kernel_rfl) w⟩) (by assumption) ?_; (conv => arg 6; simp only [Act.put, List.setIfInBounds_toArray, List.set_cons_succ, List.set_cons_zero])
  iterate 3 (refine wpT_free rfl rfl (.inl ⟨rfl, fun w _ => by go_simp; rfl⟩) (by assumption) ?_; (conv => arg 6; simp only [Act.put, List.setIfInBounds_toArray, List.set_cons_succ, List.set_cons_zero]))
  refine wpT_free rfl rfl (.inl ⟨rfl, fun w hw => run_ldrowN Try.underlying26 s26 rfl rfl rfl hw (by (repeat (first | exact List.mem_cons_self | refine List.mem_cons_of_mem _ ?_))) (kn_len 2)⟩) (by assumption) ?_; (conv => arg 6; simp only [Act.put, List.setIfInBounds_toArray, List.set_cons_succ, List.set_cons_zero])
  refine wpT_free rfl rfl (.inl ⟨rfl, fun w hw => run_ldrowN Try.underlying26 s26 rfl rfl rfl hw (by (repeat (first | exact List.mem_cons_self | refine List.mem_cons_of_mem _ ?_))) (kn_len 0)⟩) (by assumption) ?_; (conv => arg 6; simp only [Act.put, List.setIfInBounds_toArray, List.set_cons_succ, List.set_cons_zero])
  refine wpT_free rfl rfl (.inl ⟨rfl, fun w hw => run_ldrowN Try.underlying26 s26 rfl rfl rfl hw (by (repeat (first | exact List.mem_cons_self | refine List.mem_cons_of_mem _ ?_))) (kn_len 1)⟩) (by assumption) ?_; (conv => arg 6; simp only [Act.put, List.setIfInBounds_toArray, List.set_cons_succ, List.set_cons_zero])
  refine wpT_op rfl ?_
  refine wpList_want rfl ?_
  refine wpList_bsK2 61 rfl rfl rfl rfl rfl (kn_ok 2) (kn_ok 0) R11 (fun b61 w15 R12 => ?_); (conv => arg 5; simp only [Act.put, List.setIfInBounds_toArray, List.set_cons_succ, List.set_cons_zero])
  go_wp2_with fail
  clear R11
  have R12t := R12.tail
  refine PlanTQ.mk R12t (wpT_op rfl ?_)
  go_wp2_with (first | (apply wpList_want; (· rfl)) | (go_at_call 16; refine (Follow16T (H8.step (tabR_ok _ _) R12) alW (seen := [kn 2, kn 0]) (by simpa using ⟨kn_ok 2, kn_ok 0⟩) (by decide) (R12.blkT List.mem_cons_self)).mono ?_; rintro e w16 ⟨f, h, kb, mf, Af, bs, rfl, FF, M16⟩; have R13 := R12t.join M16; clear R12 R12t M16))
  have R13t := R13.tail.tail.tail
  refine PlanTQ.mk R13t (wpT_op rfl ?_)
  go_wp2_with (first | (apply wpList_want; (· rfl)) | (go_at_call 42; refine (has42 f h kb _ Af bs (kn 1) _ (R13.fp (fun x hx => List.mem_append_left _ hx)) (kn_ok 1) (by rw [FF.len]; decide)).mono ?_; rintro e w17 ⟨rfl, M17⟩; have R14 := R13t.call M17.below; rw [alF FF]; clear R13 R13t M17 FF))
  refine PlanTQ.mk R14 ?_
  iterate 3 (refine wpT_free rfl rfl (.inl ⟨rfl, fun w _ => by go_simp; rfl⟩) (by assumption) ?_; (conv => arg 6; simp only [Act.put, List.setIfInBounds_toArray, List.set_cons_succ, List.set_cons_zero]))
  refine wpT_free rfl rfl (.inl ⟨rfl, fun w hw => run_ldrowN Try.underlying26 s26 rfl rfl rfl hw (by (repeat (first | exact List.mem_cons_self | refine List.mem_cons_of_mem _ ?_))) (kn_len 2)⟩) (by assumption) ?_; (conv => arg 6; simp only [Act.put, List.setIfInBounds_toArray, List.set_cons_succ, List.set_cons_zero])
  refine wpT_free rfl rfl (.inl ⟨rfl, fun w hw => run_ldrowN Try.underlying26 s26 rfl rfl rfl hw (by (repeat (first | exact List.mem_cons_self | refine List.mem_cons_of_mem _ ?_))) (kn_len 1)⟩) (by assumption) ?_; (conv => arg 6; simp only [Act.put, List.setIfInBounds_toArray, List.set_cons_succ, List.set_cons_zero])
  refine wpT_op rfl ?_
  refine wpList_want rfl ?_
  refine wpList_bsK1 69 rfl rfl rfl rfl (kn_ok 2) R14 (fun b69 w18 R15 => ?_); (conv => arg 5; simp only [Act.put, List.setIfInBounds_toArray, List.set_cons_succ, List.set_cons_zero])
  go_wp2_with fail
  clear R14
  have R15t := R15.tail
  refine PlanTQ.mk R15t (wpT_op rfl ?_)
  go_wp2_with (first | (apply wpList_want; (· rfl)) | (go_at_call 16; refine (Follow16T (H8.step (tabR_ok _ _) R15) alW (seen := [kn 2]) (by simpa using kn_ok 2) (by decide) (R15.blkT List.mem_cons_self)).mono ?_; rintro e w19 ⟨f2, h2, kb2, mf2, Af2, bs2, rfl, FF, M19⟩; have R16 := R15t.join M19; clear R15 R15t M19))
  have R16t := R16.tail.tail.tail
  refine PlanTQ.mk R16t (wpT_op rfl ?_)
  go_wp2_with (first | (apply wpList_want; (· rfl)) | (go_at_call 42; refine (has42 f2 h2 kb2 _ Af2 bs2 (kn 1) _ (R16.fp (fun x hx => List.mem_append_left _ hx)) (kn_ok 1) (by rw [FF.len]; decide)).mono ?_; rintro e w20 ⟨rfl, M20⟩; have R17 := R16t.call M20.below; rw [alN FF]; clear R16 R16t M20 FF))
  refine PlanTQ.mk R17 ?_
  iterate 4 (refine wpT_free rfl rfl (.inl ⟨rfl, fun w _ => by go_simp; rfl⟩) (by assumption) ?_; (conv => arg 6; simp only [Act.put, List.setIfInBounds_toArray, List.set_cons_succ, List.set_cons_zero]))
  refine wpT_op rfl ?_
  go_wp2_with (first | (apply wpList_want; (· rfl)) | (go_at_call 26; refine (Len26T (H8.step (tabR_ok _ _) R17)).mono ?_; rintro e w21 ⟨rfl, M21⟩; have R18 := R17.call M21.below; clear R17 M21))
  refine PlanTQ.mk R18 ?_
  refine wpT_free (v := .bool true) rfl rfl (.inl ⟨rfl, fun w _ => by (go_simp <;> rfl)⟩) (by assumption) ?_; (conv => arg 6; simp only [Act.put, List.setIfInBounds_toArray, List.set_cons_succ, List.set_cons_zero])
  iterate 2 (refine wpT_free rfl rfl (.inl ⟨rfl, fun w _ => by go_simp; rfl⟩) (by assumption) ?_; (conv => arg 6; simp only [Act.put, List.setIfInBounds_toArray, List.set_cons_succ, List.set_cons_zero]))
  refine wpT_done ?_
  go_wp2_with fail
  go_ret
  exact ⟨rfl, (H8.step (tabR_ok _ _) R18).mem.sub (List.nil_sublist _)⟩
end Go.Proofs.Ytcapfnbmmdbcoaa
