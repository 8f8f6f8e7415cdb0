/- Walks of the term layer: keys are compared; what two agree on. -/
import Derived.Test.YtcapfnbmmdbcoaaC14
import Derived.Lib.BytesEntry
set_option linter.unusedVariables false
set_option linter.unusedSimpArgs false
namespace Go.Proofs.Ytcapfnbmmdbcoaa
open Go.RowKit
/-- The order of two keys. -/
def cmpK (a b : List Int) : Int := Lib.compareBytes (strOfNums a).data.toList (strOfNums b).data.toList
theorem run_bytesOf {w : World} {g off n cap : Nat} {xs : List Int} (hn : xs.length = n) (h : ∀ (j : Nat) (v : Value), (nums .u8 xs)[j]? = some v → w.cell? ⟨g, off + j, none⟩ = some v) :
    (Extern.Bytes.bytesOf (.slice (some ⟨g, off, none⟩) n cap)).run Try.prog w = .ok (strOfNums xs) w := by
  subst hn
  have := Lib.run_loadBytesX (P := Try.prog) w xs ⟨g, off, none⟩ .empty (fun j x hj => by
    rw [Addr.add_lit]
    exact h j _ (by simp [nums, hj]))
  rw [Extern.Bytes.bytesOf, this]
  congr 1
  apply ByteArray.ext
  simp [strOfNums, Lib.bytesOf]
theorem Compare50 (a b : List Int) (ga oa ca gb ob cb : Nat) (w : World) (ha : a.length = 32) (hb : b.length = 32) (h1 : ∀ (j : Nat) (v : Value), (nums .u8 a)[j]? = some v → w.cell? ⟨ga, oa + j, none⟩ = some v) (h2 : ∀ (j : Nat) (v : Value), (nums .u8 b)[j]? = some v → w.cell? ⟨gb, ob + j, none⟩ = some v) :
    Calls Try.prog 50 #[.slice (some ⟨ga, oa, none⟩) 32 ca, .slice (some ⟨gb, ob, none⟩) 32 cb] w (IntR (cmpK a b) w) := by
  have M0 := Mem.start w
  have HR : (Extern.BytealgCompare.compare #[.slice (some ⟨ga, oa, none⟩) 32 ca, .slice (some ⟨gb, ob, none⟩) 32 cb]).run Try.prog w = .ok (.int .i64 (cmpK a b)) w := by
    change Sem.run Try.prog (do pure (goInt (Extern.BytealgCompare.cmp (← Extern.Bytes.bytesOf (.slice (some ⟨ga, oa, none⟩) 32 ca)) (← Extern.Bytes.bytesOf (.slice (some ⟨gb, ob, none⟩) 32 cb))))) w = _
    simp only [Sem.run_bind, Sem.run_pure, run_bytesOf ha h1, run_bytesOf hb h2, Result.andThen]
    rw [Lib.cmp_eq]
    rfl
  have H := hid HR
  clear HR h1 h2
  go_enter Try.func50, Try.ntmps50
  go_wp2
  rw [run_callFunc_extern Try.func75 (by kernel_rfl) (by kernel_rfl) (by kernel_rfl) (e := Extern.BytealgCompare.compare) (by kernel_rfl), H.out]
  simp only [Result.andThen]
  rw [Oper.upon_value]
  go_wp2
  go_ret
  exact ⟨rfl, M0⟩
def zK : List Int := List.replicate 32 0
theorem zK_ok : KeyOk zK := ⟨by decide, fun x hx => by rw [zK, List.mem_replicate] at hx; rw [hx.2]; exact ⟨by decide, by decide⟩⟩
theorem b26z : ∀ w : World, (Instr.build 26 #[]).run Try.prog w = .ok (.agg (nums .u8 zK).toArray) w := fun w => by kernel_rfl
/-- A well-made term: its keys are as many as its kind wants. -/
structure TmW (t : Tm) : Prop where
  k3 : t.kind = 3 → 1 ≤ t.keys.length
  k46 : t.kind = 4 ∨ t.kind = 6 → 2 ≤ t.keys.length
def oddT (s p : List Int) : Tm := ⟨5, ⟨#[]⟩, [s, p]⟩
def pairT (s o : List Int) : Tm := if 0 < cmpK s o then ⟨4, ⟨#[]⟩, [o, s]⟩ else ⟨4, ⟨#[]⟩, [s, o]⟩
/-- What two agree on. -/
def agreeT (ts : List Tm) (s p : List Int) : Tm := if 0 ≤ numT ts.length p then (match ts[(numT ts.length p).toNat]? with | some t => if t.kind = 3 then pairT s (t.keys.getD 0 []) else oddT s p | none => oddT s p) else oddT s p
def PutT (K : Nat → Prop) (w : World) (g mb : Nat) (A : Option Addr) (ts : List Tm) (t : Tm) (w' : World) : Prop :=
  ∃ A' c', TabP (fun b => K b ∨ w.heap.size ≤ b) w' g mb A' c' (putL ts t) ∧ Mem w (TabE g mb A) w' [] ∧ ∀ b ∈ blkA A', b ∈ blkA A ∨ w.heap.size ≤ b
def AgreeR (K : Nat → Prop) (w : World) (g mb : Nat) (A : Option Addr) (ts : List Tm) (t : Tm) (e : Ending) (w' : World) : Prop :=
  e = .returned (.tuple #[.agg (nums .u8 (nameL (ts.idxOf t : Nat))).toArray, .bool true]) ∧ PutT K w g mb A ts t w'
set_option maxRecDepth 100000 in
set_option maxHeartbeats 4000000 in
theorem Agree28 (K : Nat → Prop) (g mb c : Nat) (A : Option Addr) (ts : List Tm) (s p : List Int) (w : World) (h : TabP K w g mb A c ts) (hw : ∀ t ∈ ts, TmW t) (hs : KeyOk s) (hp : KeyOk p) (hf : ts.length ≤ 900000) (hz : p ≠ zK) :
    Calls Try.prog 28 #[.pointer (some ⟨g, 0, none⟩), .agg (nums .u8 s).toArray, .agg (nums .u8 p).toArray] w (AgreeR K w g mb A ts (agreeT ts s p)) := by
  have M0 := Mem.start w
  have HT := hid h
  have HCG := hid (show w.cell? ⟨g, 0, none⟩ = some (.slice A ts.length c) from by rw [cell_of_row w g 0 _ 88 (0, 0) h.hg]; rfl)
  have HS := hid hs
  have HP := hid hp
  have HW := hid hw
  have HZ := hid (decide_eq_false hz)
  have hn : ts.length ≤ 1000000 := by omega
  clear h hs hw hz
  rcases numT_cases ts.length p hp with hm | ⟨i, hi, hm⟩
  · have HM := hid hm
    rw [show agreeT ts s p = oddT s p from by rw [agreeT, hm, if_neg (by decide)]]
    have HOK := hid (show TmOk (oddT s p) from tmOk (by decide) (by decide) (by decide) (by simp [oddT]) (by simpa [oddT] using ⟨HS.out, hp⟩))
    clear hm hp
    go_enter Try.func28, Try.ntmps28
    go_upto_region 4 with (first | (refine wpList_bxN 4 rfl rfl rfl rfl M0 (fun b4 w1 M1 => ?_); clear M0; (conv => arg 5; simp only [Act.put, List.setIfInBounds_toArray, List.set_cons_succ, List.set_cons_zero])) | (refine wpList_bxN 5 rfl rfl rfl rfl M1 (fun b5 w2 M2 => ?_); clear M1; (conv => arg 5; simp only [Act.put, List.setIfInBounds_toArray, List.set_cons_succ, List.set_cons_zero])) | (refine wpList_alN z26 6 rfl rfl rfl M2 (fun b6 w3 M3 => ?_); clear M2; (conv => arg 5; simp only [Act.put, List.setIfInBounds_toArray, List.set_cons_succ, List.set_cons_zero])) | (refine wpList_ldrowN Try.underlying26 s26 rfl rfl rfl rfl M3 (List.mem_cons_of_mem _ List.mem_cons_self) HP.out.1 ?_; (conv => arg 5; simp only [Act.put, List.setIfInBounds_toArray, List.set_cons_succ, List.set_cons_zero])) | (refine wpList_bld (vs := #[]) b26z rfl rfl rfl ?_; (conv => arg 5; simp only [Act.put, List.setIfInBounds_toArray, List.set_cons_succ, List.set_cons_zero])) | (refine wpList_eq26 12 rfl rfl rfl rfl rfl HP.out.1 zK_ok.1 ?_; rw [HZ.out]; (conv => arg 5; simp only [Act.put, List.setIfInBounds_toArray, List.set_cons_succ, List.set_cons_zero])) | (go_at_call 43; refine (number43 g ts.length c _ p _ (M3.cell0 HCG.out) HP.out.1 HP.out.2 hn).mono ?_; rintro e w4 ⟨rfl, M4⟩; replace M3 := M3.call M4.below; clear M4; rw [HM.out]))
    go_wp2_with (first | (apply wpList_want; (· rfl)) | (refine wpList_ldrowN Try.underlying26 s26 rfl rfl rfl rfl M3 (List.mem_cons_of_mem _ (List.mem_cons_of_mem _ List.mem_cons_self)) HS.out.1 ?_; (conv => arg 5; simp only [Act.put, List.setIfInBounds_toArray, List.set_cons_succ, List.set_cons_zero])) | (refine wpList_ldrowN Try.underlying26 s26 rfl rfl rfl rfl M3 (List.mem_cons_of_mem _ List.mem_cons_self) HP.out.1 ?_; (conv => arg 5; simp only [Act.put, List.setIfInBounds_toArray, List.set_cons_succ, List.set_cons_zero])) | (refine wpList_bsK2 33 rfl rfl rfl rfl rfl HS.out HP.out M3 (fun b33 w5 M5 => ?_); clear M3; (conv => arg 5; simp only [Act.put, List.setIfInBounds_toArray, List.set_cons_succ, List.set_cons_zero])) | (go_at_call 39; refine (put39 (fun b => K b ∧ b < w.heap.size) g mb c _ (some ⟨b33, 0, none⟩) 2 ts (oddT s p) _ (HT.out.lt.below M5.below) HOK.out (M5.blkT List.mem_cons_self) (fun h => by cases h) hf).mono ?_; rintro e w6 ⟨rfl, A', c', T2, M6, hA2⟩; have M7 := M5.callE M6 (fun b hb => (HT.out.E_lt b hb).2); have hb1 := (M5.fresh _ (List.mem_cons_of_mem _ List.mem_cons_self) b6 rfl).resolve_left (by simp); have hb2 := Item.lt (M5.holds _ (List.mem_cons_of_mem _ List.mem_cons_self)) (b := b6) rfl; have hsz := M5.size; clear M5 M6) | (refine wpList_strowNG s26 rfl rfl rfl rfl M7 (Swap.tail Swap.head) rfl (nameL_length _) (fun w7 M8 hgr => ?_); clear M7; (conv => arg 5; simp only [Act.put, List.setIfInBounds_toArray, List.set_cons_succ, List.set_cons_zero])))
    try simp only [Exit.inBlock, Exit.then]
    refine ret_row2 Try.underlying26 s26 rfl rfl rfl rfl rfl M8 (List.mem_cons_of_mem _ List.mem_cons_self) (nameL_length _) ?_
    exact ⟨rfl, A', c', T2.after hb1 hb2 hgr, M8.sub (List.nil_sublist _), fun b hb => (hA2 b hb).imp id (fun h => Nat.le_trans hsz h)⟩
  · have HM := hid hm
    obtain ⟨t, hte⟩ : ∃ t, ts[i]? = some t := ⟨ts[i], List.getElem?_eq_getElem hi⟩
    have hag : agreeT ts s p = if t.kind = 3 then pairT s (t.keys.getD 0 []) else oddT s p := by
      rw [agreeT, hm, if_pos (by omega), Int.toNat_natCast, hte]
    obtain ⟨b, B, d, hA, hct, hd, hBn, hBr⟩ := HT.out.get hte
    subst hA
    have HC0 := hid (show w.cell? ⟨b, i * 3, none⟩ = some (.int .i64 t.kind) from hct 0 _ rfl)
    have HC2 := hid (hct 2 _ rfl)
    have hiI : (i : Int) < (ts.length : Int) := by omega
    by_cases e3 : t.kind = 3
    · rw [hag, if_pos e3]
      have hk1 := (HW.out t (List.mem_of_getElem? hte)).k3 e3
      have q0 : t.keys[0]? = some (t.keys.getD 0 []) := by rw [List.getD_eq_getElem?_getD, List.getElem?_eq_getElem (by omega)]; rfl
      have HTO := hid (HT.out.ok t (List.mem_of_getElem? hte))
      have HK0 := hid (HTO.out.ks _ (List.mem_of_getElem? q0))
      obtain ⟨bk, off, hB, hc0⟩ := keys_at HTO.out.ks hBr q0
      subst hB
      have hk3 : (0 : Int) < (t.keys.length : Int) := by omega
      obtain ⟨k0, hk0⟩ : ∃ x, x = t.keys.getD 0 [] := ⟨_, rfl⟩
      rw [← hk0] at HK0 hc0 ⊢
      have HL0 := hid hc0
      clear hm hp hte hag hct hBn hBr q0 hk0 hc0
      go_enter Try.func28, Try.ntmps28
      go_upto_region 4 with (first | (refine wpList_bxN 4 rfl rfl rfl rfl M0 (fun b4 w1 M1 => ?_); clear M0; (conv => arg 5; simp only [Act.put, List.setIfInBounds_toArray, List.set_cons_succ, List.set_cons_zero])) | (refine wpList_bxN 5 rfl rfl rfl rfl M1 (fun b5 w2 M2 => ?_); clear M1; (conv => arg 5; simp only [Act.put, List.setIfInBounds_toArray, List.set_cons_succ, List.set_cons_zero])) | (refine wpList_alN z26 6 rfl rfl rfl M2 (fun b6 w3 M3 => ?_); clear M2; (conv => arg 5; simp only [Act.put, List.setIfInBounds_toArray, List.set_cons_succ, List.set_cons_zero])) | (refine wpList_ldrowN Try.underlying26 s26 rfl rfl rfl rfl M3 (List.mem_cons_of_mem _ List.mem_cons_self) HP.out.1 ?_; (conv => arg 5; simp only [Act.put, List.setIfInBounds_toArray, List.set_cons_succ, List.set_cons_zero])) | (refine wpList_bld (vs := #[]) b26z rfl rfl rfl ?_; (conv => arg 5; simp only [Act.put, List.setIfInBounds_toArray, List.set_cons_succ, List.set_cons_zero])) | (refine wpList_eq26 12 rfl rfl rfl rfl rfl HP.out.1 zK_ok.1 ?_; rw [HZ.out]; (conv => arg 5; simp only [Act.put, List.setIfInBounds_toArray, List.set_cons_succ, List.set_cons_zero])) | (go_at_call 43; refine (number43 g ts.length c _ p _ (M3.cell0 HCG.out) HP.out.1 HP.out.2 hn).mono ?_; rintro e w4 ⟨rfl, M4⟩; replace M3 := M3.call M4.below; clear M4; rw [HM.out]))
      have cg := M3.cell0 HCG.out
      have c0 := M3.cell0 HC0.out
      have c2 := M3.cell0 HC2.out
      go_upto_region 7 with (first | (apply wpList_want; (· rfl)) | (refine wpList_ldagg (off := off) 44 rfl Try.underlying26 rfl rfl rfl rfl (by simpa using M3.cells0 HL0.out) (s26k HK0.out) ?_; (conv => arg 5; simp only [Act.put, List.setIfInBounds_toArray, List.set_cons_succ, List.set_cons_zero])) | (refine wpList_alN z26 9 rfl rfl rfl M3 (fun b9 w5 M5 => ?_); clear M3 cg c0 c2; (conv => arg 5; simp only [Act.put, List.setIfInBounds_toArray, List.set_cons_succ, List.set_cons_zero])) | (refine wpList_strowN s26 rfl rfl rfl rfl M5 Swap.head (by simp) HK0.out.1 (fun w6 M6 => ?_); clear M5; (conv => arg 5; simp only [Act.put, List.setIfInBounds_toArray, List.set_cons_succ, List.set_cons_zero])))
      by_cases hg : 0 < cmpK s k0
      · have HPT := hid (show pairT s k0 = ⟨4, ⟨#[]⟩, [k0, s]⟩ from by rw [pairT, if_pos hg])
        have HOK := hid (show TmOk ⟨4, ⟨#[]⟩, [k0, s]⟩ from tmOk (by decide) (by decide) (by decide) (by simp) (by simpa using ⟨HK0.out, HS.out⟩))
        have HG := hid hg
        clear hg
        refine wp_region_planT (.free 0 (.free 1 (.one 2 (.free 3 (.done))))) (by kernel_rfl) (by kernel_rfl) (fun _ _ _ _ _ h => h) M6 (fun w7 M7 => ?_)
        clear M6
        refine wpT_free rfl rfl (.inl ⟨rfl, fun w _ => run_slW Try.underlying26 s5 (by decide) rfl rfl w⟩) (by assumption) ?_; (conv => arg 6; simp only [Act.put, List.setIfInBounds_toArray, List.set_cons_succ, List.set_cons_zero])
        refine wpT_free rfl rfl (.inl ⟨rfl, fun w _ => run_slW Try.underlying26 s5 (by decide) rfl rfl w⟩) (by assumption) ?_; (conv => arg 6; simp only [Act.put, List.setIfInBounds_toArray, List.set_cons_succ, List.set_cons_zero])
        refine wpT_op rfl ?_
        go_wp2_with (go_at_call 50; refine (Compare50 s k0 b4 0 32 b9 0 32 _ HS.out.1 HK0.out.1 (fun j v hj => by rw [Nat.zero_add]; exact M7.cell (List.mem_cons_of_mem _ (List.mem_cons_of_mem _ (List.mem_cons_of_mem _ List.mem_cons_self))) hj) (fun j v hj => by rw [Nat.zero_add]; exact M7.cell List.mem_cons_self hj)).mono ?_; rintro e w8 ⟨rfl, M8⟩; have M9 := M7.call M8.below; clear M7 M8)
        refine PlanTQ.mk M9 ?_
        refine wpT_free (v := .bool true) rfl rfl (.inl ⟨rfl, fun w _ => by go_simp; exact HG.out⟩) (by assumption) ?_; (conv => arg 6; simp only [Act.put, List.setIfInBounds_toArray, List.set_cons_succ, List.set_cons_zero])
        refine wpT_done ?_
        go_wp2_with (first | (refine wpList_ldrowN Try.underlying26 s26 rfl rfl rfl rfl M9 List.mem_cons_self (by first | exact HK0.out.1 | exact HS.out.1) ?_; (conv => arg 5; simp only [Act.put, List.setIfInBounds_toArray, List.set_cons_succ, List.set_cons_zero])) | (refine wpList_ldrowN Try.underlying26 s26 rfl rfl rfl rfl M9 (List.mem_cons_of_mem _ (List.mem_cons_of_mem _ (List.mem_cons_of_mem _ List.mem_cons_self))) (by first | exact HK0.out.1 | exact HS.out.1) ?_; (conv => arg 5; simp only [Act.put, List.setIfInBounds_toArray, List.set_cons_succ, List.set_cons_zero])) | (refine wpList_strowN (ys := k0) s26 rfl rfl rfl rfl M9 (Swap.tail (Swap.tail (Swap.tail Swap.head))) HS.out.1 HK0.out.1 (fun w10 M10 => ?_); clear M9; (conv => arg 5; simp only [Act.put, List.setIfInBounds_toArray, List.set_cons_succ, List.set_cons_zero])) | (refine wpList_strowN (ys := s) s26 rfl rfl rfl rfl M10 Swap.head HK0.out.1 HS.out.1 (fun w11 M9 => ?_); clear M10; (conv => arg 5; simp only [Act.put, List.setIfInBounds_toArray, List.set_cons_succ, List.set_cons_zero])) | (refine wpList_bsK2 54 rfl rfl rfl rfl rfl (by first | exact HK0.out | exact HS.out) (by first | exact HK0.out | exact HS.out) M9 (fun b33 w5 M5 => ?_); clear M9; (conv => arg 5; simp only [Act.put, List.setIfInBounds_toArray, List.set_cons_succ, List.set_cons_zero])) | (go_at_call 39; refine (put39 (fun b => K b ∧ b < w.heap.size) g mb c _ (some ⟨b33, 0, none⟩) 2 ts _ _ (HT.out.lt.below M5.below) HOK.out (M5.blkT List.mem_cons_self) (fun h => by cases h) hf).mono ?_; rintro e w6 ⟨rfl, A', c', T2, M6, hA2⟩; have M7 := M5.callE M6 (fun b hb => (HT.out.E_lt b hb).2); have hb1 := (M5.fresh _ (List.mem_cons_of_mem _ (List.mem_cons_of_mem _ List.mem_cons_self)) b6 rfl).resolve_left (by simp); have hb2 := Item.lt (M5.holds _ (List.mem_cons_of_mem _ (List.mem_cons_of_mem _ List.mem_cons_self))) (b := b6) rfl; have hsz := M5.size; clear M5 M6) | (refine wpList_strowNG s26 rfl rfl rfl rfl M7 (Swap.tail (Swap.tail Swap.head)) rfl (nameL_length _) (fun w7 M8 hgr => ?_); clear M7; (conv => arg 5; simp only [Act.put, List.setIfInBounds_toArray, List.set_cons_succ, List.set_cons_zero])))
        try simp only [Exit.inBlock, Exit.then]
        refine ret_row2 Try.underlying26 s26 rfl rfl rfl rfl rfl M8 (List.mem_cons_of_mem _ (List.mem_cons_of_mem _ List.mem_cons_self)) (nameL_length _) ?_
        rw [HPT.out]
        exact ⟨rfl, A', c', T2.after hb1 hb2 hgr, M8.sub (List.nil_sublist _), fun b hb => (hA2 b hb).imp id (fun h => Nat.le_trans hsz h)⟩
      · have HPT := hid (show pairT s k0 = ⟨4, ⟨#[]⟩, [s, k0]⟩ from by rw [pairT, if_neg hg])
        have HOK := hid (show TmOk ⟨4, ⟨#[]⟩, [s, k0]⟩ from tmOk (by decide) (by decide) (by decide) (by simp) (by simpa using ⟨HS.out, HK0.out⟩))
        have HG := hid hg
        clear hg
        refine wp_region_planT (.free 0 (.free 1 (.one 2 (.free 3 (.done))))) (by kernel_rfl) (by kernel_rfl) (fun _ _ _ _ _ h => h) M6 (fun w7 M7 => ?_)
        clear M6
        refine wpT_free rfl rfl (.inl ⟨rfl, fun w _ => run_slW Try.underlying26 s5 (by decide) rfl rfl w⟩) (by assumption) ?_; (conv => arg 6; simp only [Act.put, List.setIfInBounds_toArray, List.set_cons_succ, List.set_cons_zero])
        refine wpT_free rfl rfl (.inl ⟨rfl, fun w _ => run_slW Try.underlying26 s5 (by decide) rfl rfl w⟩) (by assumption) ?_; (conv => arg 6; simp only [Act.put, List.setIfInBounds_toArray, List.set_cons_succ, List.set_cons_zero])
        refine wpT_op rfl ?_
        go_wp2_with (go_at_call 50; refine (Compare50 s k0 b4 0 32 b9 0 32 _ HS.out.1 HK0.out.1 (fun j v hj => by rw [Nat.zero_add]; exact M7.cell (List.mem_cons_of_mem _ (List.mem_cons_of_mem _ (List.mem_cons_of_mem _ List.mem_cons_self))) hj) (fun j v hj => by rw [Nat.zero_add]; exact M7.cell List.mem_cons_self hj)).mono ?_; rintro e w8 ⟨rfl, M8⟩; have M9 := M7.call M8.below; clear M7 M8)
        refine PlanTQ.mk M9 ?_
        refine wpT_free (v := .bool false) rfl rfl (.inl ⟨rfl, fun w _ => by go_simp; first | exact HG.out | exact Int.not_lt.1 HG.out⟩) (by assumption) ?_; (conv => arg 6; simp only [Act.put, List.setIfInBounds_toArray, List.set_cons_succ, List.set_cons_zero])
        refine wpT_done ?_
        go_wp2_with (first | (refine wpList_ldrowN Try.underlying26 s26 rfl rfl rfl rfl M9 List.mem_cons_self (by first | exact HK0.out.1 | exact HS.out.1) ?_; (conv => arg 5; simp only [Act.put, List.setIfInBounds_toArray, List.set_cons_succ, List.set_cons_zero])) | (refine wpList_ldrowN Try.underlying26 s26 rfl rfl rfl rfl M9 (List.mem_cons_of_mem _ (List.mem_cons_of_mem _ (List.mem_cons_of_mem _ List.mem_cons_self))) (by first | exact HK0.out.1 | exact HS.out.1) ?_; (conv => arg 5; simp only [Act.put, List.setIfInBounds_toArray, List.set_cons_succ, List.set_cons_zero])) | (refine wpList_strowN (ys := k0) s26 rfl rfl rfl rfl M9 (Swap.tail (Swap.tail (Swap.tail Swap.head))) HS.out.1 HK0.out.1 (fun w10 M10 => ?_); clear M9; (conv => arg 5; simp only [Act.put, List.setIfInBounds_toArray, List.set_cons_succ, List.set_cons_zero])) | (refine wpList_strowN (ys := s) s26 rfl rfl rfl rfl M10 Swap.head HK0.out.1 HS.out.1 (fun w11 M9 => ?_); clear M10; (conv => arg 5; simp only [Act.put, List.setIfInBounds_toArray, List.set_cons_succ, List.set_cons_zero])) | (refine wpList_bsK2 54 rfl rfl rfl rfl rfl (by first | exact HK0.out | exact HS.out) (by first | exact HK0.out | exact HS.out) M9 (fun b33 w5 M5 => ?_); clear M9; (conv => arg 5; simp only [Act.put, List.setIfInBounds_toArray, List.set_cons_succ, List.set_cons_zero])) | (go_at_call 39; refine (put39 (fun b => K b ∧ b < w.heap.size) g mb c _ (some ⟨b33, 0, none⟩) 2 ts _ _ (HT.out.lt.below M5.below) HOK.out (M5.blkT List.mem_cons_self) (fun h => by cases h) hf).mono ?_; rintro e w6 ⟨rfl, A', c', T2, M6, hA2⟩; have M7 := M5.callE M6 (fun b hb => (HT.out.E_lt b hb).2); have hb1 := (M5.fresh _ (List.mem_cons_of_mem _ (List.mem_cons_of_mem _ List.mem_cons_self)) b6 rfl).resolve_left (by simp); have hb2 := Item.lt (M5.holds _ (List.mem_cons_of_mem _ (List.mem_cons_of_mem _ List.mem_cons_self))) (b := b6) rfl; have hsz := M5.size; clear M5 M6) | (refine wpList_strowNG s26 rfl rfl rfl rfl M7 (Swap.tail (Swap.tail Swap.head)) rfl (nameL_length _) (fun w7 M8 hgr => ?_); clear M7; (conv => arg 5; simp only [Act.put, List.setIfInBounds_toArray, List.set_cons_succ, List.set_cons_zero])))
        try simp only [Exit.inBlock, Exit.then]
        refine ret_row2 Try.underlying26 s26 rfl rfl rfl rfl rfl M8 (List.mem_cons_of_mem _ (List.mem_cons_of_mem _ List.mem_cons_self)) (nameL_length _) ?_
        rw [HPT.out]
        exact ⟨rfl, A', c', T2.after hb1 hb2 hgr, M8.sub (List.nil_sublist _), fun b hb => (hA2 b hb).imp id (fun h => Nat.le_trans hsz h)⟩
    · rw [hag, if_neg e3]
      have HOK := hid (show TmOk (oddT s p) from tmOk (by decide) (by decide) (by decide) (by simp [oddT]) (by simpa [oddT] using ⟨HS.out, hp⟩))
      clear hm hp hte hag hct hBn hBr
      go_enter Try.func28, Try.ntmps28
      go_upto_region 4 with (first | (refine wpList_bxN 4 rfl rfl rfl rfl M0 (fun b4 w1 M1 => ?_); clear M0; (conv => arg 5; simp only [Act.put, List.setIfInBounds_toArray, List.set_cons_succ, List.set_cons_zero])) | (refine wpList_bxN 5 rfl rfl rfl rfl M1 (fun b5 w2 M2 => ?_); clear M1; (conv => arg 5; simp only [Act.put, List.setIfInBounds_toArray, List.set_cons_succ, List.set_cons_zero])) | (refine wpList_alN z26 6 rfl rfl rfl M2 (fun b6 w3 M3 => ?_); clear M2; (conv => arg 5; simp only [Act.put, List.setIfInBounds_toArray, List.set_cons_succ, List.set_cons_zero])) | (refine wpList_ldrowN Try.underlying26 s26 rfl rfl rfl rfl M3 (List.mem_cons_of_mem _ List.mem_cons_self) HP.out.1 ?_; (conv => arg 5; simp only [Act.put, List.setIfInBounds_toArray, List.set_cons_succ, List.set_cons_zero])) | (refine wpList_bld (vs := #[]) b26z rfl rfl rfl ?_; (conv => arg 5; simp only [Act.put, List.setIfInBounds_toArray, List.set_cons_succ, List.set_cons_zero])) | (refine wpList_eq26 12 rfl rfl rfl rfl rfl HP.out.1 zK_ok.1 ?_; rw [HZ.out]; (conv => arg 5; simp only [Act.put, List.setIfInBounds_toArray, List.set_cons_succ, List.set_cons_zero])) | (go_at_call 43; refine (number43 g ts.length c _ p _ (M3.cell0 HCG.out) HP.out.1 HP.out.2 hn).mono ?_; rintro e w4 ⟨rfl, M4⟩; replace M3 := M3.call M4.below; clear M4; rw [HM.out]))
      have cg := M3.cell0 HCG.out
      have c0 := M3.cell0 HC0.out
      have hne : (t.kind != 3) = true := by simpa using e3
      clear e3
      go_wp2_with (first | (apply wpList_want; (· rfl)) | (refine wpList_ldrowN Try.underlying26 s26 rfl rfl rfl rfl M3 (List.mem_cons_of_mem _ (List.mem_cons_of_mem _ List.mem_cons_self)) HS.out.1 ?_; (conv => arg 5; simp only [Act.put, List.setIfInBounds_toArray, List.set_cons_succ, List.set_cons_zero])) | (refine wpList_ldrowN Try.underlying26 s26 rfl rfl rfl rfl M3 (List.mem_cons_of_mem _ List.mem_cons_self) HP.out.1 ?_; (conv => arg 5; simp only [Act.put, List.setIfInBounds_toArray, List.set_cons_succ, List.set_cons_zero])) | (refine wpList_bsK2 33 rfl rfl rfl rfl rfl HS.out HP.out M3 (fun b33 w5 M5 => ?_); clear M3; (conv => arg 5; simp only [Act.put, List.setIfInBounds_toArray, List.set_cons_succ, List.set_cons_zero])) | (go_at_call 39; refine (put39 (fun b => K b ∧ b < w.heap.size) g mb c _ (some ⟨b33, 0, none⟩) 2 ts (oddT s p) _ (HT.out.lt.below M5.below) HOK.out (M5.blkT List.mem_cons_self) (fun h => by cases h) hf).mono ?_; rintro e w6 ⟨rfl, A', c', T2, M6, hA2⟩; have M7 := M5.callE M6 (fun b hb => (HT.out.E_lt b hb).2); have hb1 := (M5.fresh _ (List.mem_cons_of_mem _ List.mem_cons_self) b6 rfl).resolve_left (by simp); have hb2 := Item.lt (M5.holds _ (List.mem_cons_of_mem _ List.mem_cons_self)) (b := b6) rfl; have hsz := M5.size; clear M5 M6) | (refine wpList_strowNG s26 rfl rfl rfl rfl M7 (Swap.tail Swap.head) rfl (nameL_length _) (fun w7 M8 hgr => ?_); clear M7; (conv => arg 5; simp only [Act.put, List.setIfInBounds_toArray, List.set_cons_succ, List.set_cons_zero])))
      try simp only [Exit.inBlock, Exit.then]
      refine ret_row2 Try.underlying26 s26 rfl rfl rfl rfl rfl M8 (List.mem_cons_of_mem _ List.mem_cons_self) (nameL_length _) ?_
      exact ⟨rfl, A', c', T2.after hb1 hb2 hgr, M8.sub (List.nil_sublist _), fun b hb => (hA2 b hb).imp id (fun h => Nat.le_trans hsz h)⟩
end Go.Proofs.Ytcapfnbmmdbcoaa
