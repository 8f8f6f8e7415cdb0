/- A play: the keys that a step names, at most five; a term looked up by the program; two terms compared. -/
import Derived.Test.YtcapfnbmmdbcoaaG2
set_option linter.unusedVariables false
set_option linter.unusedSimpArgs false
namespace Go.Proofs.Ytcapfnbmmdbcoaa
open Go.RowKit
/-- The keys that a step names. -/
def namedP (keys : List (List Int)) (is : List Int) : List (List Int) := (is.take 5).map (atK keys)
def NamedPR (keys : List (List Int)) (is : List Int) (w : World) (e : Ending) (w' : World) : Prop :=
  ∃ B d, e = .returned (.slice B (namedP keys is).length d) ∧ Mem w [] w' [.vec B (namedP keys is).length d 26 32 (nums .u8 (namedP keys is).flatten)]
theorem namedP_len (keys : List (List Int)) (is : List Int) : (namedP keys is).length ≤ 5 := by simp [namedP]; omega
theorem namedP_ok {keys : List (List Int)} (h : 1 ≤ keys.length) (hk : ∀ k ∈ keys, KeyOk k) (is : List Int) : ∀ k ∈ namedP keys is, KeyOk k := fun k hin => by
  obtain ⟨i, _, rfl⟩ := List.mem_map.1 hin
  exact atK_ok h hk i
set_option maxRecDepth 100000 in
set_option maxHeartbeats 2000000 in
theorem named53 {K : Nat → Prop} {w : World} {p g m : Nat} {keys : List (List Int)} (h : playR p g m keys K w) (h1 : 1 ≤ keys.length) (hl : keys.length ≤ 100000) {c : Sp} {I : Option Addr} {ic : Nat} (hr : KeyOk c.raw) (hI : RowC w I (nums .i64 c.keys)) :
    Calls Try.prog 53 #[.pointer (some ⟨p, 0, none⟩), .agg (spCells c I ic).toArray] w (NamedPR keys c.keys w) := by
  have M0 := Mem.start w
  have HH := hid h
  have HR := hid hr
  have HI := hid hI
  have hok : ∀ k ∈ keys, KeyOk k := by obtain ⟨A, c, T⟩ := h; exact T.ok
  have HO := hid (fun n => atK_ok h1 hok n)
  clear h hr hI hok
  go_enter Try.func53, Try.ntmps53
  go_wp2_with (refine wpList_bx (cs := spCells c I ic) rfl rfl M0 rfl rfl (fun b3 w1 M1 => ?_); clear M0; (conv => arg 5; simp only [Act.put, List.setIfInBounds_toArray, List.set_cons_succ, List.set_cons_zero]))
  go_loopw [5, 6] (fun o x wr => ∃ (i : Nat) (B : Option Addr) (d : Nat), i ≤ c.keys.length ∧ i ≤ 5 ∧ x = .int .i64 i ∧ o = .slice B i d ∧ Mem w [] wr [.vec B i d 26 32 (nums .u8 ((c.keys.take i).map (atK keys)).flatten), .blk b3 (cellsO 66 (spCells c I ic))]) (fun _ x _ => 5 - (intOf x).toNat)
  case atStart => exact ⟨0, none, 0, by omega, by omega, rfl, rfl, M1.nil 26 32⟩
  case round =>
    obtain ⟨i, B, d, hi, hi5, rfl, rfl, M⟩ := hrel
    clear M1
    have c35 := M.cell (i := 35) (g := b3) (v := .slice I c.keys.length ic) (by (repeat (first | exact List.mem_cons_self | refine List.mem_cons_of_mem _ ?_))) (sp_keys HR.out)
    by_cases hlt : i < c.keys.length
    · have hltI : (i : Int) < (c.keys.length : Int) := by omega
      by_cases h5 : i < 5
      · have h5I : (i : Int) < 5 := by omega
        obtain ⟨a, hae⟩ : ∃ a, c.keys[i]? = some a := ⟨_, List.getElem?_eq_getElem hlt⟩
        obtain ⟨bi, oi, hIe, hcell⟩ := HI.out.cell (i := i) (v := .int .i64 a) (by simp [nums, hae])
        subst hIe
        have HCI := hid hcell
        have ci := M.cell0 hcell
        have HAE := hid hae
        have HKO := hid (HO.out a)
        clear hae hcell
        go_wp2_with (first
          | (go_at_call 31; refine (at31 ((playR_ok _ _ _ _).keep HH.out (fun b hb hl => M.old b hl (by simp))) h1 hl a).mono ?_; rintro e wn ⟨rfl, MM⟩; have M9 := M.call MM.below; clear MM M c35 ci; have M := M9; clear M9)
          | (refine wpList_bsK1 26 rfl rfl rfl rfl HKO.out M (fun b26 w3 M3 => ?_); clear M; (conv => arg 5; simp only [Act.put, List.setIfInBounds_toArray, List.set_cons_succ, List.set_cons_zero]))
          | (refine wpList_appSm 27 rfl Try.underlying34 i26' rfl (by decide) rfl rfl rfl rfl M3 (fun A' cap' => Swap.tail Swap.head) (M3.blkT List.mem_cons_self) (by rw [nums_length, List.flatten_cons, List.flatten_nil, List.append_nil, HKO.out.1]) (nums_one .u8 _) (by omega) (by omega) (fun A2 c2 w4 M4 => ?_); clear M3; (conv => arg 5; simp only [Act.put, List.setIfInBounds_toArray, List.set_cons_succ, List.set_cons_zero])))
        go_round
        case rel =>
          refine ⟨i + 1, A2, c2, by omega, by omega, by go_num, rfl, ?_⟩
          have h2 : (c.keys.take (i + 1)).map (atK keys) = (c.keys.take i).map (atK keys) ++ [atK keys a] := by
            obtain ⟨hl, he⟩ := List.getElem?_eq_some_iff.1 HAE.out
            rw [List.take_succ_eq_append_getElem hl, he]
            simp
          rw [h2, List.flatten_append, nums_append]
          exact M4.sub (by (repeat (first | exact List.Sublist.refl _ | apply List.Sublist.cons_cons | apply List.Sublist.cons)))
        case measure => simp [intOf]; omega
      · obtain rfl : i = 5 := by omega
        have h6 : (5 : Int) < (c.keys.length : Int) := by omega
        go_wp2_with fail
        go_ret
        refine ⟨B, d, ?_, ?_⟩
        · rw [namedP, List.length_map, List.length_take, Nat.min_eq_left (by omega)]; rfl
        · rw [namedP, List.length_map, List.length_take, Nat.min_eq_left (by omega)]
          exact M.sub (by (repeat (first | exact List.Sublist.refl _ | apply List.Sublist.cons_cons | apply List.Sublist.cons)))
    · obtain rfl : i = c.keys.length := by omega
      go_wp2_with fail
      go_ret
      have h5 : c.keys.take 5 = c.keys := List.take_of_length_le hi5
      rw [List.take_of_length_le (Nat.le_refl _)] at M
      refine ⟨B, d, ?_, ?_⟩
      · rw [namedP, h5, List.length_map]; rfl
      · rw [namedP, h5, List.length_map]
        exact M.sub (by (repeat (first | exact List.Sublist.refl _ | apply List.Sublist.cons_cons | apply List.Sublist.cons)))
/-- A term comes back as the program looks it up: a copy. -/
def LookP (w : World) (t : Tm) (e : Ending) (w' : World) : Prop :=
  ∃ B d, e = .returned (.agg #[.int .i64 t.kind, .string t.text, .slice B t.keys.length d]) ∧ RowT w' 26 B (nums .u8 t.keys.flatten) ∧ Mem w [] w' []
set_option maxRecDepth 100000 in
set_option maxHeartbeats 2000000 in
theorem Look57 {K : Nat → Prop} {w : World} {g : Nat} {ts : List Tm} (h : tabR g ts K w) {k : List Int} (hk : KeyOk k) :
    Calls Try.prog 57 #[.pointer (some ⟨g, 0, none⟩), .agg (nums .u8 k).toArray] w (LookP w (lookT ts k)) := by
  obtain ⟨mb, A, c, T⟩ := h
  have M0 := Mem.start w
  have HT := hid T
  have HK := hid hk
  have hn : ts.length ≤ 1000000 := T.few
  have HC := hid (show w.cell? ⟨g, 0, none⟩ = some (.slice A ts.length c) from by rw [cell_of_row w g 0 _ 88 (0, 0) T.hg]; rfl)
  clear T hk
  rcases numT_cases ts.length k HK.out with hm | ⟨i, hi, hm⟩
  · have HM := hid hm
    rw [show lookT ts k = ⟨0, ⟨#[]⟩, [k]⟩ from by rw [lookT, hm, if_neg (by decide)]]
    clear hm
    go_enter Try.func57, Try.ntmps57
    go_upto_region 2 with (first | (refine wpList_bxN 3 rfl rfl rfl rfl M0 ?_; clear M0; intro b3 w1 M; (conv => arg 5; simp only [Act.put, List.setIfInBounds_toArray, List.set_cons_succ, List.set_cons_zero])) | (refine wpList_al rfl rfl M z95 rfl ?_; clear M; intro b4 w2 M; (conv => arg 5; simp only [Act.put, List.setIfInBounds_toArray, List.set_cons_succ, List.set_cons_zero])) | (refine wpList_ldrowN Try.underlying26 s26 rfl rfl rfl rfl M (by (repeat (first | exact List.mem_cons_self | refine List.mem_cons_of_mem _ ?_))) HK.out.1 ?_; (conv => arg 5; simp only [Act.put, List.setIfInBounds_toArray, List.set_cons_succ, List.set_cons_zero])) | (go_at_call 43; refine (number43 g ts.length c _ k _ (M.cell0 HC.out) HK.out.1 HK.out.2 hn).mono ?_; rintro e6 w6 ⟨rfl, M6⟩; replace M := M.call M6.below; clear M6; rw [HM.out]))
    go_wp2_with (first | (refine wpList_ldrowN Try.underlying26 s26 rfl rfl rfl rfl M (by (repeat (first | exact List.mem_cons_self | refine List.mem_cons_of_mem _ ?_))) HK.out.1 ?_; (conv => arg 5; simp only [Act.put, List.setIfInBounds_toArray, List.set_cons_succ, List.set_cons_zero])) | (refine wpList_bsK1 13 rfl rfl rfl rfl HK.out M ?_; clear M; intro b13 w5 M; (conv => arg 5; simp only [Act.put, List.setIfInBounds_toArray, List.set_cons_succ, List.set_cons_zero])) | (refine wpList_strow (vs := [.int .i64 0, .string ⟨#[]⟩, .slice (some ⟨b13, 0, none⟩) 1 1]) rfl rfl rfl rfl M (Swap.tail Swap.head) sz95 rfl (by simp [Value.oneCell']) ?_; clear M; intro w7 M; (conv => arg 5; simp only [Act.put, List.setIfInBounds_toArray, List.set_cons_succ, List.set_cons_zero])))
    (try simp only [Exit.inBlock, Exit.then])
    refine ret_rowC Try.underlying95 sz95 rfl rfl rfl rfl M (cs := [.int .i64 0, .string ⟨#[]⟩, .slice (some ⟨b13, 0, none⟩) 1 1]) (by (repeat (first | exact List.mem_cons_self | refine List.mem_cons_of_mem _ ?_))) rfl ?_
    exact ⟨some ⟨b13, 0, none⟩, 1, rfl, M.blkT (by (repeat (first | exact List.mem_cons_self | refine List.mem_cons_of_mem _ ?_))), M.sub (List.nil_sublist _)⟩
  · have HM := hid hm
    obtain ⟨t, hte⟩ : ∃ t, ts[i]? = some t := ⟨ts[i], List.getElem?_eq_getElem hi⟩
    rw [show lookT ts k = t from by rw [lookT, hm, if_pos (by omega), Int.toNat_natCast, hte]; rfl]
    obtain ⟨bT, B, d, hA, hct, hd, hBn, hBr⟩ := HT.out.get hte
    have HTO := hid (HT.out.ok t (List.mem_of_getElem? hte))
    subst hA
    have HCT := hid hct
    have HBN := hid hBn
    have HBR := hid hBr
    have hiI : (i : Int) < (ts.length : Int) := by omega
    clear hm hte hct hBn hBr
    go_enter Try.func57, Try.ntmps57
    go_upto_region 2 with (first | (refine wpList_bxN 3 rfl rfl rfl rfl M0 ?_; clear M0; intro b3 w1 M; (conv => arg 5; simp only [Act.put, List.setIfInBounds_toArray, List.set_cons_succ, List.set_cons_zero])) | (refine wpList_al rfl rfl M z95 rfl ?_; clear M; intro b4 w2 M; (conv => arg 5; simp only [Act.put, List.setIfInBounds_toArray, List.set_cons_succ, List.set_cons_zero])) | (refine wpList_ldrowN Try.underlying26 s26 rfl rfl rfl rfl M (by (repeat (first | exact List.mem_cons_self | refine List.mem_cons_of_mem _ ?_))) HK.out.1 ?_; (conv => arg 5; simp only [Act.put, List.setIfInBounds_toArray, List.set_cons_succ, List.set_cons_zero])) | (go_at_call 43; refine (number43 g ts.length c _ k _ (M.cell0 HC.out) HK.out.1 HK.out.2 hn).mono ?_; rintro e6 w6 ⟨rfl, M6⟩; replace M := M.call M6.below; clear M6; rw [HM.out]))
    have cA := M.cell0 HC.out
    go_wp2_with (first
      | (refine wpList_ldagg 21 rfl Try.underlying95 rfl rfl rfl rfl (M.cells0 HCT.out) sz95 ?_; (conv => arg 5; simp only [Act.put, List.setIfInBounds_toArray, List.set_cons_succ, List.set_cons_zero]))
      | (refine wpList_al rfl rfl M z95 rfl ?_; clear M cA; intro b6 w5 M; (conv => arg 5; simp only [Act.put, List.setIfInBounds_toArray, List.set_cons_succ, List.set_cons_zero]))
      | (refine wpList_strow (vs := [.int .i64 t.kind, .string t.text, .slice B t.keys.length d]) rfl rfl rfl rfl M Swap.head sz95 rfl (by simp [Value.oneCell']) ?_; clear M; intro w7 M; have c2 := M.cell (i := 2) (g := b6) (v := .slice B t.keys.length d) List.mem_cons_self rfl; (conv => arg 5; simp only [Act.put, List.setIfInBounds_toArray, List.set_cons_succ, List.set_cons_zero]))
      | (go_at_call 44; refine (Clone44 B d t.keys _ HTO.out.ks (HBR.out.mem (M.sub (List.nil_sublist _))) HBN.out HTO.out.kl).mono ?_; rintro e wn ⟨B2, d2, rfl, _, _, _, M44⟩; have M8 := M.join M44; clear M44 M c2)
      | (refine wpList_stM (v := .slice B2 t.keys.length d2) rfl rfl s34 rfl rfl rfl M8 (Swap.tail Swap.head) (by simp) ?_; clear M8; intro wz M8; (conv => arg 5; simp only [Act.put, List.setIfInBounds_toArray, List.set_cons_succ, List.set_cons_zero]))
      | (refine wpList_ldagg 26 rfl Try.underlying95 rfl rfl rfl rfl (cs := [.int .i64 t.kind, .string t.text, .slice B2 t.keys.length d2]) (fun j v hv => by rw [Nat.zero_add]; exact M8.cell (List.mem_cons_of_mem _ List.mem_cons_self) hv) sz95 ?_; (conv => arg 5; simp only [Act.put, List.setIfInBounds_toArray, List.set_cons_succ, List.set_cons_zero]))
      | (refine wpList_strow (vs := [.int .i64 t.kind, .string t.text, .slice B2 t.keys.length d2]) rfl rfl rfl rfl M8 (Swap.tail (Swap.tail Swap.head)) sz95 rfl (by simp [Value.oneCell']) ?_; clear M8; intro w9 M9; (conv => arg 5; simp only [Act.put, List.setIfInBounds_toArray, List.set_cons_succ, List.set_cons_zero])))
    (try simp only [Exit.inBlock, Exit.then])
    refine ret_rowC Try.underlying95 sz95 rfl rfl rfl rfl M9 (cs := [.int .i64 t.kind, .string t.text, .slice B2 t.keys.length d2]) (by (repeat (first | exact List.mem_cons_self | refine List.mem_cons_of_mem _ ?_))) rfl ?_
    exact ⟨B2, d2, rfl, M9.vecT List.mem_cons_self, M9.sub (List.nil_sublist _)⟩
/-! ### Two terms compared -/
set_option maxRecDepth 100000 in
set_option maxHeartbeats 2000000 in
theorem SameTerm56 {B C : Option Addr} {d e : Nat} {t : Tm} (w : World) (ht : ∀ k ∈ t.keys, KeyOk k) (hl : t.keys.length ≤ 100000) (hB : RowT w 26 B (nums .u8 t.keys.flatten)) (hC : RowT w 26 C (nums .u8 t.keys.flatten)) :
    Calls Try.prog 56 #[.agg #[.int .i64 t.kind, .string t.text, .slice B t.keys.length d], .agg #[.int .i64 t.kind, .string t.text, .slice C t.keys.length e]] w (BoolR true w) := by
  have M0 := Mem.start w
  have HT := hid ht
  have HB := hid hB
  have HC := hid hC
  have hkk : (t.kind == t.kind) = true := by simp
  have htt : (t.text.toList == t.text.toList) = true := by simp
  clear ht hB hC
  go_enter Try.func56, Try.ntmps56
  go_wp2_with (first
    | (refine wpList_bx (cs := [.int .i64 t.kind, .string t.text, .slice B t.keys.length d]) rfl rfl M0 rfl rfl (fun b2 w1 M1 => ?_); clear M0; (conv => arg 5; simp only [Act.put, List.setIfInBounds_toArray, List.set_cons_succ, List.set_cons_zero]))
    | (refine wpList_bx (cs := [.int .i64 t.kind, .string t.text, .slice C t.keys.length e]) rfl rfl M1 rfl rfl (fun b3 w2 M => ?_); clear M1; have a0 := M.cell (i := 0) (g := b2) (v := .int .i64 t.kind) (by (repeat (first | exact List.mem_cons_self | refine List.mem_cons_of_mem _ ?_))) rfl; have a1 := M.cell (i := 1) (g := b2) (v := .string t.text) (by (repeat (first | exact List.mem_cons_self | refine List.mem_cons_of_mem _ ?_))) rfl; have a2 := M.cell (i := 2) (g := b2) (v := .slice B t.keys.length d) (by (repeat (first | exact List.mem_cons_self | refine List.mem_cons_of_mem _ ?_))) rfl; have d0 := M.cell (i := 0) (g := b3) (v := .int .i64 t.kind) (by (repeat (first | exact List.mem_cons_self | refine List.mem_cons_of_mem _ ?_))) rfl; have d1 := M.cell (i := 1) (g := b3) (v := .string t.text) (by (repeat (first | exact List.mem_cons_self | refine List.mem_cons_of_mem _ ?_))) rfl; have d2 := M.cell (i := 2) (g := b3) (v := .slice C t.keys.length e) (by (repeat (first | exact List.mem_cons_self | refine List.mem_cons_of_mem _ ?_))) rfl; (conv => arg 5; simp only [Act.put, List.setIfInBounds_toArray, List.set_cons_succ, List.set_cons_zero]))
    | (go_at_call 25; refine (same25 (ks := t.keys) rfl rfl HT.out (HB.out.mem (M.sub (List.nil_sublist _))) (HC.out.mem (M.sub (List.nil_sublist _))) hl).mono ?_; rintro e wn ⟨rfl, MM⟩; have N := M.call MM.below; clear MM M a0 a1 a2 d0 d1 d2))
  go_ret
  exact ⟨rfl, N.sub (List.nil_sublist _)⟩
end Go.Proofs.Ytcapfnbmmdbcoaa
