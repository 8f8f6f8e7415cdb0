/- Walks of the onetime layer, sixth part: New, Write. -/
import Derived.Test.YtcjfpcajjhccaaaP7
set_option linter.unusedVariables false
set_option linter.unusedSimpArgs false
namespace Go.Proofs.Ytcjfpcajjhccaaa
open Go.RowKit
def zeroPoly : List Value := polyC (List.replicate 5 0) (List.replicate 5 0) (List.replicate 16 0) (List.replicate 17 0) 0
theorem z83 : (Try.prog.info? 83).map (·.zero) = some (some (.agg zeroPoly.toArray)) := by kernel_rfl
theorem s83 : (Try.prog.info? 83).map (·.size) = some 44 := by kernel_rfl
theorem zeroOk : PolyOk (List.replicate 5 0) (List.replicate 5 0) (List.replicate 16 0) (List.replicate 17 0) := ⟨rfl, rfl, rfl, rfl⟩
theorem beginM (g : Nat) (t : TypeId) (a r s rest : List Int) (many : Nat) (key : List Int) (w : World) (hp : PolyOk a r s rest) (hk : key.length = 32) (hkb : digOk 256 key) {w0 : World} {E : List Nat} {L L' : List Item} (M : Mem w0 E w L)
    (hs : Swap (.blk g (cellsO t (polyC a r s rest many))) (.blk g (cellsO t (polyC a (limbsL (clampP key)) (key.drop 16) rest many))) L L') :
    Calls Try.prog 46 #[.pointer (some ⟨g, 0, none⟩), .agg (nums .u8 key).toArray] w fun e w' => e = .returned (.tuple #[]) ∧ Mem w0 E w' L' :=
  (begin46 g t a r s rest many key w hp hk hkb (M.holds _ hs.mem)).mono fun e w' ⟨he, hg, hh⟩ => ⟨he, M.swap hs hg (.inr rfl) hh (fun b hb => .inl hb)⟩
/-- A tag that is begun. -/
def begun (key : List Int) : List Value := polyC (List.replicate 5 0) (limbsL (clampP key)) (key.drop 16) (List.replicate 17 0) 0
set_option maxRecDepth 100000 in
theorem New33 (key : List Int) (w : World) (hk : key.length = 32) (hkb : digOk 256 key) {w0 : World} {E : List Nat} {L : List Item} (M : Mem w0 E w L) :
    Calls Try.prog 33 #[.agg (nums .u8 key).toArray] w fun e w' => ∃ g, e = .returned (.pointer (some ⟨g, 0, none⟩)) ∧ Mem w0 E w' (.blk g (cellsO 83 (begun key)) :: L) := by
  go_enter Try.func33, Try.ntmps33
  go_wp2_with (first | (refine wpList_bx (ty := 83) (cs := zeroPoly) rfl rfl M' rfl rfl (fun b5 w' M2 => ?_); (conv => arg 5; simp only [Act.put, List.setIfInBounds_toArray, List.set_cons_succ, List.set_cons_zero]); replace M' := M2; clear M2) | (go_at_call 46; refine (beginM b5 83 _ _ _ _ 0 key _ zeroOk hk hkb M' Swap.head).mono ?_; rintro e w' ⟨rfl, M2⟩) | (apply wpList_bxN 1; (· rfl); (· rfl); (· rfl); (· rfl); (· assumption); intro b1 w' M'; (conv => arg 5; simp only [Act.put, List.setIfInBounds_toArray, List.set_cons_succ, List.set_cons_zero])) | (apply wpList_ldrowN Try.underlying23 s23; (· rfl); (· rfl); (· rfl); (· rfl); (· assumption); (· (repeat (first | exact List.mem_cons_self | refine List.mem_cons_of_mem _ ?_))); (· (first | with_reducible assumption | omega | (simp only [nums_length, List.length_set, List.length_replicate]; first | with_reducible assumption | omega) | rfl | (simp [*]; done) | (simp [*]; omega))); (conv => arg 5; simp only [Act.put, List.setIfInBounds_toArray, List.set_cons_succ, List.set_cons_zero])))
  go_ret
  exact ⟨_, rfl, M2.sub (List.Sublist.cons_cons _ (List.Sublist.cons _ (List.Sublist.refl L)))⟩
/-- One byte is taken. -/
def pstep (r : List Int) (st : List Int × List Int × Nat) (x : Int) : List Int × List Int × Nat :=
  if st.2.2 + 1 = 16 then (timesL (addTo st.1 (limbsL ((st.2.1.set st.2.2 x).set 16 1)) 5) r, List.replicate 17 0, 0) else (st.1, st.2.1.set st.2.2 x, st.2.2 + 1)
def pfeed (r : List Int) (st : List Int × List Int × Nat) (xs : List Int) : List Int × List Int × Nat := xs.foldl (pstep r) st
def StOk (st : List Int × List Int × Nat) : Prop := st.1.length = 5 ∧ st.2.1.length = 17 ∧ digOk 256 st.2.1 ∧ st.2.2 < 16
theorem pstep_ok (r : List Int) (st : List Int × List Int × Nat) (x : Int) (h : StOk st) (hx : 0 ≤ x ∧ x < 256) : StOk (pstep r st x) := by
  obtain ⟨h1, h2, h3, h4⟩ := h
  unfold pstep
  split
  · exact ⟨timesL_length _ _, by simp, digOk_zeros (by decide) 17, by simp⟩
  · exact ⟨h1, by simp [h2], digOk_set h3 _ hx, by show _ + 1 < 16; omega⟩
theorem pfeed_ok (r : List Int) (st : List Int × List Int × Nat) (xs : List Int) (h : StOk st) (hx : digOk 256 xs) : StOk (pfeed r st xs) := by
  induction xs generalizing st with
  | nil => exact h
  | cons x xs ih =>
    obtain ⟨h1, h2⟩ := digOk_cons hx
    exact ih _ (pstep_ok r st x h h1) h2
theorem pfeed_append (r : List Int) (st : List Int × List Int × Nat) (xs ys : List Int) : pfeed r st (xs ++ ys) = pfeed r (pfeed r st xs) ys := by simp [pfeed]
def polyS (r s : List Int) (st : List Int × List Int × Nat) : List Value := polyC st.1 r s st.2.1 st.2.2
/-- A slice of strings that reads as ps, not in block g. -/
inductive Strs (w : World) (g : Nat) : Value → List ByteArray → Prop where
  | none (A : Option Addr) (cap : Nat) : Strs w g (.slice A 0 cap) []
  | some (b off cap : Nat) (ps : List ByteArray) (hb : b ≠ g) (h : ∀ i s, ps[i]? = .some s → w.cell? ⟨b, off + i, Option.none⟩ = .some (.string s)) : Strs w g (.slice (.some ⟨b, off, Option.none⟩) ps.length cap) ps
def bytesAll (ps : List ByteArray) : List Int := ps.flatMap bytesOf
theorem bytesAll_append (ps qs : List ByteArray) : bytesAll (ps ++ qs) = bytesAll ps ++ bytesAll qs := by simp [bytesAll]
theorem bytesAll_ok (ps : List ByteArray) : digOk 256 (bytesAll ps) := by
  intro x hx
  simp only [bytesAll, List.mem_flatMap] at hx
  obtain ⟨s, _, h⟩ := hx
  exact bytesOf_all s x h
theorem bytesAll_take (ps : List ByteArray) (i : Nat) (s : ByteArray) (h : ps[i]? = some s) : bytesAll (ps.take (i + 1)) = bytesAll (ps.take i) ++ bytesOf s := by
  have hi := (List.getElem?_eq_some_iff.1 h).1
  rw [List.take_succ_eq_append_getElem hi, bytesAll_append]
  have : ps[i] = s := by rw [List.getElem?_eq_getElem hi] at h; simpa using h
  simp [bytesAll, this]
theorem take_rd_succ (xs : List Int) (k : Nat) (h : k < xs.length) : xs.take (k + 1) = xs.take k ++ [rd xs k] := by
  rw [List.take_succ_eq_append_getElem h]
  simp [rd, List.getD_eq_getElem?_getD, List.getElem?_eq_getElem h]
/-- An old cell is as it was. -/
theorem Mem.cellOld {w0 w : World} {E : List Nat} {L : List Item} (M : Mem w0 E w L) {ad : Addr} {v : Value} (h : w0.cell? ad = some v) (hE : ad.block ∉ E) : w.cell? ad = some v := by
  rw [← h]
  exact World.cell?_of_block (M.old _ (World.block_lt_of_cell? w0 ad h) hE)
theorem takeM (g : Nat) (t : TypeId) (a r s rest : List Int) (many : Nat) (w : World) (hp : PolyOk a r s rest) (hm : many < 17) (hrest : digOk 256 rest) {w0 : World} {E : List Nat} {L L' : List Item} (M : Mem w0 E w L)
    (hs : Swap (.blk g (cellsO t (polyC a r s rest many))) (.blk g (cellsO t (polyC (timesL (addTo a (limbsL (rest.set many 1)) 5) r) r s (List.replicate 17 0) 0))) L L') :
    Calls Try.prog 49 #[.pointer (some ⟨g, 0, none⟩)] w fun e w' => e = .returned (.tuple #[]) ∧ Mem w0 E w' L' :=
  (take49 g t a r s rest many w hp hm hrest (M.holds _ hs.mem)).mono fun e w' ⟨he, hg, hh⟩ => ⟨he, M.swap hs hg (.inr rfl) hh (fun b hb => .inl hb)⟩
set_option maxRecDepth 100000 in
set_option maxHeartbeats 2000000 in
theorem Write35 (g : Nat) (t : TypeId) (r s : List Int) (st : List Int × List Int × Nat) (v : Value) (ps : List ByteArray) (w : World) (hr : r.length = 5) (hs : s.length = 16) (hst : StOk st) (hv : Strs w g v ps) (hps : ps.length ≤ 1000000) (hpl : ∀ p ∈ ps, p.size ≤ 1000000)
    (hg : w.heap[g]? = some (cellsO t (polyS r s st))) :
    Calls Try.prog 35 #[.pointer (some ⟨g, 0, none⟩), v] w fun e w' => e = .returned (.tuple #[]) ∧ w.grownBy w' (some g) ∧ w'.heap[g]? = some (cellsO t (polyS r s (pfeed r st (bytesAll ps)))) := by
  have M0 := Mem.start1 hg
  cases hv with
  | none A cap =>
    go_enter Try.func35, Try.ntmps35
    go_wp2_with fail
    go_loopw [11] (fun n wr => n = .int .i64 0 ∧ Mem w [g] wr [.blk g (cellsO t (polyS r s st))]) (fun n _ => 0)
    case atStart => exact ⟨rfl, M0⟩
    case round =>
      obtain ⟨rfl, Mr⟩ := hrel
      clear M0
      go_wp2_with fail
      go_end0
      exact ⟨rfl, Mr.grown1, Mr.holds _ List.mem_cons_self⟩
  | some b off cap ps hb hc =>
    have hbE : b ∉ [g] := by simpa using hb
    go_enter Try.func35, Try.ntmps35
    go_wp2_with fail
    go_loopw [11] (fun n wr => ∃ i : Nat, i ≤ ps.length ∧ n = .int .i64 i ∧ Mem w [g] wr [.blk g (cellsO t (polyS r s (pfeed r st (bytesAll (ps.take i)))))]) (fun n _ => ps.length - (intOf n).toNat)
    case atStart => exact ⟨0, by omega, rfl, M0⟩
    case round =>
      obtain ⟨i, hi, rfl, Mi⟩ := hrel
      clear M0
      by_cases hlt : i < ps.length
      · have hltI : (i : Int) < (ps.length : Int) := by omega
        obtain ⟨p, hp⟩ : ∃ p, ps[i]? = some p := ⟨ps[i], List.getElem?_eq_getElem hlt⟩
        have c0 := Mi.cellOld (hc i p hp) hbE
        have hpm := hpl p (List.mem_of_getElem? hp)
        have hst1 := pfeed_ok r st (bytesAll (ps.take i)) hst (bytesAll_ok _)
        have hnext := bytesAll_take ps i p hp
        obtain ⟨st1, hst1e⟩ : ∃ x, x = pfeed r st (bytesAll (ps.take i)) := ⟨_, rfl⟩
        have hnext2 : pfeed r st (bytesAll (ps.take (i + 1))) = pfeed r st1 (bytesOf p) := by rw [hnext, pfeed_append, ← hst1e]
        rw [← hst1e] at Mi hst1
        have HN := hid hnext2
        clear hnext hnext2 hst1e hp
        go_wp2_with fail
        clear c0
        obtain ⟨wo, rfl⟩ : ∃ wo : World, wo = wr := ⟨_, rfl⟩
        go_loopw [17] (fun n wi => ∃ k : Nat, k ≤ p.size ∧ n = .int .i64 k ∧ Mem w [g] wi [.blk g (cellsO t (polyS r s (pfeed r st1 ((bytesOf p).take k))))]) (fun n _ => p.size - (intOf n).toNat)
        case atStart => exact ⟨0, by omega, rfl, Mi⟩
        case round =>
          obtain ⟨k, hk, rfl, Mk⟩ := hrel
          clear Mi
          by_cases hkl : k < p.size
          · have hklI : (k : Int) < (p.size : Int) := by omega
            have hst2 := pfeed_ok r st1 ((bytesOf p).take k) hst1 (digOk_take (bytesOf_all p) k)
            obtain ⟨st2, hst2e⟩ : ∃ x, x = pfeed r st1 ((bytesOf p).take k) := ⟨_, rfl⟩
            have hbx := byte_range p k
            have hnx : pfeed r st1 ((bytesOf p).take (k + 1)) = pstep r st2 (rd (bytesOf p) k) := by
              rw [take_rd_succ _ _ (by rw [bytesOf_length]; exact hkl), pfeed_append, ← hst2e]
              rfl
            rw [← hst2e] at Mk hst2
            have HX := hid hnx
            clear hnx hst2e
            obtain ⟨a, rest, many⟩ := st2
            obtain ⟨ha, hrest, hrd, hm⟩ := hst2
            simp only at ha hrest hrd hm
            have hpo : PolyOk a r s rest := ⟨ha, hr, hs, hrest⟩
            have hmI : (many : Int) < 16 := by omega
            replace Mk : Mem w [g] wr [.blk g (cellsO t (polyC a r s rest many))] := Mk
            go_wp2_with fail
            refine wp_region_tailM 11 (by kernel_rfl) (by kernel_rfl) Mk (fun w1 M1 => ?_)
            simp only [List.take_succ_cons, List.take_zero, List.drop_succ_cons, List.drop_zero]
            have c1 := M1.polyN List.mem_cons_self hpo
            have m17 : (many : Int) < 17 := by omega
            repeat still_step
            refine wpStill_nil ?_
            clear c1 Mk
            obtain ⟨x, hx⟩ : ∃ x, x = rd (bytesOf p) k := ⟨_, rfl⟩
            rw [← hx] at HX hbx ⊢
            clear hx
            obtain ⟨rest1, hr1⟩ : ∃ y, y = rest.set many x := ⟨_, rfl⟩
            have hpo1 : PolyOk a r s rest1 := ⟨ha, hr, hs, by rw [hr1, List.length_set, hrest]⟩
            have hrd1 : digOk 256 rest1 := by rw [hr1]; exact digOk_set hrd many hbx
            have HR1 := hid hr1
            clear hr1
            by_cases h16 : many + 1 = 16
            · have hb16 : ((many : Int) + 1 == 16) = true := by rw [beq_iff_eq]; omega
              have HX2 := hid (show pstep r (a, rest, many) x = (timesL (addTo a (limbsL (rest1.set 16 1)) 5) r, List.replicate 17 0, 0) by rw [pstep, if_pos h16, HR1.out])
              go_wp2_with (first | (apply wpList_nc; (· rfl); (· rfl); (· rfl); (conv => arg 5; simp only [Act.put, List.setIfInBounds_toArray, List.set_cons_succ, List.set_cons_zero])) | (apply wpList_stT s5; (· rfl); (· rfl); (· rfl); (· rfl); (· exact M1); (· exact Swap.head); (· exact hpo); (· omega); intro w' M2; rw [← HR1.out] at M2; have c2 := M2.polyN List.mem_cons_self hpo1) | (apply wpList_stM' (many + 1) s3; (· rfl); (· rfl); (· rfl); (· rfl); (· exact M2); (· exact Swap.head); (· exact hpo1); clear c2; intro w' M3; have c3 := M3.polyN List.mem_cons_self hpo1))
              rw [h16] at M3
              refine (takeM g t a r s rest1 16 _ hpo1 (by omega) hrd1 M3 Swap.head).mono ?_; rintro e w' ⟨rfl, M4⟩
              go_wp2_with fail
              go_roundw
              case rel => exact ⟨k + 1, by omega, by go_num, by rw [HX.out, HX2.out]; exact M4⟩
              case measure => simp [intOf]; omega
            · have hb16 : ((many : Int) + 1 == 16) = false := by rw [beq_eq_false_iff_ne]; omega
              have HX2 := hid (show pstep r (a, rest, many) x = (a, rest1, many + 1) by rw [pstep, if_neg h16, HR1.out])
              go_wp2_with (first | (apply wpList_nc; (· rfl); (· rfl); (· rfl); (conv => arg 5; simp only [Act.put, List.setIfInBounds_toArray, List.set_cons_succ, List.set_cons_zero])) | (apply wpList_stT s5; (· rfl); (· rfl); (· rfl); (· rfl); (· exact M1); (· exact Swap.head); (· exact hpo); (· omega); intro w' M2; rw [← HR1.out] at M2; have c2 := M2.polyN List.mem_cons_self hpo1) | (apply wpList_stM' (many + 1) s3; (· rfl); (· rfl); (· rfl); (· rfl); (· exact M2); (· exact Swap.head); (· exact hpo1); clear c2; intro w' M3; have c3 := M3.polyN List.mem_cons_self hpo1))
              go_roundw
              case rel => exact ⟨k + 1, by omega, by go_num, by rw [HX.out, HX2.out]; exact M3⟩
              case measure => simp [intOf]; omega
          · obtain rfl : k = p.size := by omega
            rw [List.take_of_length_le (by rw [bytesOf_length]; omega)] at Mk
            go_wp2_with fail
            go_roundw
            case rel => exact ⟨i + 1, by omega, by go_num, by rw [HN.out]; exact Mk⟩
            case measure => simp [intOf]; omega
      · obtain rfl : i = ps.length := by omega
        rw [List.take_of_length_le (Nat.le_refl _)] at Mi
        go_wp2_with fail
        go_end0
        exact ⟨rfl, Mi.grown1, Mi.holds _ List.mem_cons_self⟩
end Go.Proofs.Ytcjfpcajjhccaaa
