/- Plain laws of sealed texts. -/
import Derived.Test.YtcjfpcajjhccaaaAB
import Derived.Test.YtcjfpcajjhccaaaL2
set_option linter.unusedVariables false
set_option linter.unusedSimpArgs false
namespace Go.Proofs.Ytcjfpcajjhccaaa
open Go.RowKit
theorem extract_bt (s : ByteArray) (i j : Nat) : bytesOf (s.extract i j) = ((bytesOf s).drop i).take (j - i) := by
  simp [bytesOf, ByteArray.data_extract, List.map_take, List.map_drop]
theorem macL_ok (a t : List Int) (ha : digOk 256 a) (ht : digOk 256 t) : digOk 256 (macL a t) := by
  rw [macL]
  exact digOk_append (digOk_append (digOk_append (digOk_append ha (digOk_zeros (by decide) _)) (digOk_append ht (digOk_zeros (by decide) _))) (digs_ok (by decide) _ _)) (digs_ok (by decide) _ _)
theorem tagS_size (key nl a c : List Int) (ha : digOk 256 a) (hc : digOk 256 c) : (tagS key nl a c).size = 16 := by
  rw [tagS, strOfNums_size, tag_eq _ _ (tagKey_length _ _) (tagKey_ok _ _) (macL_ok a c ha hc), tagV, digs_length]
theorem bytes_ok (s : ByteArray) : digOk 256 (bytesOf s) := fun x hx => bytesOf_all s x hx
theorem sealS_size (key nl a tl : List Int) (ha : digOk 256 a) : (sealS key nl a tl).size = tl.length + 16 := by
  rw [sealS, ByteArray.size_append, maskS_size, tagS_size _ _ _ _ ha (bytes_ok _)]
theorem extract_left (x y : ByteArray) : (x ++ y).extract 0 x.size = x := by
  apply bytes_inj
  rw [extract_bt, bytes_app, List.drop_zero, Nat.sub_zero, ← bytesOf_length, List.take_left]
theorem extract_right (x y : ByteArray) : (x ++ y).extract x.size (x ++ y).size = y := by
  apply bytes_inj
  rw [extract_bt, bytes_app, ← bytesOf_length x, List.drop_left, ByteArray.size_append, ← bytesOf_length x, ← bytesOf_length y]
  exact List.take_of_length_le (by omega)
theorem sealS_head (key nl a tl : List Int) : (sealS key nl a tl).extract 0 tl.length = maskS key nl tl := by
  have h := extract_left (maskS key nl tl) (tagS key nl a (bytesOf (maskS key nl tl)))
  rw [maskS_size] at h
  exact h
theorem sealS_tail (key nl a tl : List Int) : (sealS key nl a tl).extract tl.length (sealS key nl a tl).size = tagS key nl a (bytesOf (maskS key nl tl)) := by
  have h := extract_right (maskS key nl tl) (tagS key nl a (bytesOf (maskS key nl tl)))
  rw [maskS_size] at h
  exact h
theorem maskS_bytes (key nl tl : List Int) : bytesOf (maskS key nl tl) = maskB key nl 1 tl := by
  rw [maskS, bytesOf_str _ (maskB_bytes _ _ _ _)]
theorem maskS_twice (key nl : List Int) (s : ByteArray) : maskS key nl (bytesOf (maskS key nl (bytesOf s))) = s := by
  rw [maskS_bytes, maskS, mask_back key nl 1 _ (fun x hx => bytesOf_all s x hx), str_bytesOf]
theorem extract_join (b : ByteArray) (n : Nat) (h : n ≤ b.size) : b.extract 0 n ++ b.extract n b.size = b := by
  apply bytes_inj
  rw [bytes_app, extract_bt, extract_bt, List.drop_zero, Nat.sub_zero]
  rw [List.take_of_length_le (l := (bytesOf b).drop n) (by rw [List.length_drop, bytesOf_length]; omega), List.take_append_drop]
theorem seal_only (key nl a : List Int) (b : ByteArray) (n : Nat) (hn : b.size = n + 16) (h : b.extract n b.size = tagS key nl a (bytesOf (b.extract 0 n))) :
    sealS key nl a (bytesOf (maskS key nl (bytesOf (b.extract 0 n)))) = b := by
  rw [sealS, maskS_twice, ← h, extract_join b n (by omega)]
end Go.Proofs.Ytcjfpcajjhccaaa
namespace Go.Proofs.Ytcjfpcajjhccaaa
open Go.RowKit
theorem Open40_back (key : List Int) (s text bx : ByteArray) (A : Option Addr) (cap : Nat) (ps : List ByteArray) (w : World) (hk : key.length = 32) (hkb : digOk 256 key) (hs : s.size = 12) (ht : text.size ≤ 2000) (hA : RowS w A ps) (hn : ps.length ≤ 20) (hp : ∀ p ∈ ps, p.size ≤ 1000)
    (hbx : sealS key (bytesOf s) (bytesAll ps) (bytesOf text) = bx) :
    Calls Try.prog 40 #[.agg (nums .u8 key).toArray, .string s, .string bx, .slice A ps.length cap] w fun e w' => e = .returned (.tuple #[.string text, .int .i64 0]) ∧ Below w.heap.size w w' := by
  have hz := sealS_size key (bytesOf s) (bytesAll ps) (bytesOf text) (bytesAll_ok _)
  have h1 := sealS_head key (bytesOf s) (bytesAll ps) (bytesOf text)
  have h2 := sealS_tail key (bytesOf s) (bytesAll ps) (bytesOf text)
  rw [hbx, bytesOf_length] at hz h1 h2
  have h := Open40 key s bx A cap ps w hk hkb hs text.size hz ht hA hn hp
  rw [h1, if_pos h2, maskS_twice] at h
  exact h
def keyOne : List Int := 1 :: List.replicate 31 0
theorem keyOne_bld : ∀ w : World, (Instr.build 23 #[(0, .int .u8 1)]).run Try.prog w = .ok (.agg (nums .u8 keyOne).toArray) w := fun w => by kernel_rfl
theorem keyOne_ok : digOk 256 keyOne := fun x hx => by
  have : ∀ x ∈ keyOne, 0 ≤ x ∧ x < 256 := by decide
  exact this x hx
set_option maxRecDepth 100000 in
theorem alive36 (w : World) : Calls Try.prog 36 #[] w fun e w' => e = .returned (.bool true) ∧ Below w.heap.size w w' := by
  have M0 := Mem.start w
  obtain ⟨nn, hnn⟩ : ∃ x, x = strOfNums (((List.replicate 12 (0 : Int)).drop 0).take 12) := ⟨_, rfl⟩
  have znn : nn.size = 12 := by rw [hnn, strOfNums_size]; rfl
  have hby : bytesAll [(⟨#[98]⟩ : ByteArray), ⟨#[121]⟩] = bytesAll [(⟨#[98, 121]⟩ : ByteArray)] := by decide
  have H38 := hid (fun w' A cap (h : RowS w' A [⟨#[98, 121]⟩]) => Seal38 keyOne nn ⟨#[116, 101, 120, 116]⟩ A cap [⟨#[98, 121]⟩] w' rfl keyOne_ok znn (by decide) h (by decide) (by decide))
  obtain ⟨bx, hbx⟩ : ∃ x, x = sealS keyOne (bytesOf nn) (bytesAll [(⟨#[98, 121]⟩ : ByteArray)]) (bytesOf ⟨#[116, 101, 120, 116]⟩) := ⟨_, rfl⟩
  rw [← hbx] at H38
  have zbx : bx.size = 20 := by rw [hbx, sealS_size _ _ _ _ (bytesAll_ok _)]; rfl
  have H40 := hid (fun w' A cap (h : RowS w' A [⟨#[98]⟩, ⟨#[121]⟩]) => Open40_back keyOne nn ⟨#[116, 101, 120, 116]⟩ bx A cap [⟨#[98]⟩, ⟨#[121]⟩] w' rfl keyOne_ok znn (by decide) h (by decide) (by decide) (by rw [hby, hbx]))
  have HZ := hid hnn.symm
  have h20 : ((bx.size : Int) == 20) = true := by rw [beq_iff_eq]; omega
  clear hnn znn hby hbx zbx
  go_enter Try.func36, Try.ntmps36
  go_wp2_with (first | (refine wpList_mkN 6 12 Try.underlying47 i5 rfl rfl rfl rfl rfl rfl rfl (by decide) (by decide) M0 (fun b6 w' M' => ?_); clear M0; (conv => arg 5; simp only [Act.put, List.setIfInBounds_toArray, List.set_cons_succ, List.set_cons_zero])) | (refine wpList_cvS Try.underlying47 Try.underlying5 Try.underlying9 rfl rfl rfl M' List.mem_cons_self (by simp) ?_; rw [HZ.out]; (conv => arg 5; simp only [Act.put, List.setIfInBounds_toArray, List.set_cons_succ, List.set_cons_zero])) | (apply wpList_bld keyOne_bld; (· rfl); (· rfl); (· rfl); (conv => arg 5; simp only [Act.put, List.setIfInBounds_toArray, List.set_cons_succ, List.set_cons_zero])) | (apply wpList_bsS1 11; (· rfl); (· rfl); (· rfl); (· rfl); (· exact M'); intro b11 w' M2; (conv => arg 5; simp only [Act.put, List.setIfInBounds_toArray, List.set_cons_succ, List.set_cons_zero])) | (apply wpList_bsS2 19; (· rfl); (· rfl); (· rfl); (· rfl); (· rfl); (· exact M2); intro b19 w' M3; (conv => arg 5; simp only [Act.put, List.setIfInBounds_toArray, List.set_cons_succ, List.set_cons_zero])) | (go_at_call 38; refine (H38.out _ _ _ (M2.rowStr (g := b11) (t := 9) List.mem_cons_self)).mono ?_; rintro e w' ⟨rfl, hb⟩; replace M2 := M2.call hb) | (go_at_call 40; refine (H40.out _ _ _ (M3.rowStr (g := b19) (t := 9) List.mem_cons_self)).mono ?_; rintro e w' ⟨rfl, hb⟩; replace M3 := M3.call hb) | (apply wpList_cvS Try.underlying47 Try.underlying5 Try.underlying9; (· rfl); (· rfl); (· rfl); (· assumption); (· (repeat (first | exact List.mem_cons_self | refine List.mem_cons_of_mem _ ?_))); (· (first | with_reducible assumption | omega | (simp only [nums_length, List.length_set, List.length_replicate]; first | with_reducible assumption | omega) | rfl | (simp [*]; done) | (simp [*]; omega))); (conv => arg 5; simp only [Act.put, List.setIfInBounds_toArray, List.set_cons_succ, List.set_cons_zero])))
  go_ret
  exact ⟨rfl, M3.below⟩
end Go.Proofs.Ytcjfpcajjhccaaa
