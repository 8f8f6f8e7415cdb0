/- FoeShows: the walk of the law. -/
import Derived.Test.YtcapfnbmmdbcoaaJ3
set_option linter.unusedVariables false
set_option linter.unusedSimpArgs false
namespace Go.Proofs.Ytcapfnbmmdbcoaa
open Go.RowKit
/-! ### Do all keys of a frame follow? -/
set_option maxRecDepth 100000 in
set_option maxHeartbeats 1000000 in
theorem not64 (pb f g kb c : Nat) (A : Option Addr) (bs : List Bool) (k : List Int) (w : World) (hp : w.cell? ⟨pb, 0, none⟩ = some (.func (.func 42) #[.pointer (some ⟨f, 0, none⟩)] #[])) (h : FP w f g kb A c bs) (hk : KeyOk k) (hn : bs.length ≤ 1000000) :
    Calls Try.prog 64 #[.agg (nums .u8 k).toArray, .pointer (some ⟨pb, 0, none⟩)] w (BoolR (!hasM bs k) w) := by
  have M0 := Mem.start w
  have H := hid h
  have HP := hid hp
  have HK := hid hk
  clear h hp hk
  go_enter Try.func64, Try.ntmps64
  go_wp2_with (first | (refine wpList_bxN 2 rfl rfl rfl rfl M0 (fun b3 w1 M1 => ?_); clear M0; have cp := M1.cell0 HP.out; (conv => arg 5; simp only [Act.put, List.setIfInBounds_toArray, List.set_cons_succ, List.set_cons_zero])) | (refine wpList_ldrowN Try.underlying26 s26 rfl rfl rfl rfl M1 List.mem_cons_self HK.out.1 ?_; (conv => arg 5; simp only [Act.put, List.setIfInBounds_toArray, List.set_cons_succ, List.set_cons_zero])) | (go_at_call 42; refine (has42 f g kb c A bs k _ (H.out.below M1.below) HK.out hn).mono ?_; rintro e w2 ⟨rfl, M2⟩; have M3 := M1.call M2.below; clear M1 M2 cp))
  go_ret
  exact ⟨rfl, M3.sub (List.nil_sublist _)⟩
set_option maxRecDepth 100000 in
set_option maxHeartbeats 1000000 in
theorem Index78F (pb f g kb c d : Nat) (A B : Option Addr) (bs : List Bool) (ks : List (List Int)) (w : World) (hp : w.cell? ⟨pb, 0, none⟩ = some (.func (.func 42) #[.pointer (some ⟨f, 0, none⟩)] #[])) (h : FP w f g kb A c bs) (hk : ∀ k ∈ ks, KeyOk k) (hr : RowT w 26 B (nums .u8 ks.flatten)) (hn : bs.length ≤ 1000000) (hl : ks.length ≤ 1000) :
    Calls Try.prog 78 #[.slice B ks.length d, .func (.func 64) #[] #[.pointer (some ⟨pb, 0, none⟩)]] w (IndexR w (!(ks.all (hasM bs)))) := by
  have M0 := Mem.start w
  have H := hid h
  have HP := hid hp
  have HK := hid hk
  have HR := hid hr
  clear h hp hk hr
  go_enter Try.func78, Try.ntmps78
  go_wp2_with fail
  go_loopw [8] (fun n wr => ∃ i : Nat, i ≤ ks.length ∧ n = .int .i64 i ∧ Mem w [] wr [] ∧ Hid ((ks.take i).all (hasM bs) = true)) (fun n _ => ks.length - (intOf n).toNat)
  case atStart => exact ⟨0, by omega, rfl, M0, hid rfl⟩
  case round =>
    obtain ⟨i, hi, rfl, Mi, HA⟩ := hrel
    clear M0
    by_cases hlt : i < ks.length
    · have hltI : (i : Int) < (ks.length : Int) := by omega
      obtain ⟨k, hke⟩ : ∃ k, ks[i]? = some k := ⟨ks[i], List.getElem?_eq_getElem hlt⟩
      obtain ⟨bk, off, rfl, hcells⟩ := keys_at HK.out (HR.out.mem Mi) hke
      have hkk := HK.out k (List.mem_of_getElem? hke)
      have HKE := hid hke
      have HKK := hid hkk
      have hsz := hid (show (Try.prog.info? 26).map (·.size) = some (nums .u8 k).length from by rw [nums_length, hkk.1]; exact s26)
      clear hke hkk
      cases hb : hasM bs k
      · go_wp2_with (first | (refine wpList_ldagg 15 rfl Try.underlying26 rfl rfl rfl rfl hcells hsz.out ?_; (conv => arg 5; simp only [Act.put, List.setIfInBounds_toArray, List.set_cons_succ, List.set_cons_zero])) | (go_at_call 64; refine (not64 pb f g kb c A bs k _ (Mi.cell0 HP.out) (H.out.below Mi.below) HKK.out hn).mono ?_; rintro e w2 ⟨rfl, M2⟩; have M3 := Mi.call M2.below; rw [hb]; clear M2 hcells))
        go_ret
        exact ⟨(i : Int), rfl, by rw [all_not HKE.out hb, decide_eq_true (by omega)]; rfl, M3⟩
      · go_wp2_with (first | (refine wpList_ldagg 15 rfl Try.underlying26 rfl rfl rfl rfl hcells hsz.out ?_; (conv => arg 5; simp only [Act.put, List.setIfInBounds_toArray, List.set_cons_succ, List.set_cons_zero])) | (go_at_call 64; refine (not64 pb f g kb c A bs k _ (Mi.cell0 HP.out) (H.out.below Mi.below) HKK.out hn).mono ?_; rintro e w2 ⟨rfl, M2⟩; have M3 := Mi.call M2.below; rw [hb]; clear M2 hcells))
        go_round
        case rel => exact ⟨i + 1, by omega, by go_num, M3, hid (all_take HA.out HKE.out hb)⟩
        case measure => simp [intOf]; omega
    · obtain rfl : i = ks.length := by omega
      go_wp2_with fail
      go_ret
      have := HA.out
      rw [List.take_of_length_le (Nat.le_refl _)] at this
      exact ⟨-1, rfl, by rw [this]; rfl, Mi⟩
set_option maxRecDepth 100000 in
set_option maxHeartbeats 1000000 in
theorem Contains63F (pb f g kb c d : Nat) (A B : Option Addr) (bs : List Bool) (ks : List (List Int)) (w : World) (hp : w.cell? ⟨pb, 0, none⟩ = some (.func (.func 42) #[.pointer (some ⟨f, 0, none⟩)] #[])) (h : FP w f g kb A c bs) (hk : ∀ k ∈ ks, KeyOk k) (hr : RowT w 26 B (nums .u8 ks.flatten)) (hn : bs.length ≤ 1000000) (hl : ks.length ≤ 1000) :
    Calls Try.prog 63 #[.slice B ks.length d, .func (.func 64) #[] #[.pointer (some ⟨pb, 0, none⟩)]] w (BoolR (!(ks.all (hasM bs))) w) := by
  have HI := hid (Index78F pb f g kb c d A B bs ks w hp h hk hr hn hl)
  clear h hp hk hr
  go_enter Try.func63, Try.ntmps63
  go_wp2_with (go_at_call 78; refine HI.out.mono ?_; rintro e w2 ⟨i, rfl, hi, M2⟩)
  go_ret
  rw [← hi]
  exact ⟨rfl, M2⟩
theorem FP.tf {K : Nat → Prop} {P : Res} {w w' : World} {L : List Item} {f g kb c : Nat} {A : Option Addr} {bs : List Bool} (h : FP w f g kb A c bs) (H : TF K P w w' L) (h1 : ¬ K f) (h2 : ¬ K g) (h3 : ¬ K kb) : FP w' f g kb A c bs :=
  ⟨H.cellO h.c0 h1, H.cellO h.c1 h1, H.cellO h.ct h2, fun i b hi => H.cellO (h.kn i b hi) h3⟩
def FairR (K : Nat → Prop) (g : Nat) (w : World) (ts : List Tm) (v : Bool) (e : Ending) (w' : World) : Prop := e = .returned (.bool v) ∧ TF K (tabR g ts) w w' []
/-- A frame's rows at a later time. -/
theorem FrR.tfK {K : Nat → Prop} {P : Res} {w w1 : World} {L : List Item} {f : Fr} {a : Fx} (h : FrR w f a) (H : TF K P w w1 L) (ho : FrO K f a) : FrR w1 f a :=
  ⟨H.rowC h.par ho.par, h.pn, fun i b hi => by
    obtain ⟨bb, off, e, hc⟩ := h.box i b hi
    exact ⟨bb, off, e, fun j v hv => H.cellO (hc j v hv) (show ¬ K bb from ho.box (List.ne_nil_of_mem (List.mem_of_getElem? hi)) ⟨bb, off, none⟩ e)⟩, H.rowC h.ids ho.ids⟩
theorem box_lt {w : World} {f : Fr} {a : Fx} (h : FrR w f a) (hne : f.boxes ≠ []) {ad : Addr} (hI : a.ib = some ad) : ad.block < w.heap.size := by
  obtain ⟨b, l, hb⟩ := List.exists_cons_of_ne_nil hne
  obtain ⟨bb, off, e, hc⟩ := h.box 0 b (by rw [hb]; rfl)
  rw [hI] at e
  injection e with e
  subst e
  exact World.block_lt_of_cell? w _ (hc 0 _ rfl)
theorem FrO.tfK {K K' : Nat → Prop} {w : World} {f : Fr} {a : Fx} (ho : FrO K f a) (h : FrR w f a) (hK : ∀ b, K' b → K b ∨ w.heap.size ≤ b) : FrO K' f a :=
  ⟨fun hne ad hI hk => (hK _ hk).elim (ho.par hne ad hI) (fun hb => by have := row_lt h.par hne hI; omega),
   fun hne ad hI hk => (hK _ hk).elim (ho.box hne ad hI) (fun hb => by have := box_lt h hne hI; omega),
   fun hne ad hI hk => (hK _ hk).elim (ho.ids hne ad hI) (fun hb => by have := row_lt h.ids hne hI; omega)⟩
theorem FrO.none (f : Fr) (a : Fx) : FrO (fun _ => False) f a := ⟨fun _ _ _ h => h, fun _ _ _ h => h, fun _ _ _ h => h⟩
set_option maxRecDepth 100000 in
set_option maxHeartbeats 4000000 in
theorem Fair38 {K : Nat → Prop} {w : World} {g cf hf kf n : Nat} {Af : Option Addr} {bs : List Bool} {ts : List Tm} {f : Fr} {a : Fx} (res : tabR g ts K w) (lt : ∀ b, K b → b < w.heap.size) (hok : FrOk f) (hr : FrR w f a) (hout : FrO K f a) (hw : ∀ t ∈ ts, TmW t) (hsz : FrS f) (htl : ts.length ≤ 800000)
    (fp : FP w cf hf kf Af n bs) (n1 : ¬ K cf) (n2 : ¬ K hf) (n3 : ¬ K kf) (hbn : bs.length ≤ 1000000) {v : Bool} (hv : (frK ts f).all (hasM bs) = v) :
    Calls Try.prog 38 #[.agg #[.pointer (some ⟨g, 0, none⟩)], .func (.func 42) #[.pointer (some ⟨cf, 0, none⟩)] #[], .agg (frCells f a).toArray] w (FairR K g w (frT ts f) v) := by
  have H := TF.start res lt
  have HO := hid hok
  have HR := hid hr
  have HU := hid hout
  have HFP := hid fp
  have HN1 := hid n1
  have HN2 := hid n2
  have HN3 := hid n3
  have HV := hid hv
  have HFI := hid (FI.all (ts := ts) hok hw)
  have HK34 := hid (fun (K' : Nat → Prop) (wr : World) (h : tabR g ts K' wr) (hl : ∀ b, K' b → b < wr.heap.size) (hR : FrR wr f a) (hU : FrO K' f a) => Keys34 h hl hok hR hU hw hsz htl)
  have hkl : (frK ts f).length ≤ 1000 := by have := HFI.out.2.2.1; have := hsz.par; have := hsz.box; have := hsz.ids; omega
  clear res lt hok hr hout fp n1 n2 n3 hv hsz hw
  go_enter Try.func38, Try.ntmps38
  go_wp2_with (first | (refine wpF_bxC (cs := [.pointer (some ⟨g, 0, none⟩)]) 3 H (tabR_ok _ _) rfl rfl rfl rfl (fun b3 wn Hn => ?_); clear H; rename TF _ _ _ _ _ => H; (conv => arg 5; simp only [Act.put, List.setIfInBounds_toArray, List.set_cons_succ, List.set_cons_zero])) | (refine wpList_bx (cs := [.func (.func 42) #[.pointer (some ⟨cf, 0, none⟩)] #[]]) rfl rfl H.reb rfl rfl (fun b4 wn Nn => ?_); replace H := H.step (tabR_ok _ _) Nn; clear Nn; (conv => arg 5; simp only [Act.put, List.setIfInBounds_toArray, List.set_cons_succ, List.set_cons_zero])) | (refine wpF_bxC (cs := frCells f a) 5 H (tabR_ok _ _) rfl rfl rfl rfl (fun b5 wn Hn => ?_); clear H; rename TF _ _ _ _ _ => H; (conv => arg 5; simp only [Act.put, List.setIfInBounds_toArray, List.set_cons_succ, List.set_cons_zero])) | (refine wpList_ldagg 7 rfl Try.underlying42 rfl rfl rfl rfl (cs := [.pointer (some ⟨g, 0, none⟩)]) (H.cellC (by (repeat (first | exact List.mem_cons_self | refine List.mem_cons_of_mem _ ?_)))) sz42 ?_; (conv => arg 5; simp only [Act.put, List.setIfInBounds_toArray, List.set_cons_succ, List.set_cons_zero])) | (refine wpList_ldagg 8 rfl Try.underlying77 rfl rfl rfl rfl (cs := frCells f a) (H.cellC (by (repeat (first | exact List.mem_cons_self | refine List.mem_cons_of_mem _ ?_)))) (sz77 HO.out) ?_; (conv => arg 5; simp only [Act.put, List.setIfInBounds_toArray, List.set_cons_succ, List.set_cons_zero])) | (go_at_call 34; refine (H.go (Post := fun K' => KysR K' (tabR g (frT ts f)) _ (frK ts f)) fun K' hK hlt hnew _ => HK34.out K' _ hK hlt (HR.out.tfK H HU.out) (HU.out.tfK HR.out hnew)).mono ?_; rintro e wn ⟨K', ⟨B, d, rfl, F⟩, hf'⟩; replace H := hf' _ _ F; clear hf' F) | (go_at_call 63; refine (Contains63F b4 cf hf kf n d Af B bs (frK ts f) _ (H.reb.cell (i := 0) (by (repeat (first | exact List.mem_cons_self | refine List.mem_cons_of_mem _ ?_))) rfl) (HFP.out.tf H HN1.out HN2.out HN3.out) HFI.out.2.2.2.1 (H.reb.vecT (by (repeat (first | exact List.mem_cons_self | refine List.mem_cons_of_mem _ ?_)))) hbn hkl).mono ?_; rw [HV.out]; rintro e wn ⟨rfl, M⟩; replace H := H.call0 (tabR_ok _ _) M; clear M))
  go_ret
  exact ⟨by simp, H.sub (List.nil_sublist _)⟩
theorem great_S {f : Fr} (h : greatO f = false) (hi : f.ids.length ≤ 40) : FrS f := by
  unfold greatO at h
  simp only [Bool.or_eq_false_iff, decide_eq_false_iff_not, List.any_eq_false] at h
  obtain ⟨⟨⟨⟨h1, h2⟩, h3⟩, h4⟩, h5⟩ := h
  exact ⟨by omega, by omega, hi, by omega, fun b hb => by have := h5 b hb; simp at this; omega⟩
section
variable {w w1 : World} {P Q X : Res} {L : List Item} {g m : Nat} {ts : List Tm} {f : Fr} {a : Fx}
theorem Keys34T (H : TF (fun _ => False) (starR (tabR g ts) Q) w w1 L) (hQ : Ok Q) (hok : FrOk f) (hr : FrR w f a) (hw : ∀ t ∈ ts, TmW t) (hsz : FrS f) (htl : ts.length ≤ 800000) :
    Calls Try.prog 34 #[.agg #[.pointer (some ⟨g, 0, none⟩)], .agg (frCells f a).toArray] w1 fun e w' => ∃ B d, e = .returned (.slice B (frK ts f).length d) ∧ TF (fun _ => False) (starR (tabR g (frT ts f)) Q) w w' (.vec B (frK ts f).length d 26 32 (nums .u8 (frK ts f).flatten) :: L) :=
  (H.goL hQ (Post := fun K => KysR K (tabR g (frT ts f)) w1 (frK ts f)) fun K h hlt hK hL _ => Keys34 h hlt hok (hr.tfK H (FrO.none f a)) ((FrO.none f a).tfK hr hK) hw hsz htl).mono fun e w' ⟨K, ⟨B, d, he, F⟩, hf⟩ => ⟨B, d, he, hf _ _ F⟩
theorem Keys35T (H : TF (fun _ => False) (starR P (starR (refR m ts) X)) w w1 L) (hP : Ok P) (hX : Ok X) (hok : FrOk f) (hr : FrR w f a) (hw : ∀ t ∈ ts, TmW t) (hsz : FrS f) (htl : ts.length ≤ 800000) :
    Calls Try.prog 35 #[.pointer (some ⟨m, 0, none⟩), .agg (frCells f a).toArray] w1 fun e w' => ∃ B d, e = .returned (.slice B (frK ts f).length d) ∧ TF (fun _ => False) (starR P (starR (refR m (frT ts f)) X)) w w' (.vec B (frK ts f).length d 26 32 (nums .u8 (frK ts f).flatten) :: L) :=
  (H.swap.goL (hP.star hX) (Post := fun K => KysR K (refR m (frT ts f)) w1 (frK ts f)) fun K h hlt hK hL _ => Keys35 h hlt hok (hr.tfK H (FrO.none f a)) ((FrO.none f a).tfK hr hK) hw hsz htl).mono fun e w' ⟨K, ⟨B, d, he, F⟩, hf⟩ => ⟨B, d, he, (hf _ _ F).swap⟩
theorem Follow36T (H : TF (fun _ => False) (starR P (starR (refR m ts) X)) w w1 L) (hw : ∀ t ∈ ts, TmW t) {B : Option Addr} {n d : Nat} {seen : List (List Int)} (hn : n = seen.length) (hk : ∀ k ∈ seen, KeyOk k) (hl : seen.length ≤ 100000) (hr : RowT w1 26 B (nums .u8 seen.flatten)) :
    Calls Try.prog 36 #[.pointer (some ⟨m, 0, none⟩), .slice B n d] w1 (RFolR ts seen w1) := by
  subst hn
  obtain ⟨K, ⟨_, K2, _, ⟨K3, K4, ⟨A, c, S, e, T⟩, _⟩, _⟩, _⟩ := H.ex
  exact Follow36 K3 m c e d A S B ts seen w1 T hw hk hl hr
theorem Has37T (H : TF (fun _ => False) (starR P (starR (refR m ts) X)) w w1 L) {kb : Nat} {bs : List Bool} (hb : .blk kb (cellsO 4 (bools bs)) ∈ L) (hl : bs.length = ts.length) {k : List Int} (hk : KeyOk k) (hn : ts.length ≤ 1000000) {v : Bool} (hv : hasM bs k = v) :
    Calls Try.prog 37 #[.pointer (some ⟨m, 0, none⟩), .slice (some ⟨kb, 0, none⟩) bs.length bs.length, .agg (nums .u8 k).toArray] w1 (BoolR v w1) := by
  subst hv
  obtain ⟨K, ⟨_, K2, _, ⟨K3, K4, ⟨A, c, S, e, T⟩, _⟩, _⟩, _⟩ := H.ex
  exact Has37 m c kb A ts bs k w1 T.cap.1 (H.reb.bs hb) hl hk hn
theorem Follow16S (H : TF (fun _ => False) (starR (tabR g ts) Q) w w1 L) (hw : ∀ t ∈ ts, TmW t) {B : Option Addr} {n d : Nat} {seen : List (List Int)} (hn : n = seen.length) (hk : ∀ k ∈ seen, KeyOk k) (hl : seen.length ≤ 1000) (hr : RowT w1 26 B (nums .u8 seen.flatten)) :
    Calls Try.prog 16 #[.pointer (some ⟨g, 0, none⟩), .slice B n d] w1 (FollowR ts seen w1) := by
  subst hn
  obtain ⟨K, ⟨K1, K2, ⟨mb, A, c, T⟩, _⟩, _⟩ := H.ex
  exact Follow16 K1 g mb c d A B ts seen w1 T (fun t ht => (hw t ht).k46) hk hl hr
theorem Fair38T (H : TF (fun _ => False) (starR (tabR g ts) Q) w w1 L) (hQ : Ok Q) (hok : FrOk f) (hr : FrR w f a) (hw : ∀ t ∈ ts, TmW t) (hsz : FrS f) (htl : ts.length ≤ 800000) {cf hf kf mf : Nat} {Af : Option Addr} {bs : List Bool} (hin : ∀ x ∈ folL cf hf kf Af mf bs, x ∈ L) (hbn : bs.length ≤ 1000000) {v : Bool} (hv : (frK ts f).all (hasM bs) = v) :
    Calls Try.prog 38 #[.agg #[.pointer (some ⟨g, 0, none⟩)], .func (.func 42) #[.pointer (some ⟨cf, 0, none⟩)] #[], .agg (frCells f a).toArray] w1 fun e w' => e = .returned (.bool v) ∧ TF (fun _ => False) (starR (tabR g (frT ts f)) Q) w w' L := by
  refine (H.goL hQ (Post := fun K => FairR K g w1 (frT ts f) v) fun K h hlt hK hL _ => Fair38 h hlt hok (hr.tfK H (FrO.none f a)) ((FrO.none f a).tfK hr hK) hw hsz htl (H.reb.fp hin) ?_ ?_ ?_ hbn hv).mono fun e w' ⟨K, ⟨he, F⟩, hf⟩ => ⟨he, hf _ _ F⟩
  · exact hL (.blk cf (cellsO 92 [.pointer (some ⟨hf, 0, none⟩), .slice (some ⟨kf, 0, none⟩) bs.length bs.length])) (hin _ (by simp [folL])) _ rfl
  · exact hL (.blk hf (cellsO 88 [.slice Af bs.length bs.length, .map (some mf)])) (hin _ (by simp [folL])) _ rfl
  · exact hL (.blk kf (cellsO 4 (bools bs))) (hin _ (by simp [folL])) _ rfl
end
set_option maxRecDepth 100000 in
set_option maxHeartbeats 4000000 in
theorem shows_g1 (A : Option Addr) (d : Nat) (cs : List Ck) (f : Fr) (a : Fx) (w : World) (h : CksR w A cs) (hok : FrOk f) (hr : FrR w f a) (hg : greatL cs = true) : Calls Try.prog 9 #[.agg (frCells f a).toArray, .slice A cs.length d] w (BoolR true w) := by
  have M0 := Mem.start w
  have HCS := hid h
  have HO := hid hok
  have HR := hid hr
  have HG := hid hg
  clear h hok hr hg
  go_enter Try.func9, Try.ntmps9
  go_wp2_with (first | (apply wpList_want; (· rfl)) | (apply wpList_wantLd; (· rfl)) | (refine wpList_bx (cs := frCells f a) rfl rfl M0 rfl rfl (fun b2 wn Mn => ?_); clear M0; have M := Mn; clear Mn; have c73 := M.cell (i := 73) (g := b2) (v := .slice a.ii f.ids.length a.ci) (by (repeat (first | exact List.mem_cons_self | refine List.mem_cons_of_mem _ ?_))) (fr_ids HO.out); (conv => arg 5; simp only [Act.put, List.setIfInBounds_toArray, List.set_cons_succ, List.set_cons_zero])) | (go_at_call 18; refine (alive18 _).mono ?_; rintro e1 w1 ⟨rfl, M1⟩; replace M := M.call M1.below; clear M1 c73; have c73 := M.cell (i := 73) (g := b2) (v := .slice a.ii f.ids.length a.ci) (by (repeat (first | exact List.mem_cons_self | refine List.mem_cons_of_mem _ ?_))) (fr_ids HO.out)) | (go_at_call 19; refine (great19 A d cs _ (HCS.out.mem' (M.sub (List.nil_sublist _)))).mono ?_; rw [HG.out]; rintro e2 w2 ⟨rfl, M2⟩; replace M := M.call M2.below; clear M2 c73; have c73 := M.cell (i := 73) (g := b2) (v := .slice a.ii f.ids.length a.ci) (by (repeat (first | exact List.mem_cons_self | refine List.mem_cons_of_mem _ ?_))) (fr_ids HO.out)))
  go_ret
  exact ⟨rfl, M.sub (List.nil_sublist _)⟩
set_option maxRecDepth 100000 in
set_option maxHeartbeats 4000000 in
theorem shows_g2 (A : Option Addr) (d : Nat) (cs : List Ck) (f : Fr) (a : Fx) (w : World) (h : CksR w A cs) (hok : FrOk f) (hr : FrR w f a) (hg : greatL cs = false) (hg2 : greatO f = true) : Calls Try.prog 9 #[.agg (frCells f a).toArray, .slice A cs.length d] w (BoolR true w) := by
  have M0 := Mem.start w
  have HCS := hid h
  have HO := hid hok
  have HR := hid hr
  have HG := hid hg
  have HG2 := hid hg2
  clear h hok hr hg hg2
  go_enter Try.func9, Try.ntmps9
  go_wp2_with (first | (apply wpList_want; (· rfl)) | (apply wpList_wantLd; (· rfl)) | (refine wpList_bx (cs := frCells f a) rfl rfl M0 rfl rfl (fun b2 wn Mn => ?_); clear M0; have M := Mn; clear Mn; have c73 := M.cell (i := 73) (g := b2) (v := .slice a.ii f.ids.length a.ci) (by (repeat (first | exact List.mem_cons_self | refine List.mem_cons_of_mem _ ?_))) (fr_ids HO.out); (conv => arg 5; simp only [Act.put, List.setIfInBounds_toArray, List.set_cons_succ, List.set_cons_zero])) | (go_at_call 18; refine (alive18 _).mono ?_; rintro e1 w1 ⟨rfl, M1⟩; replace M := M.call M1.below; clear M1 c73; have c73 := M.cell (i := 73) (g := b2) (v := .slice a.ii f.ids.length a.ci) (by (repeat (first | exact List.mem_cons_self | refine List.mem_cons_of_mem _ ?_))) (fr_ids HO.out)) | (go_at_call 19; refine (great19 A d cs _ (HCS.out.mem' (M.sub (List.nil_sublist _)))).mono ?_; rw [HG.out]; rintro e2 w2 ⟨rfl, M2⟩; replace M := M.call M2.below; clear M2 c73; have c73 := M.cell (i := 73) (g := b2) (v := .slice a.ii f.ids.length a.ci) (by (repeat (first | exact List.mem_cons_self | refine List.mem_cons_of_mem _ ?_))) (fr_ids HO.out)) | (refine wpList_ldagg (off := 2) 20 rfl Try.underlying75 rfl rfl rfl rfl (cs := opCells f a) (fun j v hv => M.cell (by (repeat (first | exact List.mem_cons_self | refine List.mem_cons_of_mem _ ?_))) (fr_op HO.out hv)) (sz75 HO.out) ?_; (conv => arg 5; simp only [Act.put, List.setIfInBounds_toArray, List.set_cons_succ, List.set_cons_zero])) | (go_at_call 33; refine (Great33 f a _ HO.out (HR.out.mem M)).mono ?_; rw [HG2.out]; rintro e3 w3 ⟨rfl, M3⟩; replace M := M.call M3.below; clear M3 c73; have c73 := M.cell (i := 73) (g := b2) (v := .slice a.ii f.ids.length a.ci) (by (repeat (first | exact List.mem_cons_self | refine List.mem_cons_of_mem _ ?_))) (fr_ids HO.out)))
  go_ret
  exact ⟨rfl, M.sub (List.nil_sublist _)⟩
set_option maxRecDepth 100000 in
set_option maxHeartbeats 4000000 in
theorem shows_g3 (A : Option Addr) (d : Nat) (cs : List Ck) (f : Fr) (a : Fx) (w : World) (h : CksR w A cs) (hok : FrOk f) (hr : FrR w f a) (hg : greatL cs = false) (hg2 : greatO f = false) (hi : 40 < f.ids.length) : Calls Try.prog 9 #[.agg (frCells f a).toArray, .slice A cs.length d] w (BoolR true w) := by
  have M0 := Mem.start w
  have HCS := hid h
  have HO := hid hok
  have HR := hid hr
  have HG := hid hg
  have HG2 := hid hg2
  have hiI : (40 : Int) < (f.ids.length : Int) := by omega
  clear h hok hr hg hg2
  go_enter Try.func9, Try.ntmps9
  go_wp2_with (first | (apply wpList_want; (· rfl)) | (apply wpList_wantLd; (· rfl)) | (refine wpList_bx (cs := frCells f a) rfl rfl M0 rfl rfl (fun b2 wn Mn => ?_); clear M0; have M := Mn; clear Mn; have c73 := M.cell (i := 73) (g := b2) (v := .slice a.ii f.ids.length a.ci) (by (repeat (first | exact List.mem_cons_self | refine List.mem_cons_of_mem _ ?_))) (fr_ids HO.out); (conv => arg 5; simp only [Act.put, List.setIfInBounds_toArray, List.set_cons_succ, List.set_cons_zero])) | (go_at_call 18; refine (alive18 _).mono ?_; rintro e1 w1 ⟨rfl, M1⟩; replace M := M.call M1.below; clear M1 c73; have c73 := M.cell (i := 73) (g := b2) (v := .slice a.ii f.ids.length a.ci) (by (repeat (first | exact List.mem_cons_self | refine List.mem_cons_of_mem _ ?_))) (fr_ids HO.out)) | (go_at_call 19; refine (great19 A d cs _ (HCS.out.mem' (M.sub (List.nil_sublist _)))).mono ?_; rw [HG.out]; rintro e2 w2 ⟨rfl, M2⟩; replace M := M.call M2.below; clear M2 c73; have c73 := M.cell (i := 73) (g := b2) (v := .slice a.ii f.ids.length a.ci) (by (repeat (first | exact List.mem_cons_self | refine List.mem_cons_of_mem _ ?_))) (fr_ids HO.out)) | (refine wpList_ldagg (off := 2) 20 rfl Try.underlying75 rfl rfl rfl rfl (cs := opCells f a) (fun j v hv => M.cell (by (repeat (first | exact List.mem_cons_self | refine List.mem_cons_of_mem _ ?_))) (fr_op HO.out hv)) (sz75 HO.out) ?_; (conv => arg 5; simp only [Act.put, List.setIfInBounds_toArray, List.set_cons_succ, List.set_cons_zero])) | (go_at_call 33; refine (Great33 f a _ HO.out (HR.out.mem M)).mono ?_; rw [HG2.out]; rintro e3 w3 ⟨rfl, M3⟩; replace M := M.call M3.below; clear M3 c73; have c73 := M.cell (i := 73) (g := b2) (v := .slice a.ii f.ids.length a.ci) (by (repeat (first | exact List.mem_cons_self | refine List.mem_cons_of_mem _ ?_))) (fr_ids HO.out)))
  go_ret
  exact ⟨rfl, M.sub (List.nil_sublist _)⟩
set_option maxRecDepth 100000 in
set_option maxHeartbeats 4000000 in
theorem shows_small (A : Option Addr) (d : Nat) (cs : List Ck) (f : Fr) (a : Fx) (w : World) (h : CksR w A cs) (hok : FrOk f) (hr : FrR w f a) (hg : greatL cs = false) (hg2 : greatO f = false) (hi : f.ids.length ≤ 40) : Calls Try.prog 9 #[.agg (frCells f a).toArray, .slice A cs.length d] w (BoolR true w) := by
  have M0 := Mem.start w
  have HCS := hid h
  have HO := hid hok
  have HR := hid hr
  obtain ⟨hcl, hck⟩ := great_no hg (fun c hc => by obtain ⟨i, hi⟩ := List.getElem?_of_mem hc; obtain ⟨_, _, _, _, _, _, _, hk⟩ := h i c hi; exact hk)
  have I2 := sec_CI.cooks secK_ok hck (by omega) cs.length (Nat.le_refl _)
  rw [List.take_of_length_le (Nat.le_refl _)] at I2
  have hml : (foeM cs).2.length ≤ 1000 := by have := I2.ml; unfold foeM; omega
  have htl : (foeM cs).1.length ≤ 1000 := by have := I2.tl; unfold foeM; omega
  have HMO := hid (show ∀ k ∈ (foeM cs).2, KeyOk k from I2.mo)
  have htw : ∀ t ∈ (foeM cs).1, TmW t := I2.tw
  have HTW := hid htw
  have hfs : FrS f := great_S hg2 hi
  have HFS := hid hfs
  have HFI := hid (FI.all (ts := (foeM cs).1) hok htw)
  have HAG := hid (fr_again (foeM cs).1 f)
  have HG := hid hg
  have HG2 := hid hg2
  have HCK := hid hck
  have hkl : (frK (foeM cs).1 f).length ≤ 1000 := by have := HFI.out.2.2.1; have := hfs.par; have := hfs.box; have := hfs.ids; omega
  have htl3 : (frT (foeM cs).1 f).length ≤ 2000 := by have := HFI.out.2.1; have := hfs.box; omega
  have hiI : ¬ (40 : Int) < (f.ids.length : Int) := by omega
  clear h hok hr hg hg2 hck I2 htw hfs
  go_enter Try.func9, Try.ntmps9
  go_wp2_with (first | (apply wpList_want; (· rfl)) | (apply wpList_wantLd; (· rfl)) | (refine wpList_bx (cs := frCells f a) rfl rfl M0 rfl rfl (fun b2 wn Mn => ?_); clear M0; have M := Mn; clear Mn; have c73 := M.cell (i := 73) (g := b2) (v := .slice a.ii f.ids.length a.ci) (by (repeat (first | exact List.mem_cons_self | refine List.mem_cons_of_mem _ ?_))) (fr_ids HO.out); (conv => arg 5; simp only [Act.put, List.setIfInBounds_toArray, List.set_cons_succ, List.set_cons_zero])) | (go_at_call 18; refine (alive18 _).mono ?_; rintro e1 w1 ⟨rfl, M1⟩; replace M := M.call M1.below; clear M1 c73; have c73 := M.cell (i := 73) (g := b2) (v := .slice a.ii f.ids.length a.ci) (by (repeat (first | exact List.mem_cons_self | refine List.mem_cons_of_mem _ ?_))) (fr_ids HO.out)) | (go_at_call 19; refine (great19 A d cs _ (HCS.out.mem' (M.sub (List.nil_sublist _)))).mono ?_; rw [HG.out]; rintro e2 w2 ⟨rfl, M2⟩; replace M := M.call M2.below; clear M2 c73; have c73 := M.cell (i := 73) (g := b2) (v := .slice a.ii f.ids.length a.ci) (by (repeat (first | exact List.mem_cons_self | refine List.mem_cons_of_mem _ ?_))) (fr_ids HO.out)) | (refine wpList_ldagg (off := 2) 20 rfl Try.underlying75 rfl rfl rfl rfl (cs := opCells f a) (fun j v hv => M.cell (by (repeat (first | exact List.mem_cons_self | refine List.mem_cons_of_mem _ ?_))) (fr_op HO.out hv)) (sz75 HO.out) ?_; (conv => arg 5; simp only [Act.put, List.setIfInBounds_toArray, List.set_cons_succ, List.set_cons_zero])) | (go_at_call 33; refine (Great33 f a _ HO.out (HR.out.mem M)).mono ?_; rw [HG2.out]; rintro e3 w3 ⟨rfl, M3⟩; replace M := M.call M3.below; clear M3 c73; have c73 := M.cell (i := 73) (g := b2) (v := .slice a.ii f.ids.length a.ci) (by (repeat (first | exact List.mem_cons_self | refine List.mem_cons_of_mem _ ?_))) (fr_ids HO.out)) | (go_at_call 20; refine (NewFree20 _).mono ?_; rintro e w3 ⟨g, rfl, F⟩; have H := TF.pre M F; clear M F c73) | (refine wpF_alC 5 H (tabR_ok _ _) z42 rfl rfl rfl rfl (fun b5 wn Hn => ?_); clear H; rename TF _ _ _ _ _ => H; (conv => arg 5; simp only [Act.put, List.setIfInBounds_toArray, List.set_cons_succ, List.set_cons_zero])) | (refine wpF_stC0 (vs := [.pointer (some ⟨g, 0, none⟩)]) rfl H (tabR_ok _ _) sz42 rfl rfl rfl rfl Swap.head rfl (by simp [Value.oneCell']) (fun wn Hn => ?_); clear H; rename TF _ _ _ _ _ => H; (try (conv => arg 5; simp only [Act.put, List.setIfInBounds_toArray, List.set_cons_succ, List.set_cons_zero]))) | (refine wpList_bld (vs := #[]) b48 rfl rfl rfl ?_; (conv => arg 5; simp only [Act.put, List.setIfInBounds_toArray, List.set_cons_succ, List.set_cons_zero])) | (refine wpF_bxC (cs := [.slice none 0 0, .slice none 0 0]) 32 H (tabR_ok _ _) rfl rfl rfl rfl (fun m wn Hn => ?_); clear H; have H := TF.refNew (tabR_ok _ _) Hn; clear Hn; (conv => arg 5; simp only [Act.put, List.setIfInBounds_toArray, List.set_cons_succ, List.set_cons_zero])) | (refine wpList_ldagg 33 rfl Try.underlying42 rfl rfl rfl rfl (cs := [.pointer (some ⟨g, 0, none⟩)]) (H.cellC (by (repeat (first | exact List.mem_cons_self | refine List.mem_cons_of_mem _ ?_)))) sz42 ?_; (conv => arg 5; simp only [Act.put, List.setIfInBounds_toArray, List.set_cons_succ, List.set_cons_zero])) | (go_at_call 21; refine (H.go (Post := fun K => SecR K g m _) fun K hK hlt _ _ => secret21 hK hlt).mono ?_; rintro e wn ⟨K, ⟨bS, rfl, F⟩, hf⟩; replace H := hf _ _ F; clear hf F) | (refine wpList_ldagg 36 rfl Try.underlying42 rfl rfl rfl rfl (cs := [.pointer (some ⟨g, 0, none⟩)]) (H.cellC (by (repeat (first | exact List.mem_cons_self | refine List.mem_cons_of_mem _ ?_)))) sz42 ?_; (conv => arg 5; simp only [Act.put, List.setIfInBounds_toArray, List.set_cons_succ, List.set_cons_zero])) | (go_at_call 22; refine (foe22 H List.mem_cons_self HCS.out hcl HCK.out).mono ?_; clear H; rintro e wn ⟨BA, dA, rfl, H⟩) | (go_at_call 23; refine (foe23 ((rowR_ok _ _).star (tabR_ok _ _)) H List.mem_cons_self HCS.out hcl HCK.out).mono ?_; rintro e wn ⟨BB, dB, rfl, H9⟩; clear H; have H := H9.assoc'.comm; clear H9) | (refine wpList_ldagg 44 rfl Try.underlying42 rfl rfl rfl rfl (cs := [.pointer (some ⟨g, 0, none⟩)]) (H.cellC (by (repeat (first | exact List.mem_cons_self | refine List.mem_cons_of_mem _ ?_)))) sz42 ?_; (conv => arg 5; simp only [Act.put, List.setIfInBounds_toArray, List.set_cons_succ, List.set_cons_zero])) | (refine wpList_ldagg 45 rfl Try.underlying77 rfl rfl rfl rfl (cs := frCells f a) (H.cellC (by (repeat (first | exact List.mem_cons_self | refine List.mem_cons_of_mem _ ?_)))) (sz77 HO.out) ?_; (conv => arg 5; simp only [Act.put, List.setIfInBounds_toArray, List.set_cons_succ, List.set_cons_zero])) | (go_at_call 34; refine (Keys34T H ((refR_ok _ _).star (rowR_ok _ _)) HO.out HR.out HTW.out HFS.out (by omega)).mono ?_; clear H; rintro e wn ⟨B1, d1, rfl, H⟩) | (refine wpList_ldagg 48 rfl Try.underlying77 rfl rfl rfl rfl (cs := frCells f a) (H.cellC (by (repeat (first | exact List.mem_cons_self | refine List.mem_cons_of_mem _ ?_)))) (sz77 HO.out) ?_; (conv => arg 5; simp only [Act.put, List.setIfInBounds_toArray, List.set_cons_succ, List.set_cons_zero])) | (go_at_call 35; refine (Keys35T H (tabR_ok _ _) (rowR_ok _ _) HO.out HR.out HTW.out HFS.out (by omega)).mono ?_; clear H; rintro e wn ⟨B2, d2, rfl, H⟩) | (go_at_call 25; refine (same25 (ks := frK (foeM cs).1 f) rfl rfl HFI.out.2.2.2.1 (H.reb.vecT (by (repeat (first | exact List.mem_cons_self | refine List.mem_cons_of_mem _ ?_)))) (H.reb.vecT List.mem_cons_self) (by omega)).mono ?_; rintro e wn ⟨rfl, M⟩; replace H := H.call0 ((tabR_ok _ _).star ((refR_ok _ _).star (rowR_ok _ _))) M; clear M) | (go_at_call 36; refine (Follow36T H HFI.out.2.2.2.2 rfl HMO.out (by omega) (TF.rowT H.assoc')).mono ?_; rintro e wn ⟨kb, bs, rfl, FF, M⟩; replace H := H.call ((tabR_ok _ _).star ((refR_ok _ _).star (rowR_ok _ _))) M; have HFF := hid FF; clear M FF))
  have HL := hid (show bs.length = (frT (foeM cs).1 f).length from HFF.out.len)
  obtain ⟨T3, hT3⟩ : ∃ t, t = frT (foeM cs).1 f := ⟨_, rfl⟩
  obtain ⟨ks, hks⟩ : ∃ k, k = frK (foeM cs).1 f := ⟨_, rfl⟩
  obtain ⟨md, hmd⟩ : ∃ k, k = (foeM cs).2 := ⟨_, rfl⟩
  rw [← hT3, ← hks, ← hmd] at H
  rw [← hT3, ← hmd] at HFF
  rw [← hT3] at HL
  rw [← hT3, ← hks] at HFI HAG
  rw [← hmd] at HMO hml
  rw [← hks] at hkl
  rw [← hT3] at htl3
  have HKS := hid HFI.out.2.2.2.1
  have HTW3 := hid HFI.out.2.2.2.2
  rw [← hks, ← hmd]
  clear hT3 hks hmd HFI HTW
  go_loopw [12, 13] (fun o x wr => ∃ j : Nat, j ≤ ks.length ∧ x = .int .i64 j ∧ o = .bool ((ks.take j).all (hasM bs)) ∧ TF (fun _ => False) (starR (tabR g T3) (starR (refR m T3) (rowR BA md))) w wr (.blk kb (cellsO 4 (bools bs)) :: .vec B2 ks.length d2 26 32 (nums .u8 ks.flatten) :: [.blk b5 (cellsO 42 [.pointer (some ⟨g, 0, none⟩)]), .blk b2 (cellsO 77 (frCells f a))])) (fun _ x _ => ks.length - (intOf x).toNat)
  case atStart => exact ⟨0, by omega, rfl, rfl, H.sub (by (repeat (first | exact List.Sublist.refl _ | apply List.Sublist.cons_cons | apply List.Sublist.cons)))⟩
  case round =>
    clear H
    obtain ⟨j, hj, rfl, rfl, H⟩ := hrel
    by_cases hlt : j < ks.length
    · have hltI : (j : Int) < (ks.length : Int) := by omega
      obtain ⟨k, hke⟩ : ∃ k, ks[j]? = some k := ⟨_, List.getElem?_eq_getElem hlt⟩
      have HKK := hid (HKS.out k (List.mem_of_getElem? hke))
      obtain ⟨bk, off, hB, hck⟩ := keys_at HKS.out (H.reb.vecT (List.mem_cons_of_mem _ List.mem_cons_self)) hke
      subst hB
      have HCK2 := hid hck
      have HT := hid (show (ks.take (j + 1)).all (hasM bs) = ((ks.take j).all (hasM bs) && hasM bs k) from by
        obtain ⟨hl, rfl⟩ := List.getElem?_eq_some_iff.1 hke
        rw [List.take_succ_eq_append_getElem hl, List.all_append]
        simp)
      clear hke hck
      obtain ⟨v, hv⟩ : ∃ v, v = (ks.take j).all (hasM bs) := ⟨_, rfl⟩
      rw [← hv] at HT ⊢
      clear hv
      cases v
      · go_wp2_with (first | (apply wpList_want; (· rfl)) | (apply wpList_wantLd; (· rfl)))
        go_round
        case rel => exact ⟨j + 1, by omega, by go_num, by rw [HT.out]; rfl, H⟩
        case measure => simp [intOf]; omega
      · obtain ⟨u, hu⟩ : ∃ u, hasM bs k = u := ⟨_, rfl⟩
        have HU := hid hu
        rw [hu] at HT
        clear hu
        go_wp2_with (first | (apply wpList_want; (· rfl)) | (apply wpList_wantLd; (· rfl)) | (refine wpList_ldagg 70 rfl Try.underlying26 rfl rfl rfl rfl HCK2.out (s26k HKK.out) ?_; (conv => arg 5; simp only [Act.put, List.setIfInBounds_toArray, List.set_cons_succ, List.set_cons_zero])) | (go_at_call 37; refine (Has37T H List.mem_cons_self HL.out HKK.out (by omega) HU.out).mono ?_; rintro e wn ⟨rfl, M⟩; replace H := H.call0 ((tabR_ok _ _).star ((refR_ok _ _).star (rowR_ok _ _))) M; clear M HCK2))
        go_round
        case rel => exact ⟨j + 1, by omega, by go_num, by rw [HT.out]; rfl, H⟩
        case measure => simp [intOf]; omega
    · obtain rfl : j = ks.length := by omega
      rw [List.take_length]
      obtain ⟨v, hv⟩ : ∃ v, v = ks.all (hasM bs) := ⟨_, rfl⟩
      rw [← hv]
      have HV := hid hv.symm
      clear hv
      go_wp2_with fail
      refine wp_region_planTP [.blk b5 (cellsO 42 [.pointer (some ⟨g, 0, none⟩)]), .blk b2 (cellsO 77 (frCells f a))] TrueP (.one 0 (.free 1 (.free 2 (.free 3 (.free 4 (.free 5 (.free 7 (.free 9 (.one 6 (.one 8 (.free 10 (.free 11 (.free 12 (.done)))))))))))))) (by kernel_rfl) (by kernel_rfl) (fun _ _ _ _ _ h => h) H ((tabR_ok _ _).star ((refR_ok _ _).star (rowR_ok _ _))) ?_
      clear H
      intro ops Q HO2 HQ wr H _
      have hops := HO2.out
      subst hops
      refine wpT_op rfl ?_
      go_wp2_with (go_at_call 18; refine (alive18 _).mono ?_; rintro e1 wn ⟨rfl, M⟩; replace H := H.call0 ((tabR_ok _ _).star ((refR_ok _ _).star (rowR_ok _ _))) M; clear M)
      refine PlanTQ.mk (by exact ⟨⟨_, _, H.reb.sub (by (repeat (first | exact List.Sublist.refl _ | apply List.Sublist.cons_cons | apply List.Sublist.cons)))⟩, tp _⟩) ?_
      (refine wpT_free rfl rfl (.inl ⟨rfl, fun w _ => by go_simp; rfl⟩) (by exact ⟨⟨_, _, H.reb.sub (by (repeat (first | exact List.Sublist.refl _ | apply List.Sublist.cons_cons | apply List.Sublist.cons)))⟩, tp _⟩) ?_; (conv => arg 6; simp only [Act.put, List.setIfInBounds_toArray, List.set_cons_succ, List.set_cons_zero]))
      (refine wpT_free rfl rfl (.inl ⟨rfl, fun w hw => run_ldK Try.underlying42 rfl rfl rfl (cs := [.pointer (some ⟨g, 0, none⟩)]) (st_off (o := 0) (T := TrueP) hw (by (repeat (first | exact List.mem_cons_self | refine List.mem_cons_of_mem _ ?_))) (fun j v hv => by rw [Nat.zero_add]; exact hv)) sz42⟩) (by exact ⟨⟨_, _, H.reb.sub (by (repeat (first | exact List.Sublist.refl _ | apply List.Sublist.cons_cons | apply List.Sublist.cons)))⟩, tp _⟩) ?_; (conv => arg 6; simp only [Act.put, List.setIfInBounds_toArray, List.set_cons_succ, List.set_cons_zero]))
      (refine wpT_free rfl rfl (.inl ⟨rfl, fun w _ => by go_simp; rfl⟩) (by exact ⟨⟨_, _, H.reb.sub (by (repeat (first | exact List.Sublist.refl _ | apply List.Sublist.cons_cons | apply List.Sublist.cons)))⟩, tp _⟩) ?_; (conv => arg 6; simp only [Act.put, List.setIfInBounds_toArray, List.set_cons_succ, List.set_cons_zero]))
      (refine wpT_free rfl rfl (.inl ⟨rfl, fun w hw => run_ld1 Try.underlying23 rfl rfl rfl (st_cell (i := 0) (T := TrueP) hw (by (repeat (first | exact List.mem_cons_self | refine List.mem_cons_of_mem _ ?_))) rfl)⟩) (by exact ⟨⟨_, _, H.reb.sub (by (repeat (first | exact List.Sublist.refl _ | apply List.Sublist.cons_cons | apply List.Sublist.cons)))⟩, tp _⟩) ?_; (conv => arg 6; simp only [Act.put, List.setIfInBounds_toArray, List.set_cons_succ, List.set_cons_zero]))
      (refine wpT_free rfl rfl (.inl ⟨rfl, fun w _ => by go_simp; rfl⟩) (by exact ⟨⟨_, _, H.reb.sub (by (repeat (first | exact List.Sublist.refl _ | apply List.Sublist.cons_cons | apply List.Sublist.cons)))⟩, tp _⟩) ?_; (conv => arg 6; simp only [Act.put, List.setIfInBounds_toArray, List.set_cons_succ, List.set_cons_zero]))
      (refine wpT_free rfl rfl (.inl ⟨rfl, fun w hw => run_ldK Try.underlying77 rfl rfl rfl (cs := frCells f a) (st_off (o := 0) (T := TrueP) hw (by (repeat (first | exact List.mem_cons_self | refine List.mem_cons_of_mem _ ?_))) (fun j v hv => by rw [Nat.zero_add]; exact hv)) (sz77 HO.out)⟩) (by exact ⟨⟨_, _, H.reb.sub (by (repeat (first | exact List.Sublist.refl _ | apply List.Sublist.cons_cons | apply List.Sublist.cons)))⟩, tp _⟩) ?_; (conv => arg 6; simp only [Act.put, List.setIfInBounds_toArray, List.set_cons_succ, List.set_cons_zero]))
      (refine wpT_free rfl rfl (.inl ⟨rfl, fun w _ => by go_simp; rfl⟩) (by exact ⟨⟨_, _, H.reb.sub (by (repeat (first | exact List.Sublist.refl _ | apply List.Sublist.cons_cons | apply List.Sublist.cons)))⟩, tp _⟩) ?_; (conv => arg 6; simp only [Act.put, List.setIfInBounds_toArray, List.set_cons_succ, List.set_cons_zero]))
      refine wpT_op rfl ?_
      go_wp2_with (first | (apply wpList_want; (· rfl)) | (go_at_call 16; refine (Follow16S H HTW3.out rfl HMO.out hml (TF.rowT H.assoc')).mono ?_; rintro e wn ⟨cf, hf, kf, mf, Af, bs2, rfl, FG, M16⟩; replace H := H.call ((tabR_ok _ _).star ((refR_ok _ _).star (rowR_ok _ _))) M16; have HE := hid (fol_eq FG HFF.out); clear M16 FG))
      refine PlanTQ.mk (by exact ⟨⟨_, _, H.reb.sub (by (repeat (first | exact List.Sublist.refl _ | apply List.Sublist.cons_cons | apply List.Sublist.cons)))⟩, tp _⟩) ?_
      refine wpT_op rfl ?_
      go_wp2_with (first | (apply wpList_want; (· rfl)) | (go_at_call 38; refine (Fair38T (v := v) H ((refR_ok _ _).star (rowR_ok _ _)) HO.out HR.out HTW3.out HFS.out (by omega) (fun x hx => List.mem_append_left _ hx) (by rw [HE.out, HL.out]; omega) (by rw [HE.out, HAG.out.2]; exact HV.out)).mono ?_; rw [HAG.out.1]; clear H; rintro e wn ⟨rfl, H⟩))
      refine PlanTQ.mk (by exact ⟨⟨_, _, H.reb.sub (by (repeat (first | exact List.Sublist.refl _ | apply List.Sublist.cons_cons | apply List.Sublist.cons)))⟩, tp _⟩) ?_
      (refine wpT_free (v := .bool true) rfl rfl (.inl ⟨rfl, fun w _ => by go_simp⟩) (by exact ⟨⟨_, _, H.reb.sub (by (repeat (first | exact List.Sublist.refl _ | apply List.Sublist.cons_cons | apply List.Sublist.cons)))⟩, tp _⟩) ?_; (conv => arg 6; simp only [Act.put, List.setIfInBounds_toArray, List.set_cons_succ, List.set_cons_zero]))
      (refine wpT_free (v := .bool true) rfl rfl (.inl ⟨rfl, fun w _ => by go_simp; (try rfl)⟩) (by exact ⟨⟨_, _, H.reb.sub (by (repeat (first | exact List.Sublist.refl _ | apply List.Sublist.cons_cons | apply List.Sublist.cons)))⟩, tp _⟩) ?_; (conv => arg 6; simp only [Act.put, List.setIfInBounds_toArray, List.set_cons_succ, List.set_cons_zero]))
      (refine wpT_free rfl rfl (.inl ⟨rfl, fun w _ => by go_simp; rfl⟩) (by exact ⟨⟨_, _, H.reb.sub (by (repeat (first | exact List.Sublist.refl _ | apply List.Sublist.cons_cons | apply List.Sublist.cons)))⟩, tp _⟩) ?_; (conv => arg 6; simp only [Act.put, List.setIfInBounds_toArray, List.set_cons_succ, List.set_cons_zero]))
      refine wpT_done ?_
      rw [HQ.out]
      go_wp2_with fail
      go_ret
      exact ⟨rfl, H.toMem.sub (List.nil_sublist _)⟩
theorem FoeShows9 (A : Option Addr) (d : Nat) (cs : List Ck) (f : Fr) (a : Fx) (w : World) (h : CksR w A cs) (hok : FrOk f) (hr : FrR w f a) : Calls Try.prog 9 #[.agg (frCells f a).toArray, .slice A cs.length d] w fun e w' => e = .returned (.bool true) ∧ Below w.heap.size w w' := by
  refine Calls.mono (R := BoolR true w) ?_ fun e w' ⟨he, M⟩ => ⟨he, M.below⟩
  cases hg : greatL cs
  · cases hg2 : greatO f
    · by_cases hi : f.ids.length ≤ 40
      · exact shows_small A d cs f a w h hok hr hg hg2 hi
      · exact shows_g3 A d cs f a w h hok hr hg hg2 (by omega)
    · exact shows_g2 A d cs f a w h hok hr hg hg2
  · exact shows_g1 A d cs f a w h hok hr hg
end Go.Proofs.Ytcapfnbmmdbcoaa
