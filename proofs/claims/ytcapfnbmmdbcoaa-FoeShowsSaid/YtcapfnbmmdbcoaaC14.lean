/- Walks of the term layer: what follows of what was seen. -/
import Derived.Test.YtcapfnbmmdbcoaaC13
set_option linter.unusedVariables false
set_option linter.unusedSimpArgs false
namespace Go.Proofs.Ytcapfnbmmdbcoaa
open Go.RowKit
section
variable {P : Program} {ops : Array Oper} {rest : List Oper} {o : Oper} {a : Act} {w w0 : World} {Q : Exit → Act → World → Prop} {E : List Nat} {L L' : List Item}
theorem madeCells_bool (n : Nat) : madeCells (Value.bool false).cells n = (bools (List.replicate n false)).toArray := by
  apply Array.toList_inj.1
  apply List.ext_getElem?
  intro i
  by_cases hi : i < n
  · simp [madeCells, bools, Value.cells, hi, Nat.mod_one]
  · simp [madeCells, bools, Value.cells, hi]
/-- make([]bool, n). -/
theorem wpList_mkB (m n : Nat) {t e : TypeId} {bytes : Nat} (ht : P.underlying t = some (.slice e)) (hi : (P.info? e).map (fun i => (i.zero, i.size, i.bytes)) = some (some (.bool false), 1, bytes)) (hm : o.dst = some m) (hgd : o.guard = none) {x y : Operand}
    (ho : o.op = .makeSlice t x y) {n1 n2 : Int} (hx : a.eval x = .int .i64 n1) (hy : a.eval y = .int .i64 n2) (h1 : n1 = n) (h2 : n2 = n) (hb : bytes * n ≤ 281474976710656) (hn : n ≤ 281474976710656) (M : Mem w0 E w L)
    (h : ∀ b w', Mem w0 E w' (.blk b (cellsO e (bools (List.replicate n false))) :: L) → wpList P ops Q rest (a.put (some m) (.slice (some ⟨b, 0, none⟩) n n)) w') : wpList P ops Q (o :: rest) a w :=
  wpList_plain hgd fun K hK => by
    subst h1 h2
    obtain ⟨i, hii, hp⟩ := Option.map_eq_some_iff.1 hi
    simp only [Prod.mk.injEq] at hp
    obtain ⟨hz, hs, hby⟩ := hp
    have hbb : (i.bytes : Int) * (n : Int) ≤ 281474976710656 := by
      rw [hby, ← Int.natCast_mul]
      omega
    have hr := run_make (P := P) w t e i _ ht hii hz .i64 .i64 (n : Int) (n : Int) (by omega) (by omega) hbb (by omega)
    rw [Int.toNat_natCast, hs, Nat.mul_one, madeCells_bool] at hr
    unfold Oper.wp execOp
    simp only [ho, hx, hy, Sem.run_bind, Sem.run_pure, Result.andThen_ok, hr]
    rw [← hm] at h
    exact hK _ _ (h _ _ (M.alloc _))
/-- x[:h:h], x a slice of length h. -/
theorem run_slFull {t e : TypeId} {size : Nat} (hu : P.underlying t = some (.slice e)) (hsz : (P.info? e).map (·.size) = some size) {x hi mx : Operand} (ho : o.op = .slice t x none (some hi) (some mx)) {A : Option Addr} {n c : Nat} (hx : a.eval x = .slice A n c) {k k' : IntKind} {h h' : Int} (hh : a.eval hi = .int k h) (hh' : a.eval mx = .int k' h') (e1 : h = (n : Int)) (e2 : h' = (n : Int)) (hc : n ≤ c) (w : World) :
    (execOp a.eval o).run P w = .ok (.value (.slice A n n)) w := by
  obtain ⟨i, hii, his⟩ := Option.map_eq_some_iff.1 hsz
  subst e1 e2
  have e3 : (if n = 0 then A else A.map (fun a => a.add 0)) = A := by
    cases A with
    | none => simp
    | some a => simp [Addr.add_zero']
  have hr : (Instr.sliceAt t (.slice A n c) none (some (.int k n)) (some (.int k' n))).run P w = .ok (.slice A n n) w := by
    simp [Instr.sliceAt, Instr.slice, run_underlying hu, Instr.sliceBounds, Instr.sliceBound, asIntOf, hc, sizeOf, typeInfo, hii, his, Addr.add_zero']
  unfold execOp
  simp only [ho, hx, hh, hh', Option.map_some, Option.map_none, Sem.run_bind, Sem.run_pure, Result.andThen_ok, hr]
/-- A callee wrote a block that is an item. -/
theorem Mem.wrote {w' : World} {kb : Nat} {o o' : Obj} (M : Mem w0 E w L) (M2 : Mem w [kb] w' []) (hs : Swap (.blk kb o) (.blk kb o') L L') (h : w'.heap[kb]? = some o') : Mem w0 E w' L' :=
  M.swap hs M2.grown1 (.inr rfl) h (fun b hb => .inl hb)
end
theorem learn_known {a : List Bool} {k : List Int} (hn : numT a.length k < a.length) : knownK (learnL a k) k := by
  intro h0
  rw [learnL_length] at h0 ⊢
  rw [learnL, if_pos h0, getD_set]
  simp
  omega
theorem knownK.mono {a b : List Bool} (h : LeB a b) {k : List Int} (hk : knownK a k) : knownK b k := fun h0 => by
  rw [← h.len] at h0 ⊢
  exact h.le _ (hk h0)
theorem numT_lt {n : Nat} {k : List Int} (hk : KeyOk k) (h0 : 0 < n ∨ True) : numT n k < n := by
  rcases numT_cases n k hk with h | ⟨q, hq, h⟩ <;> rw [h] <;> omega
/-- The least closed set that has what was seen. -/
structure Follows (ts : List Tm) (seen : List (List Int)) (bs : List Bool) : Prop where
  len : bs.length = ts.length
  has : ∀ k ∈ seen, knownK bs k
  closed : Closed ts bs
  least : ∀ X : List Bool, X.length = ts.length → (∀ k ∈ seen, knownK X k) → Closed ts X → LeB bs X
/-- What the loops keep. -/
structure FolI (ts : List Tm) (seen : List (List Int)) (bs : List Bool) (i : Nat) : Prop where
  len : bs.length = ts.length
  has : ∀ k ∈ seen.take i, knownK bs k
  least : ∀ X : List Bool, X.length = ts.length → (∀ k ∈ seen, knownK X k) → Closed ts X → LeB bs X
theorem FolI.start (ts : List Tm) (seen : List (List Int)) : FolI ts seen (List.replicate ts.length false) 0 :=
  ⟨by simp, by simp, fun X hX _ _ => ⟨by simp [hX], fun i hi => by
    rw [List.getD_eq_getElem?_getD, List.getElem?_replicate] at hi
    split at hi <;> cases hi⟩⟩
theorem FolI.learn {ts : List Tm} {seen : List (List Int)} {bs : List Bool} {i : Nat} {k : List Int} (h : FolI ts seen bs i) (hk : seen[i]? = some k) (hok : KeyOk k) : FolI ts seen (learnL bs k) (i + 1) := by
  refine ⟨by rw [learnL_length, h.len], fun q hq => ?_, fun X hX hs hc => learn_le (h.least X hX hs hc) (hs k (List.mem_of_getElem? hk))⟩
  obtain ⟨hl, rfl⟩ := List.getElem?_eq_some_iff.1 hk
  rw [List.take_succ_eq_append_getElem hl] at hq
  rcases List.mem_append.1 hq with hq | hq
  · exact (h.has q hq).mono (learn_ge _ _)
  · rw [List.mem_singleton] at hq
    subst hq
    exact learn_known (numT_lt hok (.inr trivial))
theorem FolI.round {ts : List Tm} {seen : List (List Int)} {bs bs' : List Bool} {more : Bool} {i n : Nat} (h : FolI ts seen bs i) (hr : RoundI ts bs bs' more n) : FolI ts seen bs' i :=
  ⟨by rw [← hr.ge.len, h.len], fun k hk => (h.has k hk).mono hr.ge, fun X hX hs hc => hr.le X (h.least X hX hs hc) hc⟩
theorem FolI.done {ts : List Tm} {seen : List (List Int)} {bs bs' : List Bool} (h : FolI ts seen bs seen.length) (hr : RoundI ts bs bs' false ts.length) : Follows ts seen bs' := by
  obtain ⟨e, hc⟩ := hr.no rfl
  subst e
  exact ⟨h.len, by have := h.has; rwa [List.take_length] at this, fun i t hi => hc i t (List.getElem?_eq_some_iff.1 hi).1 hi, h.least⟩
/-- The memory of a closure that answers what follows. -/
def folL (f h kb : Nat) (A : Option Addr) (mb : Nat) (bs : List Bool) : List Item :=
  [.blk h (cellsO 88 [.slice A bs.length bs.length, .map (some mb)]), .blk f (cellsO 92 [.pointer (some ⟨h, 0, none⟩), .slice (some ⟨kb, 0, none⟩) bs.length bs.length]), .blk kb (cellsO 4 (bools bs))]
theorem Mem.fp {w0 w : World} {E : List Nat} {L : List Item} (M : Mem w0 E w L) {f h kb mb : Nat} {A : Option Addr} {bs : List Bool} (hin : ∀ x ∈ folL f h kb A mb bs, x ∈ L) : FP w f h kb A bs.length bs :=
  ⟨M.cell (hin _ (by simp [folL]; exact .inr (.inl ⟨rfl, rfl⟩))) rfl, M.cell (hin _ (by simp [folL]; exact .inr (.inl ⟨rfl, rfl⟩))) rfl, M.cell (hin (.blk h (cellsO 88 [.slice A bs.length bs.length, .map (some mb)])) (by simp [folL])) rfl,
    fun i b hi => M.cell (hin (.blk kb (cellsO 4 (bools bs))) (by simp [folL])) (bools_get hi)⟩
/-- A closure comes back that answers of each key whether it follows. -/
def FollowR (ts : List Tm) (seen : List (List Int)) (w : World) (e : Ending) (w' : World) : Prop :=
  ∃ (f h kb mb : Nat) (A : Option Addr) (bs : List Bool), e = .returned (.func (.func 42) #[.pointer (some ⟨f, 0, none⟩)] #[]) ∧ Follows ts seen bs ∧ Mem w [] w' (folL f h kb A mb bs)
theorem i4' : (Try.prog.info? 4).map (fun i => (i.zero, i.size, i.bytes)) = some (some (.bool false), 1, 1) := by kernel_rfl
set_option maxRecDepth 100000 in
set_option maxHeartbeats 4000000 in
theorem Follow16 (K : Nat → Prop) (g mb c d : Nat) (A B : Option Addr) (ts : List Tm) (seen : List (List Int)) (w : World) (T : TabP K w g mb A c ts) (hw : ∀ t ∈ ts, (t.kind = 4 ∨ t.kind = 6) → 2 ≤ t.keys.length) (hk : ∀ k ∈ seen, KeyOk k) (hl : seen.length ≤ 1000) (hr : RowT w 26 B (nums .u8 seen.flatten)) :
    Calls Try.prog 16 #[.pointer (some ⟨g, 0, none⟩), .slice B seen.length d] w (FollowR ts seen w) := by
  have M0 := Mem.start w
  have HT := hid T
  have HW := hid hw
  have HK := hid hk
  have HR := hid hr
  have hn : ts.length ≤ 1000000 := T.few
  have hgl := (Array.getElem?_eq_some_iff.1 T.hg).1
  have cg : w.cell? ⟨g, 0, none⟩ = some (.slice A ts.length c) := by rw [cell_of_row w g 0 _ 88 (0, 0) T.hg]; rfl
  have HCG := hid cg
  have HCM := hid (show w.cell? ⟨g, 1, none⟩ = some (.map (some mb)) from by rw [cell_of_row w g 1 _ 88 (0, 0) T.hg]; rfl)
  have hcap : ts.length ≤ c := by
    obtain ⟨cs, ho, _⟩ := T.row
    rcases ho.2 with ⟨h', hn⟩ | ⟨b, cap, cur, h', _, _, h3, _⟩
    · omega
    · injection h' with _ _ h2
      omega
  clear T hw hk hr
  go_enter Try.func16, Try.ntmps16
  go_wp2_with (first | (refine wpList_mkB 15 ts.length Try.underlying81 i4' rfl rfl rfl rfl rfl rfl rfl (by omega) (by omega) M0 (fun kb w1 M1 => ?_); clear M0; (conv => arg 5; simp only [Act.put, List.setIfInBounds_toArray, List.set_cons_succ, List.set_cons_zero])) | (refine wpList_bx (cs := [.pointer (some ⟨g, 0, none⟩), .slice (some ⟨kb, 0, none⟩) ts.length ts.length]) rfl rfl M1 rfl rfl (fun f w2 M2 => ?_); clear M1; (conv => arg 5; simp only [Act.put, List.setIfInBounds_toArray, List.set_cons_succ, List.set_cons_zero])))
  clear cg
  have hf0 := (M2.fresh _ List.mem_cons_self f rfl).resolve_left (by simp)
  have hk0 := (M2.fresh _ (List.mem_cons_of_mem _ List.mem_cons_self) kb rfl).resolve_left (by simp)
  have hfk : f ≠ kb := fun e => (List.pairwise_cons.1 M2.apart).1 _ List.mem_cons_self f rfl (by rw [e]; rfl)
  have HFW := hid (fun (wr : World) (bs : List Bool) (o : Obj) (ho : o = cellsO 92 [.pointer (some ⟨g, 0, none⟩), .slice (some ⟨kb, 0, none⟩) ts.length ts.length]) (L : List Item) (M : Mem w [] wr (.blk f o :: .blk kb (cellsO 4 (bools bs)) :: L)) (hb : bs.length = ts.length) => show FW wr f g kb A c bs from by
    subst ho
    exact ⟨M.cell List.mem_cons_self rfl, by rw [hb]; exact M.cell List.mem_cons_self rfl, by rw [hb]; exact M.cell0 HCG.out, M.holds _ (List.mem_cons_of_mem _ List.mem_cons_self), hfk, by omega⟩)
  go_loopw [20] (fun n wr => ∃ (i : Nat) (bs : List Bool), i ≤ seen.length ∧ n = .int .i64 i ∧ Mem w [] wr [.blk f (cellsO 92 [.pointer (some ⟨g, 0, none⟩), .slice (some ⟨kb, 0, none⟩) ts.length ts.length]), .blk kb (cellsO 4 (bools bs))] ∧ FolI ts seen bs i) (fun n _ => seen.length - (intOf n).toNat)
  case atStart => exact ⟨0, _, by omega, rfl, M2, FolI.start ts seen⟩
  case round =>
    obtain ⟨i, bs, hi, rfl, Mi, FI⟩ := hrel
    clear M2
    by_cases hlt : i < seen.length
    · have hltI : (i : Int) < (seen.length : Int) := by omega
      obtain ⟨k, hke⟩ : ∃ k, seen[i]? = some k := ⟨seen[i], List.getElem?_eq_getElem hlt⟩
      obtain ⟨bq, oq, rfl, hcells⟩ := keys_at HK.out (HR.out.mem Mi) hke
      have HKK := hid (HK.out k (List.mem_of_getElem? hke))
      have HKE := hid hke
      have HFI := hid FI
      have HCL := hid hcells
      clear hke FI hcells
      go_wp2_with (first | (refine wpList_ldagg 23 rfl Try.underlying26 rfl rfl rfl rfl HCL.out (s26k HKK.out) ?_; (conv => arg 5; simp only [Act.put, List.setIfInBounds_toArray, List.set_cons_succ, List.set_cons_zero])) | (refine wpList_alN z26 7 rfl rfl rfl Mi (fun b7 w7 M7 => ?_); (conv => arg 5; simp only [Act.put, List.setIfInBounds_toArray, List.set_cons_succ, List.set_cons_zero])) | (refine wpList_strowN s26 rfl rfl rfl rfl M7 Swap.head (by simp) HKK.out.1 (fun w9 M9 => ?_); clear M7; (conv => arg 5; simp only [Act.put, List.setIfInBounds_toArray, List.set_cons_succ, List.set_cons_zero])) | (refine wpList_ldrowN Try.underlying26 s26 rfl rfl rfl rfl M9 List.mem_cons_self HKK.out.1 ?_; (conv => arg 5; simp only [Act.put, List.setIfInBounds_toArray, List.set_cons_succ, List.set_cons_zero])) | (go_at_call 40; refine (learn40 f g kb c A bs k _ (HFW.out _ bs _ rfl _ M9.tail HFI.out.len) HKK.out (by rw [HFI.out.len]; exact hn)).mono ?_; rintro e w10 ⟨rfl, hh10, M10⟩; have M11 := M9.tail.wrote M10 (Swap.tail Swap.head) hh10; clear M9 M10 hh10))
      go_round
      case rel => exact ⟨i + 1, _, by omega, by go_num, M11, HFI.out.learn HKE.out HKK.out⟩
      case measure => simp [intOf]; omega
    · obtain rfl : i = seen.length := by omega
      go_wp2_with fail
      go_loopg [] (blank bs) (fun q wr => ∃ (bs : List Bool), Mem w [] wr [.blk f (cellsO 92 [.pointer (some ⟨g, 0, none⟩), .slice (some ⟨kb, 0, none⟩) ts.length ts.length]), .blk kb (cellsO 4 (bools bs))] ∧ FolI ts seen bs seen.length ∧ Hid (blank bs = q))
      case atStart => exact ⟨bs, Mi, FI, hid rfl⟩
      case round =>
        obtain ⟨bs1, Mj, FJ, HQ⟩ := hrel
        clear Mi FI
        have HFJ := hid FJ
        have hkn : ¬ K kb ∨ True := .inr trivial
        clear FJ
        go_wp2_with (go_at_call 41; refine (round41 (fun b => K b ∧ b < w.heap.size) f g mb kb c A ts bs1 _ (HT.out.lt.below Mj.below) (HFW.out _ bs1 _ rfl _ Mj HFJ.out.len) HFJ.out.len (fun h => Nat.not_le_of_lt h.2 hk0) HW.out).mono ?_; rintro e w10 ⟨more, bs2, rfl, hh10, M10, RI⟩; have M11 := Mj.wrote M10 (Swap.tail Swap.head) hh10; clear Mj M10 hh10; have HRI := hid RI; clear RI)
        · obtain rfl : more = true := by assumption
          go_roundg (blank bs2)
          case measure => have := HRI.out.yes rfl; have := HQ.out; omega
          case rel => exact ⟨bs2, M11, HFJ.out.round HRI.out, hid rfl⟩
        · obtain rfl : more = false := by assumption
          have HD := hid (HFJ.out.done HRI.out)
          have hbl : bs2.length = ts.length := HD.out.len
          clear HQ HFJ HRI HFW
          refine wp_region_planT (.free 0 (.free 1 (.free 2 (.free 3 (.free 4 (.free 5 (.free 6 (.free 7 (.free 8 (.free 9 (.free 10 (.free 11 (.free 12 (.free 13 (.free 14 (.free 15 (.free 16 (.free 17 (.free 18 (.free 19 (.one 20 (.free 21 (.done))))))))))))))))))))))) (by kernel_rfl) (by kernel_rfl) (fun _ _ _ _ _ h => h) M11 (fun w11 M12 => ?_)
          clear M11
          iterate 3 (refine wpT_free rfl rfl (.inl ⟨rfl, fun w _ => by go_simp; rfl⟩) (by assumption) ?_; (conv => arg 6; simp only [Act.put, List.setIfInBounds_toArray, List.set_cons_succ, List.set_cons_zero]))
          refine wpT_free rfl rfl (.inl ⟨rfl, fun w hw => run_ld1 Try.underlying45 rfl rfl rfl (hw.cell0 HCG.out)⟩) (by assumption) ?_; (conv => arg 6; simp only [Act.put, List.setIfInBounds_toArray, List.set_cons_succ, List.set_cons_zero])
          iterate 3 (refine wpT_free rfl rfl (.inl ⟨rfl, fun w _ => by go_simp; rfl⟩) (by assumption) ?_; (conv => arg 6; simp only [Act.put, List.setIfInBounds_toArray, List.set_cons_succ, List.set_cons_zero]))
          refine wpT_free rfl rfl (.inl ⟨rfl, fun w hw => run_ld1 Try.underlying45 rfl rfl rfl (hw.cell0 HCG.out)⟩) (by assumption) ?_; (conv => arg 6; simp only [Act.put, List.setIfInBounds_toArray, List.set_cons_succ, List.set_cons_zero])
          iterate 4 (refine wpT_free rfl rfl (.inl ⟨rfl, fun w _ => by go_simp; rfl⟩) (by assumption) ?_; (conv => arg 6; simp only [Act.put, List.setIfInBounds_toArray, List.set_cons_succ, List.set_cons_zero]))
          refine wpT_free rfl rfl (.inl ⟨rfl, fun w hw => run_ld1 Try.underlying45 rfl rfl rfl (hw.cell0 HCG.out)⟩) (by assumption) ?_; (conv => arg 6; simp only [Act.put, List.setIfInBounds_toArray, List.set_cons_succ, List.set_cons_zero])
          (refine wpT_free rfl rfl (.inl ⟨rfl, fun w _ => by go_simp; rfl⟩) (by assumption) ?_; (conv => arg 6; simp only [Act.put, List.setIfInBounds_toArray, List.set_cons_succ, List.set_cons_zero]))
          refine wpT_free rfl rfl (.inl ⟨rfl, fun w hw => run_slFull Try.underlying45 sz95 rfl rfl rfl rfl rfl rfl hcap w⟩) (by assumption) ?_; (conv => arg 6; simp only [Act.put, List.setIfInBounds_toArray, List.set_cons_succ, List.set_cons_zero])
          iterate 3 (refine wpT_free rfl rfl (.inl ⟨rfl, fun w _ => by go_simp; rfl⟩) (by assumption) ?_; (conv => arg 6; simp only [Act.put, List.setIfInBounds_toArray, List.set_cons_succ, List.set_cons_zero]))
          refine wpT_free rfl rfl (.inl ⟨rfl, fun w hw => run_ld1 Try.underlying86 rfl rfl rfl (hw.cell0 HCM.out)⟩) (by assumption) ?_; (conv => arg 6; simp only [Act.put, List.setIfInBounds_toArray, List.set_cons_succ, List.set_cons_zero])
          (refine wpT_free rfl rfl (.inl ⟨rfl, fun w _ => by go_simp; rfl⟩) (by assumption) ?_; (conv => arg 6; simp only [Act.put, List.setIfInBounds_toArray, List.set_cons_succ, List.set_cons_zero]))
          refine wpT_op rfl ?_
          refine wpList_bx (cs := [.slice A ts.length ts.length, .map (some mb)]) rfl rfl M12 rfl rfl (fun h w12 M13 => ?_); (conv => arg 5; simp only [Act.put, List.setIfInBounds_toArray, List.set_cons_succ, List.set_cons_zero])
          go_wp2_with fail
          clear M12
          have M13t := M13.tail
          refine PlanTQ.mk M13t ?_
          (refine wpT_free rfl rfl (.inl ⟨rfl, fun w _ => by go_simp; rfl⟩) (by assumption) ?_; (conv => arg 6; simp only [Act.put, List.setIfInBounds_toArray, List.set_cons_succ, List.set_cons_zero]))
          refine wpT_done ?_
          go_wp2_with (refine wpList_stM (v := .pointer (some ⟨h, 0, none⟩)) rfl rfl s23 rfl rfl rfl M13 (Swap.tail Swap.head) (by simp) (fun w13 M14 => ?_); clear M13; (conv => arg 5; simp only [Act.put, List.setIfInBounds_toArray, List.set_cons_succ, List.set_cons_zero]))
          go_ret
          rw [← hbl] at M14
          exact ⟨f, h, kb, mb, A, bs2, rfl, HD.out, M14⟩
end Go.Proofs.Ytcapfnbmmdbcoaa
