/- Walks of the term layer: a term is put into a table. -/
import Derived.Test.YtcapfnbmmdbcoaaC4
set_option linter.unusedVariables false
set_option linter.unusedSimpArgs false
namespace Go.Proofs.Ytcapfnbmmdbcoaa
open Go.RowKit
theorem wp_region_planS {P : Program} {a : Act} {w : World} {Q : Exit → Act → World → Prop} {id : Nat} {ops : Array Oper} (S : World → Prop) (s : PlanT) (hm : P.follows .mixedOrders = true) (hB : (Region.noSelect ops && planTB .any ops s (Array.replicate ops.size false) && decide (s.depth ≤ ops.size)) = true)
    (hQ : ∀ c a (d : Tmp) v w, Q (.panic c) (Act.put a (some d) v) w → Q (.panic c) a w)
    (h : ∀ w1, Below w.heap.size w w1 → wpPlanT P ops S Q s a w1) : (Code.region id ops true).wp P Q a w := by
  simp only [Bool.and_eq_true, decide_eq_true_eq] at hB
  obtain ⟨⟨hs, hB⟩, hl⟩ := hB
  exact wp_region_held (S := S) hm (planT_any (P := P) (Q := Q) hs hQ s _ _ a _ hl hB (h _ ⟨rfl, rfl, rfl, Nat.le_refl _, fun _ _ => rfl⟩))
theorem wpList_appSm (mm : Nat) {P : Program} {ops : Array Oper} {rest : List Oper} {o : Oper} {a : Act} {w w0 : World} {Q : Exit → Act → World → Prop} {E : List Nat} {L : List Item} (hmm : o.dst = some mm) {t e : TypeId} {z : Value} {size bytes : Nat} (ht : P.underlying t = some (.slice e)) (hi : (P.info? e).map (fun i => (i.zero, i.size, i.bytes)) = some (some z, size, bytes)) (hz : z.cells.size = size) (hs0 : 0 < size) (hgd : o.guard = none) {s x : Operand}
    (ho : o.op = .call { callee := .builtin .append, args := #[s, x], argTypes := #[t, t] }) {A : Option Addr} {n cap m c : Nat} (hs : a.eval s = .slice A n cap) {A2 : Option Addr} (hx : a.eval x = .slice A2 m c)
    (M : Mem w0 E w L) {cs ds : List Value} {L' : Option Addr → Nat → List Item} (hsw : ∀ A' cap', Swap (.vec A n cap e size cs) (.vec A' (n + m) cap' e size (cs ++ ds)) L (L' A' cap')) {t2 : TypeId} (hr : RowT w t2 A2 ds) (hl : ds.length = m * size) (h1 : ∀ v ∈ ds, v.oneCell' = true)
    (hb : (n + m) * bytes ≤ 140737488355328) (hb2 : n + m ≤ 140737488355328)
    (h : ∀ A' cap' w', Mem w0 E w' (L' A' cap') → wpList P ops Q rest (a.put (some mm) (.slice A' (n + m) cap')) w') : wpList P ops Q (o :: rest) a w :=
  wpList_appS ht hi hz hs0 hgd ho hs hx M hsw hr hl h1 hb hb2 (fun A' cap' w' M' => by rw [hmm]; exact h A' cap' w' M')
/-- The table's own blocks join what is known. -/
theorem TabP.items {K : Nat → Prop} {w w1 : World} {g mb c : Nat} {A : Option Addr} {ts : List Tm} {L : List Item} (M : Mem w [] w1 L) (h : TabP K w g mb A c ts) :
    ∃ cs, (∀ (i : Nat) (t : Tm), ts[i]? = some t → ∃ B d, cs[3 * i]? = some (.int .i64 t.kind) ∧ cs[3 * i + 1]? = some (.string t.text) ∧ cs[3 * i + 2]? = some (.slice B t.keys.length d) ∧ t.keys.length ≤ d ∧ (B = none → d = 0) ∧ RowT w 26 B (nums .u8 t.keys.flatten) ∧ (t.keys ≠ [] → ∀ ad, B = some ad → K ad.block)) ∧
    Mem w (TabE g mb A) w1 (.blk g (cellsO 88 [.slice A ts.length c, .map (some mb)]) :: .blk mb (mapO (ts.map shapeS)) :: .vec A ts.length c 95 3 cs :: L) := by
  obtain ⟨h1, h2, ⟨cs, h3, h4⟩, h5, h6, h7, k1, k2, k3⟩ := h
  refine ⟨cs, h4, ?_⟩
  have M' := M.mono0 (TabE g mb A)
  have lg := (Array.getElem?_eq_some_iff.1 h1).1
  have lm := (Array.getElem?_eq_some_iff.1 h2).1
  have hA : ∀ b, (Value.slice A ts.length c).ownBlock = some b → b ∈ blkA A ∧ b < w.heap.size ∧ ∃ arr m, w.heap[b]? = some (.cells arr 95 m) := fun b hb => by
    refine ⟨?_, (World.ownsRow.lt h3 b hb).2, ?_⟩
    · cases A with
      | none => cases hb
      | some ad =>
        simp only [Value.ownBlock, Option.some.injEq] at hb
        simp [blkA, hb]
    · cases A with
      | none => cases hb
      | some ad =>
        simp only [Value.ownBlock, Option.some.injEq] at hb
        rw [← hb]
        exact TabP.typeA ⟨h1, h2, ⟨cs, h3, h4⟩, h5, h6, h7, k1, k2, k3⟩ ad rfl
  have hL : ∀ x ∈ L, ∀ b, x.block = some b → w.heap.size ≤ b := fun x hx b hb => (M.fresh x hx b hb).resolve_left (by simp)
  refine ⟨M'.os, M'.tape, M'.output, M'.size, M'.old, ?_, ?_, ?_⟩
  · intro x hx
    simp only [List.mem_cons] at hx
    rcases hx with rfl | rfl | rfl | hx
    · show w1.heap[g]? = _
      rw [M.old g lg (by simp), h1]
    · show w1.heap[mb]? = _
      rw [M.old mb lm (by simp), h2]
    · exact World.ownsRow.kept h3 (grown_of_below M.below none) (by cases h : (Value.slice A ts.length c).ownBlock <;> simp)
    · exact M.holds x hx
  · intro x hx b hb
    simp only [List.mem_cons] at hx
    rcases hx with rfl | rfl | rfl | hx
    · simp only [Item.block, Option.some.injEq] at hb
      left; simp [TabE, hb]
    · simp only [Item.block, Option.some.injEq] at hb
      left; simp [TabE, hb]
    · left; simp [TabE, (hA b hb).1]
    · exact .inr (hL x hx b hb)
  · refine List.pairwise_cons.2 ⟨fun y hy b hb => ?_, List.pairwise_cons.2 ⟨fun y hy b hb => ?_, List.pairwise_cons.2 ⟨fun y hy b hb e => ?_, M.apart⟩⟩⟩
    · simp only [Item.block, Option.some.injEq] at hb
      subst hb
      simp only [List.mem_cons] at hy
      rcases hy with rfl | rfl | hy
      · simp only [Item.block, ne_eq, Option.some.injEq]
        rintro rfl
        rw [h1] at h2
        injection h2 with h2
        cases h2
      · intro e
        obtain ⟨_, _, arr, m, h8⟩ := hA g e
        rw [h1] at h8
        injection h8 with h8
        injection h8 with _ h8 _
        exact absurd h8 (by decide)
      · intro e
        have := hL y hy g e
        omega
    · simp only [Item.block, Option.some.injEq] at hb
      subst hb
      simp only [List.mem_cons] at hy
      rcases hy with rfl | hy
      · intro e
        obtain ⟨_, _, arr, m, h8⟩ := hA mb e
        rw [h2] at h8
        injection h8 with h8
        cases h8
      · intro e
        have := hL y hy mb e
        omega
    · have h8 := (hA b hb).2.1
      have := hL y hy b e
      omega
theorem get_idx : ∀ {ts : List Tm} {t : Tm}, t ∈ ts → ts[ts.idxOf t]? = some t
  | u :: ts, t, h => by
    rw [List.idxOf_cons]
    by_cases he : u = t
    · subst he; simp
    · have hb : (u == t) = false := by simpa using he
      rw [hb]
      simp only [cond_false, List.getElem?_cons_succ]
      exact get_idx ((List.mem_cons.1 h).resolve_left (fun e => he e.symm))
def putL (ts : List Tm) (t : Tm) : List Tm := if t ∈ ts then ts else ts ++ [t]
/-- The name of a term comes back; it is in the table. -/
def PutR (K : Nat → Prop) (w : World) (g mb : Nat) (A : Option Addr) (ts : List Tm) (t : Tm) (e : Ending) (w' : World) : Prop :=
  e = .returned (.agg (nums .u8 (nameL (ts.idxOf t : Nat))).toArray) ∧ ∃ A' c', TabP (fun b => K b ∨ w.heap.size ≤ b) w' g mb A' c' (putL ts t) ∧ Mem w (TabE g mb A) w' [] ∧ ∀ b ∈ blkA A', b ∈ blkA A ∨ w.heap.size ≤ b
theorem mem_shape {K : Nat → Prop} {w : World} {g mb c : Nat} {A : Option Addr} {ts : List Tm} (h : TabP K w g mb A c ts) {t : Tm} (ht : TmOk t) : shapeS t ∈ ts.map shapeS ↔ t ∈ ts := by
  rw [List.mem_map]
  constructor
  · rintro ⟨u, hu, he⟩
    rw [← shapeS_inj (h.ok u hu) ht he]
    exact hu
  · intro hm
    exact ⟨t, hm, rfl⟩
theorem shapes_nd {ts : List Tm} (hok : ∀ t ∈ ts, TmOk t) (h : ts.Nodup) : (ts.map shapeS).Nodup := by
  refine List.Pairwise.map shapeS (fun a b hab => hab) ?_
  exact List.Pairwise.imp_of_mem (fun {a b} ha hb hab e => hab (shapeS_inj (hok a ha) (hok b hb) e)) h
theorem z3 : ∀ u : World, (zeroValue 3).run Try.prog u = .ok (.int .i64 0) u := fun u => by kernel_rfl
theorem z95 : (Try.prog.info? 95).map (·.zero) = some (some (.agg #[.int .i64 0, .string ByteArray.empty, .slice none 0 0])) := by kernel_rfl
theorem sz95 : (Try.prog.info? 95).map (·.size) = some 3 := by kernel_rfl
theorem TabP.push {K : Nat → Prop} {w wf : World} {g mb c c2 d2 : Nat} {A A2 B2 : Option Addr} {ts : List Tm} {t : Tm} (h : TabP K w g mb A c ts) (ht : TmOk t) (hin : ¬ t ∈ ts) (hf : ts.length ≤ 900000) {cs : List Value}
    (hcs : ∀ (i : Nat) (t : Tm), ts[i]? = some t → ∃ B d, cs[3 * i]? = some (.int .i64 t.kind) ∧ cs[3 * i + 1]? = some (.string t.text) ∧ cs[3 * i + 2]? = some (.slice B t.keys.length d) ∧ t.keys.length ≤ d ∧ (B = none → d = 0) ∧ RowT w 26 B (nums .u8 t.keys.flatten) ∧ (t.keys ≠ [] → ∀ ad, B = some ad → K ad.block))
    (hB2 : ∀ ad, B2 = some ad → w.heap.size ≤ ad.block) (hd2 : t.keys.length ≤ d2) (hn2 : B2 = none → d2 = 0) {L : List Item} (MF : Mem w (TabE g mb A) wf L) (i1 : .blk g (cellsO 88 [.slice A2 (ts.length + 1) c2, .map (some mb)]) ∈ L) (i2 : .blk mb (mapO (ts.map shapeS ++ [shapeS t])) ∈ L)
    (i3 : .vec A2 (ts.length + 1) c2 95 3 (cs ++ [.int .i64 t.kind, .string t.text, .slice B2 t.keys.length d2]) ∈ L) (i4 : .vec B2 t.keys.length d2 26 32 (nums .u8 t.keys.flatten) ∈ L) :
    ∃ A' c', TabP (fun b => K b ∨ w.heap.size ≤ b) wf g mb A' c' (putL ts t) ∧ Mem w (TabE g mb A) wf [] ∧ ∀ b ∈ blkA A', b ∈ blkA A ∨ w.heap.size ≤ b := by
  have hown : wf.ownsRow 0 95 3 (.slice A2 (ts.length + 1) c2) (ts.length + 1) (cs ++ [.int .i64 t.kind, .string t.text, .slice B2 t.keys.length d2]) := MF.holds _ i3
  have hl : cs.length = 3 * ts.length := by
    have := hown.1
    simp only [List.length_append, List.length_cons, List.length_nil] at this
    omega
  have hfr : ∀ b ∈ blkA A2, b ∈ blkA A ∨ w.heap.size ≤ b := fun b hb => by
    simp only [blkA, Option.mem_toList, Option.map_eq_some_iff] at hb
    obtain ⟨ad, hA2, rfl⟩ := hb
    have h95 : ∃ arr m, wf.heap[ad.block]? = some (.cells arr 95 m) := by
      rcases hown.2 with ⟨h', _⟩ | ⟨b, cap, cur, h', _, hb, _⟩
      · injection h' with h1 _ _
        rw [hA2] at h1
        cases h1
      · injection h' with h1 _ _
        rw [hA2] at h1
        injection h1 with h1
        subst h1
        exact ⟨_, _, hb⟩
    obtain ⟨arr, m, h95⟩ := h95
    rcases MF.fresh _ i3 ad.block (by rw [hA2]; rfl) with hb | hb
    · simp only [TabE, List.mem_cons] at hb
      rcases hb with hb | hb | hb
      · rw [hb, show wf.heap[g]? = _ from MF.holds _ i1] at h95
        injection h95 with h95
        injection h95 with _ h95 _
        exact absurd h95 (by decide)
      · rw [hb, show wf.heap[mb]? = _ from MF.holds _ i2] at h95
        injection h95 with h95
        cases h95
      · exact .inl hb
    · exact .inr hb
  have T : TabP (fun b => K b ∨ w.heap.size ≤ b) wf g mb A2 c2 (ts ++ [t]) := by
    refine ⟨?_, ?_, ⟨cs ++ [.int .i64 t.kind, .string t.text, .slice B2 t.keys.length d2], ?_, fun i u hi => ?_⟩, ?_, ?_, ?_, ?_, ?_, ?_⟩
    · rw [List.length_append]; exact MF.holds _ i1
    · rw [List.map_append]; exact MF.holds _ i2
    · rw [List.length_append]; exact hown
    · by_cases hlt : i < ts.length
      · rw [List.getElem?_append_left hlt] at hi
        obtain ⟨B, d, a1, a2, a3, a4, a5, a6, a7⟩ := hcs i u hi
        exact ⟨B, d, by rw [List.getElem?_append_left (by omega)]; exact a1, by rw [List.getElem?_append_left (by omega)]; exact a2, by rw [List.getElem?_append_left (by omega)]; exact a3, a4, a5, a6.tab h MF, fun hn ad hB => .inl (a7 hn ad hB)⟩
      · have hi2 := (List.getElem?_eq_some_iff.1 hi).1
        simp only [List.length_append, List.length_cons, List.length_nil] at hi2
        obtain rfl : i = ts.length := by omega
        rw [List.getElem?_append_right (Nat.le_refl _), Nat.sub_self] at hi
        simp only [List.getElem?_cons_zero, Option.some.injEq] at hi
        subst hi
        refine ⟨B2, d2, ?_, ?_, ?_, hd2, hn2, MF.vecT i4, fun _ ad hB => .inr (hB2 ad hB)⟩
        · rw [List.getElem?_append_right (by omega), show 3 * ts.length - cs.length = 0 from by omega]; rfl
        · rw [List.getElem?_append_right (by omega), show 3 * ts.length + 1 - cs.length = 1 from by omega]; rfl
        · rw [List.getElem?_append_right (by omega), show 3 * ts.length + 2 - cs.length = 2 from by omega]; rfl
    · intro u hu
      rcases List.mem_append.1 hu with hu | hu
      · exact h.ok u hu
      · rw [List.mem_singleton] at hu
        subst hu
        exact ht
    · refine List.nodup_append.2 ⟨h.nd, by simp, fun a ha b hb e => ?_⟩
      rw [List.mem_singleton] at hb
      subst hb
      subst e
      exact hin ha
    · simp only [List.length_append, List.length_cons, List.length_nil]
      omega
    · exact .inl h.kg
    · exact .inl h.km
    · intro b hb
      rcases hfr b hb with hb | hb
      · exact .inl (h.kA b hb)
      · exact .inr hb
  exact ⟨A2, c2, by rw [putL, if_neg hin]; exact T, MF.sub (List.nil_sublist _), hfr⟩
theorem run_ldrowC {P : Program} {o : Oper} {a : Act} {w w0 : World} {E : List Nat} {L : List Item} {ty : TypeId} {d : TypeDesc} {n : Nat} (hu : P.underlying ty = some d) (hsz : (P.info? ty).map (·.size) = some n) {x : Operand} (ho : o.op = .load ty x) (hd : d.isRow = true) {g : Nat}
    (hx : a.eval x = .pointer (some ⟨g, 0, none⟩)) (M : Mem w0 E w L) {t : TypeId} {cs : List Value} (hin : .blk g (cellsO t cs) ∈ L) (hn : cs.length = n := by rfl) : (execOp a.eval o).run P w = .ok (.value (.agg cs.toArray)) w := by
  have hr := run_loadVar_row (P := P) w g t ty cs.toArray (0, 0) d (M.holds _ hin) hu (by cases d <;> simp_all [TypeDesc.isRow]) (by rw [hsz]; simp [hn])
  unfold execOp
  simp only [ho, hx, Instr.loadAt, Instr.sureAddr, Sem.run_bind, Sem.run_pure, Result.andThen_ok, hr]
set_option maxRecDepth 100000 in
set_option maxHeartbeats 1000000 in
theorem put39 (K : Nat → Prop) (g mb c : Nat) (A B : Option Addr) (d : Nat) (ts : List Tm) (t : Tm) (w : World) (h : TabP K w g mb A c ts) (ht : TmOk t) (hr : RowT w 26 B (nums .u8 t.keys.flatten)) (hn : B = none → d = 0) (hf : ts.length ≤ 900000) :
    Calls Try.prog 39 #[.pointer (some ⟨g, 0, none⟩), .int .i64 t.kind, .string t.text, .slice B t.keys.length d] w (PutR K w g mb A ts t) := by
  have M0 := Mem.start w
  have HT := hid h
  have HTO := hid ht
  have HR := hid hr
  have HN := hid hn
  have HSZ := hid (shapeS_size t ht)
  have HND := hid (shapes_nd h.ok h.nd)
  have HSS := hid (fun s (hs : s ∈ ts.map shapeS) => show s.size ≤ maxLen from by obtain ⟨u, hu, rfl⟩ := List.mem_map.1 hs; exact shapeS_size u (h.ok u hu))
  have HCG := hid (show w.cell? ⟨g, 0, none⟩ = some (.slice A ts.length c) from by rw [cell_of_row w g 0 _ 88 (0, 0) h.hg]; rfl)
  have HCM := hid (show w.cell? ⟨g, 1, none⟩ = some (.map (some mb)) from by rw [cell_of_row w g 1 _ 88 (0, 0) h.hg]; rfl)
  have HMB := hid (h.hm)
  have HMS := hid (mem_shape h ht)
  clear hr hn h ht
  by_cases hin : t ∈ ts
  · have HI := hid (show (ts.map shapeS)[ts.idxOf t]? = some (shapeS t) from by rw [List.getElem?_map, get_idx hin]; rfl)
    have hil := List.idxOf_lt_length_of_mem hin
    go_enter Try.func39, Try.ntmps39
    go_wp2_with ((first | (apply wpList_alN z26 8; (· rfl); (· rfl); (· rfl); (· exact M0); intro b8 w1 M1; (conv => arg 5; simp only [Act.put, List.setIfInBounds_toArray, List.set_cons_succ, List.set_cons_zero])) | (go_at_call 44; refine (Clone44 B d t.keys _ HTO.out.ks (HR.out.mem M1) HN.out HTO.out.kl).mono ?_; rintro e w2 ⟨B2, d2, rfl, hd2, hn2, _, M2⟩; have M3 := M1.join M2; have HD2 := hid hd2; have HN2 := hid hn2; clear hd2 hn2 M2 M1 M0) | (refine wpList_al rfl rfl M3 z95 rfl (fun b9 w4 M4 => ?_); clear M3; (conv => arg 5; simp only [Act.put, List.setIfInBounds_toArray, List.set_cons_succ, List.set_cons_zero])) | (refine wpList_strow (vs := [.int .i64 t.kind, .string t.text, .slice B2 t.keys.length d2]) rfl rfl rfl rfl M4 Swap.head sz95 rfl (by simp [Value.oneCell']) (fun w5 M5 => ?_); clear M4; (conv => arg 5; simp only [Act.put, List.setIfInBounds_toArray, List.set_cons_succ, List.set_cons_zero])) | (refine wpList_ldrow rfl rfl Try.underlying95 rfl rfl M5 List.mem_cons_self sz95 ?_; (conv => arg 5; simp only [Act.put, List.setIfInBounds_toArray, List.set_cons_succ, List.set_cons_zero])) | (go_at_call 65; refine (shape65 t.kind t.text B2 d2 t.keys _ HTO.out.k0 HTO.out.k1 HTO.out.tx HTO.out.kl HTO.out.ks (M5.vecT (List.mem_cons_of_mem _ List.mem_cons_self))).mono ?_; rintro e w6 ⟨rfl, M6⟩; have M7 := M5.call M6.below; have hcg := M7.cell0 HCG.out; have hcm := M7.cell0 HCM.out; have HM7 := hid (show w6.heap[mb]? = some (mapO (ts.map shapeS)) from by rw [M7.old mb (Array.getElem?_eq_some_iff.1 HMB.out).1 (by simp)]; exact HMB.out); clear M5 M6) | (refine wpList_lkNo 26 rfl Try.underlying86 Try.underlying9 z3 rfl rfl rfl (s := shapeS t) rfl HSS.out HSZ.out HNO.out HM7.out ?_; (conv => arg 5; simp only [Act.put, List.setIfInBounds_toArray, List.set_cons_succ, List.set_cons_zero])) | (refine wpList_lkYes 26 rfl (ts.idxOf t) Try.underlying86 Try.underlying9 rfl rfl rfl (s := shapeS t) rfl HSS.out HND.out HI.out HM7.out ?_; (conv => arg 5; simp only [Act.put, List.setIfInBounds_toArray, List.set_cons_succ, List.set_cons_zero]))))
    go_wp2_with (first | (go_at_call 66; refine (name66 ((ts.idxOf t : Nat) : Int) _ (by omega) (by omega)).mono ?_; rintro e w13 ⟨rfl, M66⟩; have M14 := M7.call M66.below) | (refine wpList_strowN s26 rfl rfl rfl rfl M14 (Swap.tail (Swap.tail Swap.head)) rfl (nameL_length _) (fun w14 M15 => ?_); clear M14; (conv => arg 5; simp only [Act.put, List.setIfInBounds_toArray, List.set_cons_succ, List.set_cons_zero])))
    ((try simp only [Exit.inBlock, Exit.then]); apply ret_rowN Try.underlying26 s26; (· rfl); (· rfl); (· rfl); (· rfl); (· assumption); (· (repeat (first | exact List.mem_cons_self | refine List.mem_cons_of_mem _ ?_))); (· (first | with_reducible assumption | omega | (simp only [nums_length, List.length_set, List.length_replicate]; first | with_reducible assumption | omega) | rfl | (simp [*]; done) | (simp [*]; omega))); skip)
    have M16 := M15.sub (List.nil_sublist _)
    exact ⟨rfl, A, c, by rw [putL, if_pos hin]; exact (HT.out.below M16.below).mono (fun _ h => .inl h), M16.mono0 _, fun b hb => .inl hb⟩
  · have hix := List.idxOf_eq_length hin
    have HNO := hid (fun hh => hin (HMS.out.1 hh))
    go_enter Try.func39, Try.ntmps39
    go_wp2_with ((first | (apply wpList_alN z26 8; (· rfl); (· rfl); (· rfl); (· exact M0); intro b8 w1 M1; (conv => arg 5; simp only [Act.put, List.setIfInBounds_toArray, List.set_cons_succ, List.set_cons_zero])) | (go_at_call 44; refine (Clone44 B d t.keys _ HTO.out.ks (HR.out.mem M1) HN.out HTO.out.kl).mono ?_; rintro e w2 ⟨B2, d2, rfl, hd2, hn2, _, M2⟩; have M3 := M1.join M2; have HD2 := hid hd2; have HN2 := hid hn2; clear hd2 hn2 M2 M1 M0) | (refine wpList_al rfl rfl M3 z95 rfl (fun b9 w4 M4 => ?_); clear M3; (conv => arg 5; simp only [Act.put, List.setIfInBounds_toArray, List.set_cons_succ, List.set_cons_zero])) | (refine wpList_strow (vs := [.int .i64 t.kind, .string t.text, .slice B2 t.keys.length d2]) rfl rfl rfl rfl M4 Swap.head sz95 rfl (by simp [Value.oneCell']) (fun w5 M5 => ?_); clear M4; (conv => arg 5; simp only [Act.put, List.setIfInBounds_toArray, List.set_cons_succ, List.set_cons_zero])) | (refine wpList_ldrow rfl rfl Try.underlying95 rfl rfl M5 List.mem_cons_self sz95 ?_; (conv => arg 5; simp only [Act.put, List.setIfInBounds_toArray, List.set_cons_succ, List.set_cons_zero])) | (go_at_call 65; refine (shape65 t.kind t.text B2 d2 t.keys _ HTO.out.k0 HTO.out.k1 HTO.out.tx HTO.out.kl HTO.out.ks (M5.vecT (List.mem_cons_of_mem _ List.mem_cons_self))).mono ?_; rintro e w6 ⟨rfl, M6⟩; have M7 := M5.call M6.below; have hcg := M7.cell0 HCG.out; have hcm := M7.cell0 HCM.out; have HM7 := hid (show w6.heap[mb]? = some (mapO (ts.map shapeS)) from by rw [M7.old mb (Array.getElem?_eq_some_iff.1 HMB.out).1 (by simp)]; exact HMB.out); clear M5 M6) | (refine wpList_lkNo 26 rfl Try.underlying86 Try.underlying9 z3 rfl rfl rfl (s := shapeS t) rfl HSS.out HSZ.out HNO.out HM7.out ?_; (conv => arg 5; simp only [Act.put, List.setIfInBounds_toArray, List.set_cons_succ, List.set_cons_zero])) | (refine wpList_lkYes 26 rfl (ts.idxOf t) Try.underlying86 Try.underlying9 rfl rfl rfl (s := shapeS t) rfl HSS.out HND.out HI.out HM7.out ?_; (conv => arg 5; simp only [Act.put, List.setIfInBounds_toArray, List.set_cons_succ, List.set_cons_zero]))))
    generalize hsl : strOfNums (shapeL t.kind t.text t.keys) = sl
    have hs1 : shapeS t = sl := hsl
    refine wp_region_planS (fun w' => ∃ x, Mem w (TabE g mb A) w' [.blk g (cellsO 88 [x, .map (some mb)]), .blk b9 (cellsO 95 [.int .i64 t.kind, .string t.text, .slice B2 t.keys.length d2])]) (.free 0 (.free 1 (.free 2 (.free 3 (.free 4 (.free 5 (.free 6 (.free 7 (.free 8 (.free 9 (.free 11 (.two 10 (.one 12 (.one 13 (.one 14 (.free 15 (.one 16 (.free 17 (.free 18 (.one 19 (.done))))))))) 12 (.one 10 (.one 13 (.one 14 (.free 15 (.one 16 (.free 17 (.free 18 (.one 19 (.done))))))))))))))))))))) (by kernel_rfl) (by kernel_rfl) (fun _ _ _ _ _ h => h) (fun w7 hb7 => ?_)
    have HB2 := hid (M7.vec_fresh (List.mem_cons_of_mem _ List.mem_cons_self))
    obtain ⟨cs, hcs, M8⟩ := HT.out.items (M7.call hb7)
    clear M7 hcg hcm hb7 HM7
    have hcg := M8.cell (i := 0) List.mem_cons_self rfl
    have SX : ∃ x, Mem w (TabE g mb A) w7 [.blk g (cellsO 88 [x, .map (some mb)]), .blk b9 (cellsO 95 [.int .i64 t.kind, .string t.text, .slice B2 t.keys.length d2])] := ⟨_, M8.sub (List.Sublist.cons_cons _ (List.Sublist.cons _ (List.Sublist.cons _ (List.Sublist.cons_cons _ (List.nil_sublist _)))))⟩
    iterate 3 (refine wpT_free rfl rfl (.inl ⟨rfl, fun w _ => by go_simp; rfl⟩) (by assumption) ?_; (conv => arg 6; simp only [Act.put, List.setIfInBounds_toArray, List.set_cons_succ, List.set_cons_zero]))
    refine wpT_free rfl rfl (.inl ⟨rfl, fun w ⟨x, hw⟩ => run_ld1 Try.underlying86 rfl rfl rfl (hw.cell List.mem_cons_self (i := 1) rfl)⟩) (by assumption) ?_; (conv => arg 6; simp only [Act.put, List.setIfInBounds_toArray, List.set_cons_succ, List.set_cons_zero])
    iterate 6 (refine wpT_free rfl rfl (.inl ⟨rfl, fun w _ => by go_simp; rfl⟩) (by assumption) ?_; (conv => arg 6; simp only [Act.put, List.setIfInBounds_toArray, List.set_cons_succ, List.set_cons_zero]))
    refine wpT_free rfl rfl (.inl ⟨rfl, fun w ⟨x, hw⟩ => run_ldrowC Try.underlying95 sz95 rfl rfl rfl hw (List.mem_cons_of_mem _ List.mem_cons_self)⟩) (by assumption) ?_; (conv => arg 6; simp only [Act.put, List.setIfInBounds_toArray, List.set_cons_succ, List.set_cons_zero])
    have hs2 := HSZ.out
    have hs3 := HNO.out
    rw [hs1] at hs2 hs3
    refine wpT_two rfl rfl ?_ ?_
    · refine wpList_ldc 46 rfl rfl rfl Try.underlying45 rfl rfl hcg ?_; (conv => arg 5; simp only [Act.put, List.setIfInBounds_toArray, List.set_cons_succ, List.set_cons_zero])
      go_wp2_with fail
      refine PlanTQ.mk SX (wpT_op rfl ?_)
      refine wpList_bsT1 48 rfl rfl rfl rfl M8 (fun b48 w8 M9 => ?_); (conv => arg 5; simp only [Act.put, List.setIfInBounds_toArray, List.set_cons_succ, List.set_cons_zero])
      go_wp2_with fail
      clear SX M8 hcg
      have SX2 : ∃ x, Mem w (TabE g mb A) w8 [.blk g (cellsO 88 [x, .map (some mb)]), .blk b9 (cellsO 95 [.int .i64 t.kind, .string t.text, .slice B2 t.keys.length d2])] := ⟨_, M9.sub (List.Sublist.cons _ (List.Sublist.cons_cons _ (List.Sublist.cons _ (List.Sublist.cons _ (List.Sublist.cons_cons _ (List.nil_sublist _))))))⟩
      refine PlanTQ.mk SX2 (wpT_op rfl ?_)
      refine wpList_appSm 49 rfl Try.underlying45 i95' rfl (by decide) rfl rfl rfl rfl M9 (fun A' cap' => Swap.tail (Swap.tail (Swap.tail Swap.head))) (M9.blkT List.mem_cons_self) rfl (by simp [Value.oneCell']) (by omega) (by omega) (fun A2 c2 w9 M10 => ?_); (conv => arg 5; simp only [Act.put, List.setIfInBounds_toArray, List.set_cons_succ, List.set_cons_zero])
      go_wp2_with fail
      have SX3 : ∃ x, Mem w (TabE g mb A) w9 [.blk g (cellsO 88 [x, .map (some mb)]), .blk b9 (cellsO 95 [.int .i64 t.kind, .string t.text, .slice B2 t.keys.length d2])] := ⟨_, M10.sub (List.Sublist.cons _ (List.Sublist.cons_cons _ (List.Sublist.cons _ (List.Sublist.cons _ (List.Sublist.cons_cons _ (List.nil_sublist _))))))⟩
      clear M9 SX2
      refine PlanTQ.mk SX3 (wpT_op rfl ?_)
      refine wpList_entry 50 rfl Try.underlying86 Try.underlying9 z3 rfl rfl rfl rfl HSS.out hs2 hs3 M10 (Swap.tail (Swap.tail Swap.head)) (fun w10 M11 => ?_); (conv => arg 5; simp only [Act.put, List.setIfInBounds_toArray, List.set_cons_succ, List.set_cons_zero])
      go_wp2_with fail
      have SX4 : ∃ x, Mem w (TabE g mb A) w10 [.blk g (cellsO 88 [x, .map (some mb)]), .blk b9 (cellsO 95 [.int .i64 t.kind, .string t.text, .slice B2 t.keys.length d2])] := ⟨_, M11.sub (List.Sublist.cons _ (List.Sublist.cons_cons _ (List.Sublist.cons _ (List.Sublist.cons _ (List.Sublist.cons_cons _ (List.nil_sublist _))))))⟩
      clear M10 SX3
      refine PlanTQ.mk SX4 ?_
      (refine wpT_free rfl rfl (.inl ⟨rfl, fun w _ => by go_simp; rfl⟩) (by assumption) ?_; (conv => arg 6; simp only [Act.put, List.setIfInBounds_toArray, List.set_cons_succ, List.set_cons_zero]))
      refine wpT_op rfl ?_
      refine wpList_estore rfl rfl rfl (ks := ts.map shapeS) (s := sl) (List.length_map _) rfl rfl M11 (Swap.tail (Swap.tail Swap.head)) (fun w11 M12 => ?_); (conv => arg 5; simp only [Act.put, List.setIfInBounds_toArray, List.set_cons_succ, List.set_cons_zero])
      go_wp2_with fail
      have SX5 : ∃ x, Mem w (TabE g mb A) w11 [.blk g (cellsO 88 [x, .map (some mb)]), .blk b9 (cellsO 95 [.int .i64 t.kind, .string t.text, .slice B2 t.keys.length d2])] := ⟨_, M12.sub (List.Sublist.cons _ (List.Sublist.cons_cons _ (List.Sublist.cons _ (List.Sublist.cons _ (List.Sublist.cons_cons _ (List.nil_sublist _))))))⟩
      clear M11 SX4
      refine PlanTQ.mk SX5 ?_
      iterate 2 (refine wpT_free rfl rfl (.inl ⟨rfl, fun w _ => by go_simp; rfl⟩) (by assumption) ?_; (conv => arg 6; simp only [Act.put, List.setIfInBounds_toArray, List.set_cons_succ, List.set_cons_zero]))
      refine wpT_op rfl ?_
      refine wpList_stM (v := .slice A2 (ts.length + 1) c2) rfl rfl s45 rfl rfl rfl M12 (Swap.tail Swap.head) (by simp) (fun w12 M13 => ?_); (conv => arg 5; simp only [Act.put, List.setIfInBounds_toArray, List.set_cons_succ, List.set_cons_zero])
      go_wp2_with fail
      have SX6 : ∃ x, Mem w (TabE g mb A) w12 [.blk g (cellsO 88 [x, .map (some mb)]), .blk b9 (cellsO 95 [.int .i64 t.kind, .string t.text, .slice B2 t.keys.length d2])] := ⟨_, M13.sub (List.Sublist.cons _ (List.Sublist.cons_cons _ (List.Sublist.cons _ (List.Sublist.cons _ (List.Sublist.cons_cons _ (List.nil_sublist _))))))⟩
      clear M12 SX5
      refine PlanTQ.mk SX6 (wpT_done ?_)
      clear SX6
      go_wp2_with (first | (go_at_call 66; refine (name66 (ts.length : Int) _ (by omega) (by omega)).mono ?_; rintro e w13 ⟨rfl, M66⟩; have M14 := M13.call M66.below; clear M13) | (refine wpList_strowN s26 rfl rfl rfl rfl M14 (Swap.tail (Swap.tail (Swap.tail (Swap.tail (Swap.tail (Swap.tail Swap.head)))))) rfl (nameL_length _) (fun w14 M15 => ?_); clear M14; (conv => arg 5; simp only [Act.put, List.setIfInBounds_toArray, List.set_cons_succ, List.set_cons_zero])))
      ((try simp only [Exit.inBlock, Exit.then]); apply ret_rowN Try.underlying26 s26; (· rfl); (· rfl); (· rfl); (· rfl); (· assumption); (· (repeat (first | exact List.mem_cons_self | refine List.mem_cons_of_mem _ ?_))); (· (first | with_reducible assumption | omega | (simp only [nums_length, List.length_set, List.length_replicate]; first | with_reducible assumption | omega) | rfl | (simp [*]; done) | (simp [*]; omega))); skip)
      subst hs1
      exact ⟨by rw [hix], TabP.push HT.out HTO.out hin hf hcs HB2.out HD2.out HN2.out M15 (List.mem_cons_of_mem _ List.mem_cons_self) (List.mem_cons_of_mem _ (List.mem_cons_of_mem _ List.mem_cons_self)) (List.mem_cons_of_mem _ (List.mem_cons_of_mem _ (List.mem_cons_of_mem _ List.mem_cons_self))) (List.mem_cons_of_mem _ (List.mem_cons_of_mem _ (List.mem_cons_of_mem _ (List.mem_cons_of_mem _ (List.mem_cons_of_mem _ List.mem_cons_self)))))⟩
    · refine wpList_bsT1 48 rfl rfl rfl rfl M8 (fun b48 w8 M9 => ?_); (conv => arg 5; simp only [Act.put, List.setIfInBounds_toArray, List.set_cons_succ, List.set_cons_zero])
      go_wp2_with fail
      clear SX M8 hcg
      have SX1 : ∃ x, Mem w (TabE g mb A) w8 [.blk g (cellsO 88 [x, .map (some mb)]), .blk b9 (cellsO 95 [.int .i64 t.kind, .string t.text, .slice B2 t.keys.length d2])] := ⟨_, M9.sub (List.Sublist.cons _ (List.Sublist.cons_cons _ (List.Sublist.cons _ (List.Sublist.cons _ (List.Sublist.cons_cons _ (List.nil_sublist _))))))⟩
      have hcg := M9.cell (i := 0) (List.mem_cons_of_mem _ List.mem_cons_self) rfl
      refine PlanTQ.mk SX1 (wpT_op rfl ?_)
      refine wpList_ldc 46 rfl rfl rfl Try.underlying45 rfl rfl hcg ?_; (conv => arg 5; simp only [Act.put, List.setIfInBounds_toArray, List.set_cons_succ, List.set_cons_zero])
      go_wp2_with fail
      clear SX1 hcg
      have SX2 : ∃ x, Mem w (TabE g mb A) w8 [.blk g (cellsO 88 [x, .map (some mb)]), .blk b9 (cellsO 95 [.int .i64 t.kind, .string t.text, .slice B2 t.keys.length d2])] := ⟨_, M9.sub (List.Sublist.cons _ (List.Sublist.cons_cons _ (List.Sublist.cons _ (List.Sublist.cons _ (List.Sublist.cons_cons _ (List.nil_sublist _))))))⟩
      refine PlanTQ.mk SX2 (wpT_op rfl ?_)
      refine wpList_appSm 49 rfl Try.underlying45 i95' rfl (by decide) rfl rfl rfl rfl M9 (fun A' cap' => Swap.tail (Swap.tail (Swap.tail Swap.head))) (M9.blkT List.mem_cons_self) rfl (by simp [Value.oneCell']) (by omega) (by omega) (fun A2 c2 w9 M10 => ?_); (conv => arg 5; simp only [Act.put, List.setIfInBounds_toArray, List.set_cons_succ, List.set_cons_zero])
      go_wp2_with fail
      have SX3 : ∃ x, Mem w (TabE g mb A) w9 [.blk g (cellsO 88 [x, .map (some mb)]), .blk b9 (cellsO 95 [.int .i64 t.kind, .string t.text, .slice B2 t.keys.length d2])] := ⟨_, M10.sub (List.Sublist.cons _ (List.Sublist.cons_cons _ (List.Sublist.cons _ (List.Sublist.cons _ (List.Sublist.cons_cons _ (List.nil_sublist _))))))⟩
      clear M9 SX2
      refine PlanTQ.mk SX3 (wpT_op rfl ?_)
      refine wpList_entry 50 rfl Try.underlying86 Try.underlying9 z3 rfl rfl rfl rfl HSS.out hs2 hs3 M10 (Swap.tail (Swap.tail Swap.head)) (fun w10 M11 => ?_); (conv => arg 5; simp only [Act.put, List.setIfInBounds_toArray, List.set_cons_succ, List.set_cons_zero])
      go_wp2_with fail
      have SX4 : ∃ x, Mem w (TabE g mb A) w10 [.blk g (cellsO 88 [x, .map (some mb)]), .blk b9 (cellsO 95 [.int .i64 t.kind, .string t.text, .slice B2 t.keys.length d2])] := ⟨_, M11.sub (List.Sublist.cons _ (List.Sublist.cons_cons _ (List.Sublist.cons _ (List.Sublist.cons _ (List.Sublist.cons_cons _ (List.nil_sublist _))))))⟩
      clear M10 SX3
      refine PlanTQ.mk SX4 ?_
      (refine wpT_free rfl rfl (.inl ⟨rfl, fun w _ => by go_simp; rfl⟩) (by assumption) ?_; (conv => arg 6; simp only [Act.put, List.setIfInBounds_toArray, List.set_cons_succ, List.set_cons_zero]))
      refine wpT_op rfl ?_
      refine wpList_estore rfl rfl rfl (ks := ts.map shapeS) (s := sl) (List.length_map _) rfl rfl M11 (Swap.tail (Swap.tail Swap.head)) (fun w11 M12 => ?_); (conv => arg 5; simp only [Act.put, List.setIfInBounds_toArray, List.set_cons_succ, List.set_cons_zero])
      go_wp2_with fail
      have SX5 : ∃ x, Mem w (TabE g mb A) w11 [.blk g (cellsO 88 [x, .map (some mb)]), .blk b9 (cellsO 95 [.int .i64 t.kind, .string t.text, .slice B2 t.keys.length d2])] := ⟨_, M12.sub (List.Sublist.cons _ (List.Sublist.cons_cons _ (List.Sublist.cons _ (List.Sublist.cons _ (List.Sublist.cons_cons _ (List.nil_sublist _))))))⟩
      clear M11 SX4
      refine PlanTQ.mk SX5 ?_
      iterate 2 (refine wpT_free rfl rfl (.inl ⟨rfl, fun w _ => by go_simp; rfl⟩) (by assumption) ?_; (conv => arg 6; simp only [Act.put, List.setIfInBounds_toArray, List.set_cons_succ, List.set_cons_zero]))
      refine wpT_op rfl ?_
      refine wpList_stM (v := .slice A2 (ts.length + 1) c2) rfl rfl s45 rfl rfl rfl M12 (Swap.tail Swap.head) (by simp) (fun w12 M13 => ?_); (conv => arg 5; simp only [Act.put, List.setIfInBounds_toArray, List.set_cons_succ, List.set_cons_zero])
      go_wp2_with fail
      have SX6 : ∃ x, Mem w (TabE g mb A) w12 [.blk g (cellsO 88 [x, .map (some mb)]), .blk b9 (cellsO 95 [.int .i64 t.kind, .string t.text, .slice B2 t.keys.length d2])] := ⟨_, M13.sub (List.Sublist.cons _ (List.Sublist.cons_cons _ (List.Sublist.cons _ (List.Sublist.cons _ (List.Sublist.cons_cons _ (List.nil_sublist _))))))⟩
      clear M12 SX5
      refine PlanTQ.mk SX6 (wpT_done ?_)
      clear SX6
      go_wp2_with (first | (go_at_call 66; refine (name66 (ts.length : Int) _ (by omega) (by omega)).mono ?_; rintro e w13 ⟨rfl, M66⟩; have M14 := M13.call M66.below; clear M13) | (refine wpList_strowN s26 rfl rfl rfl rfl M14 (Swap.tail (Swap.tail (Swap.tail (Swap.tail (Swap.tail (Swap.tail Swap.head)))))) rfl (nameL_length _) (fun w14 M15 => ?_); clear M14; (conv => arg 5; simp only [Act.put, List.setIfInBounds_toArray, List.set_cons_succ, List.set_cons_zero])))
      ((try simp only [Exit.inBlock, Exit.then]); apply ret_rowN Try.underlying26 s26; (· rfl); (· rfl); (· rfl); (· rfl); (· assumption); (· (repeat (first | exact List.mem_cons_self | refine List.mem_cons_of_mem _ ?_))); (· (first | with_reducible assumption | omega | (simp only [nums_length, List.length_set, List.length_replicate]; first | with_reducible assumption | omega) | rfl | (simp [*]; done) | (simp [*]; omega))); skip)
      subst hs1
      exact ⟨by rw [hix], TabP.push HT.out HTO.out hin hf hcs HB2.out HD2.out HN2.out M15 (List.mem_cons_of_mem _ List.mem_cons_self) (List.mem_cons_of_mem _ (List.mem_cons_of_mem _ List.mem_cons_self)) (List.mem_cons_of_mem _ (List.mem_cons_of_mem _ (List.mem_cons_of_mem _ List.mem_cons_self))) (List.mem_cons_of_mem _ (List.mem_cons_of_mem _ (List.mem_cons_of_mem _ (List.mem_cons_of_mem _ (List.mem_cons_of_mem _ List.mem_cons_self)))))⟩
end Go.Proofs.Ytcapfnbmmdbcoaa
