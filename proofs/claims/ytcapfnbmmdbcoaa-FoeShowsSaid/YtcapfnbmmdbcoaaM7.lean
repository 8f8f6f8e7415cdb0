/- What an operation yields, in every world in which the memory reads so; more arms for a plan. -/
import Derived.Test.YtcapfnbmmdbcoaaM6
set_option linter.unusedVariables false
set_option linter.unusedSimpArgs false
namespace Go.Proofs.Ytcapfnbmmdbcoaa
open Go.RowKit
section
variable {P : Program} {o : Oper} {a : Act} {w w0 : World} {E : List Nat} {L : List Item}
theorem run_cvS {src dst e : TypeId} (hs : P.underlying src = some (.slice e)) (he : P.underlying e = some (.int .u8)) (hd : P.underlying dst = some .string) {x : Operand} (ho : o.op = .convert src dst x)
    {g off len cap : Nat} (hx : a.eval x = .slice (some ⟨g, off, none⟩) len cap) (M : Mem w0 E w L) {t : TypeId} {xs : List Int} (hin : .blk g (rowO .u8 t xs) ∈ L) (hl : off + len ≤ xs.length) :
    (execOp a.eval o).run P w = .ok (.value (.string (strOfNums ((xs.drop off).take len)))) w := by
  have hr := run_convert_bytes_arg (P := P) w src e hs he g off len cap ((xs.drop off).take len) (by simp; omega) (fun i hi => by
    rw [M.cellN hin (by omega)]
    simp [rd, List.getD_eq_getElem?_getD, hi]) dst hd
  unfold execOp
  simp only [ho, hx, Sem.run_bind, Sem.run_pure, Result.andThen_ok, hr]
theorem run_slE {t e : TypeId} {n : Nat} (hu : P.underlying t = some (.array n e)) (hsz : (P.info? e).map (·.size) = some 1) {x lo : Operand} (ho : o.op = .slice t x (some lo) none none) {g off : Nat}
    (hx : a.eval x = .pointer (some ⟨g, off, none⟩)) {k1 : IntKind} {l : Int} (hl : a.eval lo = .int k1 l) (h0 : 0 ≤ l) (h3 : l < n) (w : World) :
    (execOp a.eval o).run P w = .ok (.value (.slice (some ⟨g, off + l.toNat, none⟩) (n - l.toNat) (n - l.toNat))) w := by
  have hr : (Instr.sliceAt t (.pointer (some ⟨g, off, none⟩)) (some (.int k1 l)) none none).run P w = .ok (.slice (some ⟨g, off + l.toNat, none⟩) (n - l.toNat) (n - l.toNat)) w := by
    obtain ⟨i, hi, his⟩ := Option.map_eq_some_iff.1 hsz
    obtain ⟨l', rfl⟩ := Int.eq_ofNat_of_zero_le h0
    have e2 : l' ≤ n := by omega
    have e3 : ¬ n = l' := by omega
    have e4 : (⟨g, off, none⟩ : Addr).add l' = ⟨g, off + l', none⟩ := Addr.add_lit g off l'
    simp [Instr.sliceAt, run_underlying hu, Instr.sureAddr, Instr.sliceBounds, Instr.sliceBound, asIntOf, e2, sizeOf, typeInfo, hi, his, e3, e4]
  unfold execOp
  simp only [ho, hx, hl, Option.map_some, Option.map_none, Sem.run_bind, Sem.run_pure, Result.andThen_ok, hr]
theorem run_slW {t e : TypeId} {n : Nat} (hu : P.underlying t = some (.array n e)) (hsz : (P.info? e).map (·.size) = some 1) (hn : n ≠ 0) {x : Operand} (ho : o.op = .slice t x none none none) {g off : Nat}
    (hx : a.eval x = .pointer (some ⟨g, off, none⟩)) (w : World) :
    (execOp a.eval o).run P w = .ok (.value (.slice (some ⟨g, off, none⟩) n n)) w := by
  have hr : (Instr.sliceAt t (.pointer (some ⟨g, off, none⟩)) none none none).run P w = .ok (.slice (some ⟨g, off, none⟩) n n) w := by
    obtain ⟨i, hi, his⟩ := Option.map_eq_some_iff.1 hsz
    simp [Instr.sliceAt, run_underlying hu, Instr.sureAddr, Instr.sliceBounds, sizeOf, typeInfo, hi, his, hn, Addr.add_zero']
  unfold execOp
  simp only [ho, hx, Option.map_none, Sem.run_bind, Sem.run_pure, Result.andThen_ok, hr]
end
end Go.Proofs.Ytcapfnbmmdbcoaa
