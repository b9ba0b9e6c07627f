/- Arguments of a law, opened: slices of numbers; numbers in their bounds. -/
import Derived.Test.YtdlfbpdcligecaaLaw
namespace Go.Proofs.Ytdlfbpdcligecaa
open Go.ChangeShapes Go.WideShapes Go.ChangeAt Go.RowKit
set_option linter.unusedVariables false

/-- a row of numbers in memory -/
def Nums (k : IntKind) (w : World) (a : Option Addr) (xs : List Int) : Prop := ∀ i (h : i < xs.length), ∃ b off, a = some ⟨b, off, none⟩ ∧ w.cell? ⟨b, off + i, none⟩ = some (.int k xs[i])
theorem Nums.below {k : IntKind} {w w' : World} {a : Option Addr} {xs : List Int} (h : Nums k w a xs) (hb : Below w.heap.size w w') : Nums k w' a xs := by
  intro i hi
  obtain ⟨b, off, rfl, hc⟩ := h i hi
  exact ⟨b, off, rfl, by rw [hb.cell (cell_lt hc)]; exact hc⟩
theorem Nums.of_cells {k : IntKind} {w : World} {a : Addr} {xs : List Int} (h : ∀ i (hi : i < xs.length), w.cell? (a.add i) = some (.int k xs[i])) : Nums k w (some a) xs := by
  intro i hi
  have h0 := h 0 (by omega)
  have hs : a.spot = none := by
    have : a.add 0 = a := by unfold Addr.add; rw [if_pos rfl]
    rw [this] at h0; exact cell_spot h0
  refine ⟨a.block, a.off, by cases a; simp_all, ?_⟩
  have := h i hi
  have ha : a.add i = ⟨a.block, a.off + i, none⟩ := by
    unfold Addr.add
    split
    · rename_i e; subst e; cases a; simp_all
    · cases a; simp_all
  rw [← ha]; exact this

theorem open_nums {H : Type} {enc : TypeId × Value → H} {W : World} {base : Nat} {t e : TypeId} {v : Value} {d : DataW H} {p : List MemPlace} {k : IntKind} {z : Nat} (ht : Try.prog.underlying t = some (.slice e)) (he : Try.prog.underlying e = some (.int k)) (hc : Try.prog.cellsOf e = 1)
    (hbytes : Try.prog.bytesOf e = z) (hval : Value.okWide Try.prog W .any base t v) (h0 : DataW.Trod enc Try.prog W 0 (fun _ => true) true t v d p) (hw : ∀ n ∈ d.weights Try.prog t, n ≤ reachBytes) :
    ∃ a xs cap, v = .slice a xs.length cap ∧ Nums k W a xs ∧ (∀ x ∈ xs, (Lit.int k x).wf = true) ∧ xs.length * z ≤ 140737488351232 := by
  obtain ⟨a0, len, cap, rfl⟩ := okWide_slice ht hval
  obtain ⟨fuel, hf⟩ := h0
  rcases open_ints ht he hc hf with ⟨hcs, hx⟩ | ⟨a, len', cap', zs, hcs, _, hl, hm, hz, hx, hcell, hwz⟩
  · have : a0 = none ∧ len = 0 ∧ cap = 0 := by simpa [Value.cells] using hcs
    obtain ⟨rfl, rfl, rfl⟩ := this
    exact ⟨none, [], 0, rfl, fun i hi => by simp at hi, fun i hi => by simp at hi, by simp⟩
  · have : a0 = some a ∧ len = len' ∧ cap = cap' := by simpa [Value.cells] using hcs
    obtain ⟨rfl, rfl, rfl⟩ := this
    have hz' : zs.length = cap := by rw [hz]; simp
    have hd : d = .slice (lits k (zs.take len)) (lits k (zs.drop len)) := by simpa using congrArg Prod.fst hx
    subst hd
    have hlen : (zs.take len).length = len := by simp; omega
    refine ⟨some a, zs.take len, cap, by rw [hlen], Nums.of_cells fun i hi => ?_, fun x hx => hwz x (List.mem_of_mem_take hx), ?_⟩
    · have hi' : i < zs.length := by simp at hi; omega
      rw [hcell i hi']
      simp [List.getD, hi']
    · have hmem : ((lits k (zs.take len) : List (DataW H)).length + (lits k (zs.drop len) : List (DataW H)).length) * Try.prog.bytesOf e ∈ (DataW.slice (lits k (zs.take len)) (lits k (zs.drop len)) : DataW H).weights Try.prog t := by
        simp [DataW.weights, ht]
      have := hw _ hmem
      simp only [lits, List.length_map, hbytes] at this
      unfold reachBytes at this
      refine Nat.le_trans (Nat.mul_le_mul_right z ?_) this
      exact Nat.le_add_right _ _

theorem i64_range {x : Int} (h : (Lit.int .i64 x).wf = true) : -9223372036854775808 ≤ x ∧ x ≤ 9223372036854775807 := by simpa [Lit.wf, IntKind.min, IntKind.max, IntKind.signed, IntKind.bits] using h
theorem u16_range {x : Int} (h : (Lit.int .u16 x).wf = true) : 0 ≤ x ∧ x ≤ 65535 := by simpa [Lit.wf, IntKind.min, IntKind.max, IntKind.signed, IntKind.bits] using h
theorem u8_range {x : Int} (h : (Lit.int .u8 x).wf = true) : 0 ≤ x ∧ x ≤ 255 := by simpa [Lit.wf, IntKind.min, IntKind.max, IntKind.signed, IntKind.bits] using h
end Go.Proofs.Ytdlfbpdcligecaa
