/- An argument that is an array of two structs of four numbers each, opened. -/
import Derived.Test.YtdlfbpdcligecaaLawN
import Derived.Lib.SmallJoins
namespace Go.Proofs.Ytdlfbpdcligecaa
open Go.ChangeShapes Go.WideShapes Go.ChangeAt Go.RowKit
set_option linter.unusedVariables false

theorem arr8 (cs : Array Value) (h : cs.size = 8) : ∃ c0 c1 c2 c3 c4 c5 c6 c7, cs = #[c0, c1, c2, c3, c4, c5, c6, c7] := by
  obtain ⟨l⟩ := cs
  match l, h with
  | [c0, c1, c2, c3, c4, c5, c6, c7], _ => exact ⟨c0, c1, c2, c3, c4, c5, c6, c7, rfl⟩

theorem open_two {H : Type} {enc : TypeId × Value → H} {P : Program} {W : World} {base : Nat} {t e ti : TypeId} {v : Value} {d : DataW H} {p : List MemPlace} {f0 f1 f2 f3 : Field}
    (ht : P.underlying t = some (.array 2 e)) (he : P.underlying e = some (.struct #[f0, f1, f2, f3])) (hi : P.underlying ti = some (.int .i64)) (hct : P.cellsOf t = 8) (hce : P.cellsOf e = 4) (hci : P.cellsOf ti = 1)
    (h0 : f0.type = ti ∧ f0.offset = 0) (h1 : f1.type = ti ∧ f1.offset = 1) (h2 : f2.type = ti ∧ f2.offset = 2) (h3 : f3.type = ti ∧ f3.offset = 3)
    (hval : Value.okWide P W .any base t v) (hd : DataW.Trod enc P W 0 (fun _ => true) true t v d p) :
    ∃ a b c d' a' b' c' d'' : Int, v = .agg #[.int .i64 a, .int .i64 b, .int .i64 c, .int .i64 d', .int .i64 a', .int .i64 b', .int .i64 c', .int .i64 d''] ∧
      (Lit.int .i64 a).wf = true ∧ (Lit.int .i64 b).wf = true ∧ (Lit.int .i64 c).wf = true ∧ (Lit.int .i64 d').wf = true ∧ (Lit.int .i64 a').wf = true ∧ (Lit.int .i64 b').wf = true ∧ (Lit.int .i64 c').wf = true ∧ (Lit.int .i64 d'').wf = true := by
  obtain ⟨cs, rfl, hcs⟩ : ∃ cs, v = .agg cs ∧ cs.size = 8 := by
    simp only [Value.okWide, ht] at hval
    obtain ⟨cs, h1, h2, _⟩ := hval
    exact ⟨cs, h1, h2.trans hct⟩
  obtain ⟨c0, c1, c2, c3, c4, c5, c6, c7, rfl⟩ := arr8 cs hcs
  obtain ⟨fuel, hf⟩ := hd
  obtain ⟨xs, m, _, hx, hl, hlen, hel⟩ := DataW.trod_array ht hf
  have e0 := hel 0 (by omega)
  have e1 := hel 1 (by omega)
  rw [hce] at e0 e1
  match xs, hlen with
  | [x0, x1], _ =>
    obtain ⟨y0, y1, y2, y3, n, _, _, k0, k1, k2, k3⟩ := Joins.trod_struct4 he e0
    obtain ⟨z0, z1, z2, z3, n', _, _, q0, q1, q2, q3⟩ := Joins.trod_struct4 he e1
    rw [h0.1, h0.2, hci] at k0 q0
    rw [h1.1, h1.2, hci] at k1 q1
    rw [h2.1, h2.2, hci] at k2 q2
    rw [h3.1, h3.2, hci] at k3 q3
    obtain ⟨a, ea, _, wa⟩ := DataW.trod_int hi k0
    obtain ⟨b, eb, _, wb⟩ := DataW.trod_int hi k1
    obtain ⟨c, ec, _, wc⟩ := DataW.trod_int hi k2
    obtain ⟨d1, ed, _, wd⟩ := DataW.trod_int hi k3
    obtain ⟨a2, ea2, _, wa2⟩ := DataW.trod_int hi q0
    obtain ⟨b2, eb2, _, wb2⟩ := DataW.trod_int hi q1
    obtain ⟨c2', ec2, _, wc2⟩ := DataW.trod_int hi q2
    obtain ⟨d2, ed2, _, wd2⟩ := DataW.trod_int hi q3
    simp [Value.cells] at ea eb ec ed ea2 eb2 ec2 ed2
    subst ea eb ec ed ea2 eb2 ec2 ed2
    exact ⟨a, b, c, d1, a2, b2, c2', d2, rfl, wa, wb, wc, wd, wa2, wb2, wc2, wd2⟩
end Go.Proofs.Ytdlfbpdcligecaa
