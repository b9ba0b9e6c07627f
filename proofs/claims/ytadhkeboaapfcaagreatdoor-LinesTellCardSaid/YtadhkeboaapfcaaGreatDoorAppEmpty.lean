/- append onto an empty slice of the call's own: nothing that was there is changed. -/
import Derived.Test.YtadhkeboaapfcaaGreatDoorAppend
import Derived.ArgAppend
namespace Go.Proofs.YtadhkeboaapfcaaGreatDoor
open Go.RowKit
set_option linter.unusedSimpArgs false
set_option linter.unusedVariables false

section
variable {P : Program} {w : World}
theorem run_append_zero (t ty e : TypeId) (i : TypeInfo) (ht : P.underlying t = some (.slice e)) (hi : P.info? e = some i) (b a : Option Addr) (c : Nat) :
    (Builtin.append_ #[t, t] ty #[.slice b 0 0, .slice a 0 c]).run P w = .ok (.slice b 0 0) w := by
  cases a <;> cases b <;> simp [Builtin.append_, run_underlying ht, sizeOf, typeInfo, hi, Builtin.lenOf, Builtin.firstCells, storeCells, loadCells, loadCellsFrom]
/-- the result is the call's own, from B on; w.heap.size is a bound of what was there -/
theorem run_append_empty (B : Nat) (t ty e : TypeId) (i : TypeInfo) (z : Value) (bytes : Nat) (ht : P.underlying t = some (.slice e)) (hi : P.info? e = some i) (hz : i.zero = some z)
    (hsize : i.size = 1) (hby : i.bytes = bytes) (hzs : z.cells.size = 1) (b : Option Addr) (hown : w.ownsRow B e 1 (.slice b 0 0) 0 [])
    (a : Option Addr) (c : Nat) (news : List Value) (hr : Row1 w a news) (h1 : ∀ u ∈ news, u.oneCell' = true) (h63 : news.length ≤ maxLen) (hbytes : news.length * bytes ≤ 140737488355328) (hB : B ≤ w.heap.size) :
    ∃ v' w', (Builtin.append_ #[t, t] ty #[.slice b 0 0, .slice a news.length c]).run P w = .ok v' w' ∧ w'.ownsRow B e 1 v' news.length news ∧ Below w.heap.size w w' := by
  cases news with
  | nil => exact ⟨_, w, run_append_zero t ty e i ht hi b a c, hown, Below.refl _ _⟩
  | cons x l =>
    obtain ⟨g, off, rfl, hc⟩ := hr 0 (by simp)
    have hcells : ∀ j u, (x :: l)[j]? = some u → w.cell? ((⟨g, off, none⟩ : Addr).add j) = some u := by
      intro j u hu
      obtain ⟨hj, hju⟩ := List.getElem?_eq_some_iff.1 hu
      obtain ⟨b', off', h, hc⟩ := hr j hj
      cases h
      rw [hju] at hc
      unfold Addr.add
      split
      · rename_i e; subst e; exact hc
      · exact hc
    cases b with
    | none =>
      obtain ⟨v', w', hrun, h2, h3, _⟩ := run_append_own (P := P) (w := w) w.heap.size t ty e i z 1 bytes ht hi hz hsize hby hzs (by omega) (.slice none 0 0) 0 [] ⟨rfl, .inl ⟨rfl, rfl⟩⟩ ⟨g, off, none⟩ (x :: l).length c (x :: l) (by omega) hcells h1 (by omega) (by rw [Nat.zero_add]; exact hbytes) (Nat.le_refl _)
      refine ⟨v', w', hrun, ?_, (Below.refl _ _).grown h3 (Nat.le_refl _) (by simp [Value.ownBlock])⟩
      rw [Nat.zero_add, List.nil_append] at h2
      refine ⟨h2.1, ?_⟩
      rcases h2.2 with h | ⟨g', cap, cur, e1, e2, rest⟩
      · exact .inl h
      · exact .inr ⟨g', cap, cur, e1, Nat.le_trans hB e2, rest⟩
    | some bb =>
      obtain ⟨v', w', hrun, h2, h3⟩ := run_append_arg_grows (P := P) (w := w) t ty e i z 1 bytes ht hi hz hsize hby hzs (by omega) bb 0 0 [] rfl (by simp) ⟨g, off, none⟩ (x :: l).length c (x :: l) (by omega) hcells (by simp) (by omega) (by rw [Nat.zero_add]; exact hbytes)
      rw [Nat.zero_add, List.nil_append] at h2
      refine ⟨v', w', hrun, ⟨h2.1, ?_⟩, (Below.refl _ _).grown h3 (Nat.le_refl _) (by simp)⟩
      rcases h2.2 with h | ⟨g', cap, cur, e1, e2, rest⟩
      · exact .inl h
      · exact .inr ⟨g', cap, cur, e1, Nat.le_trans hB e2, rest⟩
end
end Go.Proofs.YtadhkeboaapfcaaGreatDoor
