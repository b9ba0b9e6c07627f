/- append onto a row of the call's own, whose source is nil, empty or not; one law for all three. -/
import Derived.Test.YtadhkeboaapfcaaGreatDoorRow
import Derived.Laws.OwnMore
import Derived.Laws.AppendOwn
namespace Go.Proofs.YtadhkeboaapfcaaGreatDoor
open Go.RowKit
set_option linter.unusedSimpArgs false
set_option linter.unusedVariables false

/-- the cells of a slice, from its head on -/
def Row1 (w : World) (a : Option Addr) (vs : List Value) : Prop := ∀ i (h : i < vs.length), ∃ b off, a = some ⟨b, off, none⟩ ∧ w.cell? ⟨b, off + i, none⟩ = some vs[i]
theorem Row1.below {W w : World} {a : Option Addr} {vs : List Value} (h : Row1 W a vs) (hb : Below W.heap.size W w) : Row1 w a vs := by
  intro i hi
  obtain ⟨b, off, rfl, hc⟩ := h i hi
  exact ⟨b, off, rfl, by rw [hb.cell (cell_lt hc)]; exact hc⟩
theorem Row1.mod {M : Nat → Prop} {W w : World} {a : Option Addr} {vs : List Value} (h : Row1 W a vs) (hb : Mod M W w) (hM : ∀ ad, a = some ad → ¬ M ad.block) : Row1 w a vs := by
  intro i hi
  obtain ⟨b, off, rfl, hc⟩ := h i hi
  exact ⟨b, off, rfl, by rw [hb.cell (p := ⟨b, off + i, none⟩) (cell_lt hc) (show ¬ M b from hM ⟨b, off, none⟩ rfl)]; exact hc⟩
theorem Row1.of_strs {w : World} {a : Option Addr} {ss : List ByteArray} (h : Strs w a ss) : Row1 w a (ss.map .string) := by
  intro i hi
  obtain ⟨b, off, rfl, hc⟩ := h i (by simpa using hi)
  exact ⟨b, off, rfl, by rw [hc, List.getElem_map]⟩
theorem Row1.to_strs {w : World} {a : Option Addr} {ss : List ByteArray} (h : Row1 w a (ss.map .string)) : Strs w a ss := by
  intro i hi
  obtain ⟨b, off, rfl, hc⟩ := h i (by simpa using hi)
  exact ⟨b, off, rfl, by rw [hc, List.getElem_map]⟩
theorem Row1.of_own {w : World} {base n : Nat} {e : TypeId} {v : Value} {xs : List Value} (h : w.ownsRow base e 1 v n xs) : ∃ a cap, v = .slice a n cap ∧ Row1 w a xs ∧ xs.length = n := by
  obtain ⟨hl, h⟩ := h
  rcases h with ⟨rfl, h0⟩ | ⟨g, cap, cur, rfl, hb, hg, hc1, hc2, hcs, hcur⟩
  · exact ⟨none, 0, by rw [h0], fun i hi => by omega, by omega⟩
  · refine ⟨some ⟨g, 0, none⟩, cap, rfl, fun i hi => ⟨g, 0, rfl, ?_⟩, by omega⟩
    unfold World.cell?
    rw [hg]
    have : cur[0 + i]? = (cur.toList.take (n * 1))[i]? := by
      rw [List.getElem?_take, if_pos (by omega)]; simp
    simp only [this, hcur]
    simp [hi]

section
variable {P : Program} {w : World}
theorem run_append_none (base : Nat) (t ty e : TypeId) (i : TypeInfo) (ht : P.underlying t = some (.slice e)) (hi : P.info? e = some i)
    (v : Value) (n : Nat) (xs : List Value) (hown : w.ownsRow base e 1 v n xs) (c : Nat) : (Builtin.append_ #[t, t] ty #[v, .slice none 0 c]).run P w = .ok v w := by
  rcases hown.2 with ⟨rfl, rfl⟩ | ⟨g, cap, cur, rfl, _, _, hnc, _⟩
  · simp [Builtin.append_, run_underlying ht, sizeOf, typeInfo, hi, Builtin.lenOf, Builtin.firstCells]
  · simp [Builtin.append_, run_underlying ht, sizeOf, typeInfo, hi, Builtin.lenOf, Builtin.firstCells, hnc, storeCells]
theorem run_append_row (base : Nat) (t ty e : TypeId) (i : TypeInfo) (z : Value) (bytes : Nat) (ht : P.underlying t = some (.slice e)) (hi : P.info? e = some i) (hz : i.zero = some z)
    (hsize : i.size = 1) (hby : i.bytes = bytes) (hzs : z.cells.size = 1) (v : Value) (n : Nat) (xs : List Value) (hown : w.ownsRow base e 1 v n xs)
    (a : Option Addr) (c : Nat) (news : List Value) (hr : Row1 w a news) (h1 : ∀ u ∈ news, u.oneCell' = true)
    (h63 : n + news.length ≤ maxLen) (hbytes : (n + news.length) * bytes ≤ 140737488355328) (hbase : base ≤ w.heap.size) :
    ∃ v' w', (Builtin.append_ #[t, t] ty #[v, .slice a news.length c]).run P w = .ok v' w' ∧ w'.ownsRow base e 1 v' (n + news.length) (xs ++ news) ∧ w.grownBy w' v.ownBlock := by
  cases a with
  | none =>
    have : news = [] := by
      cases news with
      | nil => rfl
      | cons x l => obtain ⟨b, off, h, _⟩ := hr 0 (by simp); cases h
    subst this
    exact ⟨v, w, run_append_none base t ty e i ht hi v n xs hown c, by simpa using hown, World.grownBy.refl w _⟩
  | some ad =>
    have hcells : ∀ j u, news[j]? = some u → w.cell? (ad.add j) = some u := by
      intro j u hu
      obtain ⟨hj, hju⟩ := List.getElem?_eq_some_iff.1 hu
      obtain ⟨b, off, h, hc⟩ := hr j hj
      cases h
      rw [hju] at hc
      unfold Addr.add
      split
      · rename_i e; subst e; exact hc
      · exact hc
    obtain ⟨v', w', hrun, h2, h3, _⟩ := run_append_own (P := P) (w := w) base t ty e i z 1 bytes ht hi hz hsize hby hzs (by omega) v n xs hown ad news.length c news (by omega) hcells h1 h63 hbytes hbase
    exact ⟨v', w', hrun, h2, h3⟩
theorem wpList_append_row {ops : Array Oper} {rest : List Oper} {o : Oper} {a : Act} {Q : Exit → Act → World → Prop} (hgd : o.guard = none) (s x : Operand) (t : TypeId)
    (ho : o.op = .call { callee := .builtin .append, args := #[s, x], argTypes := #[t, t] })
    (base : Nat) (e : TypeId) (i : TypeInfo) (z : Value) (bytes : Nat) (ht : P.underlying t = some (.slice e)) (hi : P.info? e = some i) (hz : i.zero = some z)
    (hsize : i.size = 1) (hby : i.bytes = bytes) (hzs : z.cells.size = 1) (v : Value) (n : Nat) (xs : List Value) (hs : a.eval s = v) (hown : w.ownsRow base e 1 v n xs)
    (ad : Option Addr) (m c : Nat) (news : List Value) (hx : a.eval x = .slice ad m c) (hm : m = news.length) (hr : Row1 w ad news) (h1 : ∀ u ∈ news, u.oneCell' = true)
    (h63 : n + m ≤ maxLen) (hbytes : (n + m) * bytes ≤ 140737488355328) (hbase : base ≤ w.heap.size)
    (h : ∀ v' w', w'.ownsRow base e 1 v' (n + m) (xs ++ news) → w.grownBy w' v.ownBlock → wpList P ops Q rest (a.put o.dst v') w') : wpList P ops Q (o :: rest) a w := by
  subst hm
  refine wpList_plain hgd fun K hK => ?_
  obtain ⟨v', w', hrun, h2, h3⟩ := run_append_row (P := P) (w := w) base t o.type e i z bytes ht hi hz hsize hby hzs v n xs hown ad c news hr h1 h63 hbytes hbase
  unfold Oper.wp
  simp [execOp, ho, resolve, invoke, builtin, hs, hx, hrun, Result.andThen]
  exact hK _ _ (h v' w' h2 h3)
end
theorem ownBlock_of_own {w : World} {base n : Nat} {e : TypeId} {sz : Nat} {v : Value} {xs : List Value} (h : w.ownsRow base e sz v n xs) : ∀ g, v.ownBlock = some g → base ≤ g := by
  intro g hg
  rcases h.2 with ⟨rfl, _⟩ | ⟨g', cap, cur, rfl, hb, _⟩
  · cases hg
  · cases hg; exact hb
theorem ownsRow_empty (w : World) (base : Nat) (e : TypeId) (hb : base ≤ w.heap.size) : (w.alloc (.cells #[] e)).ownsRow base e 1 (.slice (some ⟨w.heap.size, 0, none⟩) 0 0) 0 [] :=
  ⟨rfl, .inr ⟨w.heap.size, 0, #[], rfl, hb, heap_alloc_new w _, Nat.le_refl _, by unfold maxLen; omega, rfl, rfl⟩⟩
end Go.Proofs.YtadhkeboaapfcaaGreatDoor
