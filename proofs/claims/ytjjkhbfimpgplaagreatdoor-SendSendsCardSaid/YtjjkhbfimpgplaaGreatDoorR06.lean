/- A tape in memory: its row, its records' numbers and sizes. And what follows. -/
import Derived.Test.YtjjkhbfimpgplaaGreatDoorR01
import Derived.Test.YtjjkhbfimpgplaaGreatDoorR04
import Derived.Test.YtjjkhbfimpgplaaGreatDoorR05
import Derived.Test.YtjjkhbfimpgplaaGreatDoorR00
import Derived.Test.YtjjkhbfimpgplaaGreatDoorR02
set_option maxHeartbeats 25600000
namespace Go.Proofs.YtjjkhbfimpgplaaGreatDoor.TapeW
open Go.RowKit Go.MapKept OctMath RecMath TapeMath DskW SegW MapG
set_option linter.unusedVariables false
set_option linter.unusedSimpArgs false
set_option maxRecDepth 100000
def tapeH : List UInt8 := [116, 97, 112, 101, 45]
def Waiting (D : DiskD) (R : SegD) : Prop := ∀ x ∈ D.waits, R.synced < R.e ∧ ∃ i, i < R.n ∧ R.synced < R.b + i * R.size + R.size ∧ ∃ f, D.find (nameL R.head (R.b + i * R.size)) = some f ∧ f.blk = x.blk
def idsL (l : List (Nat × Msg)) : List Value := l.map fun p => .int .i64 (p.1 : Int)
def sizesL (l : List (Nat × Msg)) : List (Value × Value) := l.map fun p => (.int .i64 (p.1 : Int), .int .i64 ((recL p.2).length : Int))
structure OwnD where
 blk : Nat
 rb : Nat
 sums : Nat
 idv : Value
 mB : Nat
 last : Int
 recs : List (Nat × Msg)
def OwnD.cells (T : OwnD) : Array Value := #[.pointer (some ⟨T.rb, 0, none⟩), .pointer (some ⟨T.sums, 0, none⟩), T.idv, .map (some T.mB), .int .i64 T.last]
def OwnD.foot (T : OwnD) (k : Nat) : Prop := k = T.blk ∨ k = T.sums ∨ k = T.mB ∨ T.idv.ownBlock = some k
structure OwnAt (base : Nat) (w : World) (T : OwnD) : Prop where
 cells : w.heap[T.blk]? = some (.cells T.cells 96 (0, 0))
 ids : w.ownsRow base 3 1 T.idv T.recs.length (idsL T.recs)
 sizes : PairsAt w T.mB (sizesL T.recs)
 tabs : CrcW.Tabs w T.sums
 low : T.sums < w.heap.size ∧ base ≤ T.sums ∧ base ≤ T.blk ∧ base ≤ T.mB
 apart : T.blk ≠ T.sums ∧ T.blk ≠ T.mB ∧ T.sums ≠ T.mB ∧ ∀ k, T.idv.ownBlock = some k → k ≠ T.blk ∧ k ≠ T.sums ∧ k ≠ T.mB
theorem OwnAt.lt {base : Nat} {w : World} {T : OwnD} (h : OwnAt base w T) {k : Nat} (hk : T.foot k) : k < w.heap.size := by
 rcases hk with hk | hk | hk | hk
 · rw [hk]; exact (Array.getElem?_eq_some_iff.1 h.cells).1
 · rw [hk]; exact h.low.1
 · rw [hk]; exact h.sizes.lt
 · rcases h.ids.2 with ⟨e, _⟩ | ⟨g, cap, cur, e, _, hg, _⟩
   · rw [e] at hk; cases hk
   · rw [e] at hk; cases hk; exact (Array.getElem?_eq_some_iff.1 hg).1
theorem OwnAt.base_le {base : Nat} {w : World} {T : OwnD} (h : OwnAt base w T) {k : Nat} (hk : T.foot k) : base ≤ k := by
 rcases hk with hk | hk | hk | hk
 · rw [hk]; exact h.low.2.2.1
 · rw [hk]; exact h.low.2.1
 · rw [hk]; exact h.low.2.2.2
 · exact ownBlock_of_own h.ids k hk
theorem tabs_mod {M : Nat → Prop} {w w' : World} {B : Nat} (h : CrcW.Tabs w B) (hB : B < w.heap.size) (hm : Mod M w w') (hM : ¬ M B) : CrcW.Tabs w' B :=
 fun k j hk hj => by rw [hm.cell (by simpa using hB) (by simpa using hM)]; exact h k j hk hj
theorem OwnAt.mod {base : Nat} {w w' : World} {T : OwnD} {M : Nat → Prop} (h : OwnAt base w T) (hm : Mod M w w') (hM : ∀ k, T.foot k → ¬ M k) : OwnAt base w' T :=
 { h with
  cells := (hm.block _ (h.lt (.inl rfl)) (hM _ (.inl rfl))).trans h.cells
  ids := SegW.ownsRow_mod h.ids hm (fun k hk => hM k (.inr (.inr (.inr hk))))
  sizes := h.sizes.mod hm (hM _ (.inr (.inr (.inl rfl))))
  tabs := tabs_mod h.tabs h.low.1 hm (hM _ (.inr (.inl rfl)))
  low := ⟨Nat.lt_of_lt_of_le h.low.1 hm.size, h.low.2⟩ }
theorem OwnAt.below {base : Nat} {w w' : World} {T : OwnD} (h : OwnAt base w T) (hb : Below w.heap.size w w') : OwnAt base w' T :=
 h.mod (M := fun _ => False) (Mod.of_below hb) (fun _ _ h => h)
theorem OwnAt.cell {base : Nat} {w : World} {T : OwnD} (h : OwnAt base w T) (k : Nat) (v : Value) (hv : T.cells[k]? = some v) : w.cell? ⟨T.blk, k, Option.none⟩ = some v := by
 unfold World.cell?; rw [show w.heap[(⟨T.blk, k, Option.none⟩ : Addr).block]? = _ from h.cells]; simpa using hv
theorem OwnAt.frozen {base : Nat} {w : World} {T : OwnD} (h : OwnAt base w T) (k : Nat) : w.frozen? ⟨T.blk, k, Option.none⟩ = false := by
 unfold World.frozen?; rw [show w.heap[(⟨T.blk, k, Option.none⟩ : Addr).block]? = _ from h.cells]; rfl
structure TapeD where
 O : OwnD
 D : DiskD
 R : SegD
 its : List TapeMath.Item
def TapeD.foot (T : TapeD) (k : Nat) : Prop := T.O.foot k ∨ T.D.foot k ∨ T.R.foot k
structure TapeAt (base : Nat) (w : World) (T : TapeD) : Prop where
 own : OwnAt base w T.O
 rb : T.O.rb = T.R.blk
 recs : T.O.recs = recsOf T.R.b T.its
 away : ∀ k, T.O.foot k → ¬ T.D.foot k ∧ ¬ T.R.foot k
 whole : Whole base w T.D T.R
 head : T.R.head = tapeH
 size : T.R.size = 1024
 txt : T.R.txt = bytesL T.its
 fits : Fits T.R.b T.its
 last : ∀ p, T.O.recs.getLast? = some p → T.O.last = p.2.born
 wait : Waiting T.D T.R
theorem TapeAt.lt {base : Nat} {w : World} {T : TapeD} (h : TapeAt base w T) {k : Nat} (hk : T.foot k) : k < w.heap.size := by
 rcases hk with hk | hk | hk
 · exact h.own.lt hk
 · exact h.whole.dsk.lt hk
 · exact h.whole.seg.lt hk
theorem TapeAt.base_le {base : Nat} {w : World} {T : TapeD} (h : TapeAt base w T) {k : Nat} (hk : T.foot k) : base ≤ k := by
 rcases hk with hk | hk | hk
 · exact h.own.base_le hk
 · exact h.whole.dsk.base_le hk
 · rcases hk with hk | hk
   · rw [hk]; exact h.whole.seg.above
   · exact ownBlock_of_own h.whole.seg.row k hk
theorem TapeAt.mod {base : Nat} {w w' : World} {T : TapeD} {M : Nat → Prop} (h : TapeAt base w T) (hm : Mod M w w') (hM : ∀ k, T.foot k → ¬ M k) : TapeAt base w' T :=
 { h with
  own := h.own.mod hm (fun k hk => hM k (.inl hk))
  whole := h.whole.mod hm (fun k hk => hM k (.inr (.inl hk))) (fun k hk => hM k (.inr (.inr hk))) }
theorem TapeAt.below {base : Nat} {w w' : World} {T : TapeD} (h : TapeAt base w T) (hb : Below w.heap.size w w') : TapeAt base w' T :=
 h.mod (M := fun _ => False) (Mod.of_below hb) (fun _ _ h => h)
theorem room_eq {base : Nat} {w : World} {R : SegD} (h : SegAt base w R) (hs : R.size = 1024) : R.room = roomL R.e := by
 have hm := h.mult
 rw [hs] at hm
 unfold SegD.room roomL SegD.e
 rw [hs]
 rcases Nat.eq_zero_or_pos R.n with h0 | hp
 · rw [if_neg (by omega), (h.empty h0).2, (h.empty h0).1]; rfl
 · obtain ⟨l1, l2, l3⟩ := h.long hp
   rw [hs] at l1 l2
   split <;> omega
theorem room_le (e : Nat) : 1 ≤ roomL e ∧ roomL e ≤ 1024 := by unfold roomL; omega
theorem Waiting.app {base : Nat} {w w' : World} {D D' : DiskD} {R R' : SegD} {s : List UInt8} (h : Waiting D R) (hR : SegAt base w R) (hR' : SegAt base w' R') (ha : AppOk D D' R R' s) (h0 : s ≠ []) (he : R' = { R with n := R'.n, pv := R'.pv, txt := R.txt ++ s }) (hp : 0 < R'.n) : Waiting D' R' := by
 have e1 : R'.synced = R.synced := by rw [he]
 have e2 : R'.b = R.b := by rw [he]
 have e3 : R'.size = R.size := by rw [he]
 have e4 : R'.head = R.head := by rw [he]
 have e5 : R'.txt = R.txt ++ s := by rw [he]
 have hsl : 0 < s.length := List.length_pos_iff.2 h0
 have e6 : R'.e = R.e + s.length := by unfold SegD.e; rw [e2, e5, List.length_append]; omega
 have hsy := hR.syn
 obtain ⟨l1, l2, l3⟩ := hR'.long hp
 have hnn : R.n ≤ R'.n := by
  rcases Nat.lt_or_ge R'.n R.n with hlt | hge
  ·
   exfalso
   obtain ⟨k1, k2, k3⟩ := hR.long (by omega)
   have : R'.n * R.size ≤ (R.n - 1) * R.size := Nat.mul_le_mul_right _ (by omega)
   rw [e5, List.length_append, e3] at l2
   omega
  · exact hge
 obtain ⟨f, o, hf, hw⟩ := ha.waits
 intro x hx
 rw [hw] at hx
 rw [e1, e2, e3, e4, e6]
 refine ⟨by omega, ?_⟩
 rcases List.mem_append.1 hx with hx | hx
 · obtain ⟨g1, i, g2, g3, f0, g4, g5⟩ := h x hx
   obtain ⟨f1, g6, g7, _⟩ := ha.blks _ _ g4
   exact ⟨i, by omega, g3, f1, g6, g7.trans g5⟩
 ·
  rw [List.mem_singleton] at hx
  subst hx
  refine ⟨R'.n - 1, by omega, ?_, f, ?_, rfl⟩
  ·
   have h1 := mul_pred (s := R.size) hp
   have : R'.e = R'.b + R'.txt.length := rfl
   rw [e3] at l2
   rw [e2] at this
   omega
  · unfold SegD.lastP at hf
    rw [e2, e3] at hf
    exact hf
theorem Waiting.none {D : DiskD} {R : SegD} (h : D.waits = []) : Waiting D R := fun x hx => by rw [h] at hx; cases hx
theorem Waiting.sync {base : Nat} {w : World} {D : DiskD} {R : SegD} (h : Waiting D R) (hR : SegAt base w R) (hD : DiskAt base w D) (wv : Value) : (R.syncD D wv).waits = [] := by
 unfold SegD.syncD
 by_cases hn : R.syncL = []
 ·
  rw [if_pos hn]
  have he := (syncL_nil hR).1 hn
  cases hw : D.waits with
  | nil => rfl
  | cons x l =>
    have := (h x (by rw [hw]; exact .head _)).1
    omega
 ·
  rw [if_neg hn]
  unfold DiskD.lasts
  simp only
  rw [List.filter_eq_nil_iff]
  intro x hx
  obtain ⟨g1, i, g2, g3, f, g4, g5⟩ := h x hx
  simp only [Bool.not_eq_true, Bool.not_eq_false', Bool.not_eq_eq_eq_not, Bool.not_true, Bool.not_false]
  have hmem := find_some g4
  have hin : nameL R.head (R.b + i * R.size) ∈ R.syncL := by
   unfold SegD.syncL SegD.syncK
   rw [if_pos g1]
   exact List.mem_map.2 ⟨i, List.mem_filter.2 ⟨List.mem_range.2 g2, decide_eq_true g3⟩, rfl⟩
  have : D.files.any (fun p => decide (p.1 ∈ R.syncL) && decide (x.blk = p.2.blk)) = true := List.any_eq_true.2 ⟨_, hmem, by rw [decide_eq_true hin, decide_eq_true g5.symm]; rfl⟩
  simp [this]
end Go.Proofs.YtjjkhbfimpgplaaGreatDoor.TapeW
namespace Go.Proofs.YtjjkhbfimpgplaaGreatDoor.TapeW
open Go.RowKit Go.MapKept OctMath RecMath RecW TapeMath DskW SegW MapG
set_option linter.unusedVariables false
set_option linter.unusedSimpArgs false
set_option maxRecDepth 100000
theorem TapeAt.c0 {base : Nat} {w : World} {T : TapeD} (h : TapeAt base w T) : w.cell? ⟨T.O.blk, 0, none⟩ = some (.pointer (some ⟨T.R.blk, 0, none⟩)) := h.own.cell 0 _ (by rw [← h.rb]; rfl)
theorem begin_any {base : Nat} {T : TapeD} (w : World) (h : TapeAt base w T) :
 Calls Tryz.prog 112 #[.pointer (some ⟨T.O.blk, 0, none⟩)] w fun e w' => e = .returned (.int .i64 (T.R.b : Int)) ∧ w' = w := by
 have HB := Lib.hid (SegW.begin_any w h.whole.seg)
 have c0 := h.c0
 clear h
 go_enter Tryz.func112, Tryz.ntmps112
 go_wp2_with fail
 refine HB.out.mono ?_
 rintro e w' ⟨rfl, rfl⟩
 go_wp2_with fail
 go_ret
 exact ⟨rfl, rfl⟩
theorem end_any {base : Nat} {T : TapeD} (w : World) (h : TapeAt base w T) :
 Calls Tryz.prog 12 #[.pointer (some ⟨T.O.blk, 0, none⟩)] w fun e w' => e = .returned (.int .i64 (T.R.e : Int)) ∧ w' = w := by
 have HB := Lib.hid (SegW.end_any w h.whole.seg)
 have c0 := h.c0
 clear h
 go_enter Tryz.func12, Tryz.ntmps12
 go_wp2_with fail
 refine HB.out.mono ?_
 rintro e w' ⟨rfl, rfl⟩
 go_wp2_with fail
 go_ret
 exact ⟨rfl, rfl⟩
theorem synced_any {base : Nat} {T : TapeD} (w : World) (h : TapeAt base w T) :
 Calls Tryz.prog 90 #[.pointer (some ⟨T.O.blk, 0, none⟩)] w fun e w' => e = .returned (.int .i64 (T.R.synced : Int)) ∧ w' = w := by
 have HB := Lib.hid (SegW.synced_any w h.whole.seg)
 have c0 := h.c0
 clear h
 go_enter Tryz.func90, Tryz.ntmps90
 go_wp2_with fail
 refine HB.out.mono ?_
 rintro e w' ⟨rfl, rfl⟩
 go_wp2_with fail
 go_ret
 exact ⟨rfl, rfl⟩
theorem loose_no (v : Value) (p : Nat) (hp : p ≤ 1099511627776) (h : 3 ≤ 1024 - p % 1024) (w : World) :
 Calls Tryz.prog 233 #[v, .int .i64 (p : Int)] w fun e w' => e = .returned (.bool false) ∧ w' = w := by
 have h1 : (p : Int).tmod 1024 = ((p % 1024 : Nat) : Int) := by rw [Int.tmod_eq_emod_of_nonneg (by omega)]; omega
 have h2 : ¬ ((1024 : Int) - ((p % 1024 : Nat) : Int) < 3) := by omega
 have hlt : p % 1024 < 1024 := Nat.mod_lt _ (by omega)
 generalize p % 1024 = z at *
 go_enter Tryz.func233, Tryz.ntmps233
 go_wp2_with fail
 go_ret
 exact ⟨rfl, rfl⟩
def sizeR (l : List (Nat × Msg)) (id : Int) : Int := ((l.find? fun p => decide ((p.1 : Int) = id)).map fun p => ((recL p.2).length : Int)).getD 0
theorem keyedI : Keyed Tryz.prog 3 (IsKey (.int .i64)) := Keyed.of_isKey Tryz.underlying3
theorem keysS (l : List (Nat × Msg)) : ∀ p ∈ sizesL l, IsKey (.int .i64) p.1 := fun p hp => by
 obtain ⟨q, _, rfl⟩ := List.mem_map.1 hp; rfl
theorem lookupS {base : Nat} {w : World} {T : OwnD} (h : OwnAt base w T) (id : Int) :
 (Instr.lookup 94 (.map (some T.mB)) (.int .i64 id) false).run Tryz.prog w = .ok (.int .i64 (sizeR T.recs id)) w := by
 have hm := Tryz.underlying94
 unfold sizeR
 cases hf : T.recs.find? (fun p => decide ((p.1 : Int) = id)) with
 | none =>
   have hn := List.find?_eq_none.1 hf
   exact lookup_not hm keyedI h.sizes (keysS _) (k := .int .i64 id) rfl (fun p hp => by
    obtain ⟨q, hq, rfl⟩ := List.mem_map.1 hp
    intro e
    exact hn q hq (by simpa using e)) (z := .int .i64 0) (fun w => by kernel_rfl) false
 | some q =>
   obtain ⟨h1, a, b, h2, h3⟩ := List.find?_eq_some_iff_append.1 hf
   exact lookup_has hm keyedI h.sizes (keysS _) (k := .int .i64 id) (v := .int .i64 ((recL q.2).length : Int)) rfl (List.mem_map.2 ⟨q, by rw [h2]; simp, by rw [show ((q.1 : Int)) = id by simpa using h1]⟩) false
theorem size_any {base : Nat} {T : OwnD} (id : Int) (w : World) (h : OwnAt base w T) :
 Calls Tryz.prog 92 #[.pointer (some ⟨T.blk, 0, none⟩), .int .i64 id] w fun e w' => e = .returned (.int .i64 (sizeR T.recs id)) ∧ w' = w := by
 have hl := lookupS h id
 have c3 : w.cell? ⟨T.blk, 3, none⟩ = some (.map (some T.mB)) := h.cell 3 _ rfl
 clear h
 generalize sizeR T.recs id = z at *
 go_enter Tryz.func92, Tryz.ntmps92
 go_wp2_with fail
 go_ret
 exact ⟨rfl, rfl⟩
theorem updateS {w : World} {l : List (Nat × Msg)} {mB : Nat} (h : PairsAt w mB (sizesL l)) (id : Nat) (m : Msg) (hn : ∀ p ∈ l, p.1 ≠ id) :
 ∃ w', (Instr.mapUpdate 94 (.map (some mB)) (.int .i64 (id : Int)) (.int .i64 ((recL m).length : Int))).run Tryz.prog w = .ok () w' ∧ PairsAt w' mB (sizesL (l ++ [(id, m)])) ∧ Mod (fun k => k = mB) w w' := by
 obtain ⟨w', h1, h2, h3⟩ := update_new Tryz.underlying94 keyedI h (keysS _) (k := .int .i64 (id : Int)) rfl (fun p hp => by
  obtain ⟨q, hq, rfl⟩ := List.mem_map.1 hp
  intro e
  have : (q.1 : Int) = (id : Int) := by simpa using e
  exact hn q hq (by omega)) (.int .i64 ((recL m).length : Int))
 refine ⟨w', h1, ?_, h3⟩
 unfold sizesL at h2 ⊢
 rw [List.map_append]; exact h2
theorem append_int {base : Nat} {w : World} {v : Value} {n : Nat} {xs : List Value} (h : w.ownsRow base 3 1 v n xs) (x : Int) (hn : n ≤ 1073741824) (hbase : base ≤ w.heap.size) :
 ∃ v' w8, (Builtin.append_ #[35, 35] 35 #[v, .slice (some ⟨w.heap.size, 0, none⟩) 1 1]).run Tryz.prog (w.alloc (.cells #[.int .i64 x] 3)) = .ok v' w8 ∧
  w8.ownsRow base 3 1 v' (n + 1) (xs ++ [.int .i64 x]) ∧ Mod (fun k => v.ownBlock = some k) w w8 ∧ (∃ a cp, v' = .slice a (n + 1) cp) ∧ ∀ k, v'.ownBlock = some k → v.ownBlock = some k ∨ w.heap.size ≤ k := by
 have hb7 : Below w.heap.size w (w.alloc (.cells #[.int .i64 x] 3)) := (Below.refl _ _).alloc (Nat.le_refl _) _
 have hd7 := SegW.ownsRow_mod (M := fun _ => False) h (Mod.of_below hb7) (fun _ _ h => h)
 obtain ⟨i0, hi0, hz0, hz1, hz2⟩ : ∃ i, Tryz.prog.info? 3 = some i ∧ i.zero = some (.int .i64 0) ∧ i.size = 1 ∧ i.bytes = 8 := by
  have := (show (Tryz.prog.info? 3).map (fun i => (i.zero, i.size, i.bytes)) = some (some (.int .i64 0), 1, 8) by kernel_rfl)
  cases hh : Tryz.prog.info? 3 with
  | none => rw [hh] at this; cases this
  | some i => rw [hh] at this; have h2 := Option.some.inj this; exact ⟨i, rfl, congrArg (·.1) h2, congrArg (·.2.1) h2, congrArg (·.2.2) h2⟩
 obtain ⟨v', w8, hr, hrow, hgb, _, hob⟩ := run_append_own_at (P := Tryz.prog) _ base 35 35 3 i0 (.int .i64 0) 1 8 Tryz.underlying35 hi0 hz0 hz1 hz2 rfl (by omega) _ _ _ hd7
  ⟨w.heap.size, 0, none⟩ 1 1 [.int .i64 x] rfl (fun j u hu => by
   have hadd : (⟨w.heap.size, 0, none⟩ : Addr).add j = ⟨w.heap.size, j, none⟩ := by unfold Addr.add; split <;> simp_all
   rw [hadd, World.cell?_alloc_new]
   match j, hu with
   | 0, hu => exact hu
   | j + 1, hu => cases hu) (fun u hu => by
   rw [List.mem_singleton] at hu; subst hu; rfl) (by unfold maxLen; omega) (by omega) (Nat.le_trans hbase hb7.size)
 have hsz7 : (w.alloc (.cells #[.int .i64 x] 3)).heap.size = w.heap.size + 1 := World.size_alloc _ _
 refine ⟨v', w8, hr, hrow, (Mod.of_below hb7).trans ⟨hgb.os, hgb.tape, hgb.output, hgb.size, fun k hk hnf => hgb.block k hk (fun e => hnf e.symm)⟩, own_slice hrow, fun k hk => ?_⟩
 rcases hob with e | e
 · exact .inl (e ▸ hk)
 · rw [e] at hk; cases hk; right; omega
theorem wpList_append_run {P : Program} (w : World) {ops : Array Oper} {rest : List Oper} {o : Oper} {a : Act} {Q : Exit → Act → World → Prop} (hgd : o.guard = none) (s x : Operand) (t tn : TypeId)
 (ho : o.op = .call { callee := .builtin .append, args := #[s, x], argTypes := #[t, tn] }) (vs vx : Value) (hs : a.eval s = vs) (hx : a.eval x = vx)
 (v' : Value) (w' : World) (hr : (Builtin.append_ #[t, tn] o.type #[vs, vx]).run P w = .ok v' w') (h : wpList P ops Q rest (a.put o.dst v') w') : wpList P ops Q (o :: rest) a w := by
 refine wpList_plain hgd fun K hK => ?_
 unfold Oper.wp
 simp [execOp, ho, resolve, invoke, builtin, hs, hx, hr, Result.andThen]
 exact hK _ _ h
def OwnD.add (T : OwnD) (idv : Value) (id : Nat) (m : Msg) : OwnD := { T with idv := idv, last := m.born, recs := T.recs ++ [(id, m)] }
set_option maxHeartbeats 3200000 in
theorem note_one {base : Nat} {T : OwnD} (id : Nat) (m : Msg) (a : Option Addr) (c : Nat) (W : World) (h : OwnAt base W T) (h0 : m.kind ≠ 0) (hn : ∀ p ∈ T.recs, p.1 ≠ id) (hl : T.recs.length ≤ 1048576) (hbase : base ≤ W.heap.size) :
 Calls Tryz.prog 150 #[.pointer (some ⟨T.blk, 0, none⟩), .int .i64 (id : Int), .int .i64 ((recL m).length : Int), .agg (cellsM m a c)] W fun e w' => e = .returned (.tuple #[]) ∧
  ∃ idv, OwnAt base w' (T.add idv id m) ∧ Mod T.foot W w' ∧ ∀ k, idv.ownBlock = some k → T.foot k ∨ W.heap.size ≤ k := by
 have HB0 : Hid (Below W.heap.size W (W.alloc (.cells (cellsM m a c) 56))) := (Below.refl _ W).alloc (Nat.le_refl _) _
 have HX : Hid (RecW.Boxed (W.alloc (.cells (cellsM m a c) 56)) W.heap.size (cellsM m a c)) := RecW.Boxed.new W _ _
 have hz1 : (W.alloc (.cells (cellsM m a c) 56)).heap.size = W.heap.size + 1 := World.size_alloc _ _
 have HO0 := Lib.hid (h.below HB0.out)
 have HLT : Hid (∀ k, T.foot k → k < W.heap.size) := fun k hk => h.lt hk
 have hcu : (cellsM m a c).size = 10 := rfl
 have HBS := Lib.hid hbase
 clear h hbase
 go_enter Tryz.func150, Tryz.ntmps150
 go_upto_region 1 with fail
 generalize W.alloc (.cells (cellsM m a c) 56) = w1 at *
 clear hcu
 obtain ⟨A, hA⟩ : ∃ A, W.heap.size = A := ⟨_, rfl⟩
 rw [hA] at HX hz1 ⊢
 have k0 : w1.cell? ⟨A, 0, none⟩ = some (.int .i64 m.kind) := HX.out 0 _ rfl
 obtain ⟨v', w8, hr, hrow, hm8, ⟨av, cv, hv'⟩, hob⟩ := append_int HO0.out.ids (id : Int) (by omega) (Nat.le_trans HBS.out HB0.out.size)
 obtain ⟨a0, cp0, hidv⟩ := own_slice HO0.out.ids
 have hap := HO0.out.apart
 have hfo : ∀ k, T.idv.ownBlock = some k → k < A := fun k hk => by have := HLT.out k (.inr (.inr (.inr hk))); omega
 have hk8 : ∀ k, k < w1.heap.size → T.idv.ownBlock ≠ some k → w8.heap[k]? = w1.heap[k]? := fun k hk hne => hm8.block k hk hne
 have hb8 : w8.heap[T.blk]? = some (.cells T.cells 96 (0, 0)) := (hk8 _ (HO0.out.lt (.inl rfl)) (fun e => (hap.2.2.2 _ e).1 rfl)).trans HO0.out.cells
 have hp8 : PairsAt w8 T.mB (sizesL T.recs) := HO0.out.sizes.mod hm8 (fun e => (hap.2.2.2 _ e).2.2 rfl)
 have ht8 : CrcW.Tabs w8 T.sums := tabs_mod HO0.out.tabs HO0.out.low.1 hm8 (fun e => (hap.2.2.2 _ e).2.1 rfl)
 have hb9 : (w8.setCell ⟨T.blk, 2, none⟩ v').heap[T.blk]? = some (.cells #[.pointer (some ⟨T.rb, 0, none⟩), .pointer (some ⟨T.sums, 0, none⟩), v', .map (some T.mB), .int .i64 T.last] 96 (0, 0)) := heap_set1 hb8 _ rfl
 have hm9 : Mod (fun k => k = T.blk) w8 (w8.setCell ⟨T.blk, 2, none⟩ v') := mod_set _ _ _ _
 have hp9 := hp8.mod hm9 (fun e => hap.2.1 e.symm)
 obtain ⟨w10, hup, hp10, hm10⟩ := updateS hp9 id m hn
 have hA8 : A < w8.heap.size := by have := hm8.size; omega
 have hA1 : ∀ (w : World), w.heap[A]? = w1.heap[A]? → RecW.Boxed w A (cellsM m a c) := fun w e i v hv => by
  rw [World.cell?_of_block (w := w1) e]; exact HX.out i v hv
 have hx8 := hk8 A (by omega) (fun e => by have := hfo A e; omega)
 have hx9 : (w8.setCell ⟨T.blk, 2, none⟩ v').heap[A]? = w8.heap[A]? := hm9.block A hA8 (fun e => by have := HLT.out _ (.inl rfl); omega)
 have hx10 : w10.heap[A]? = w1.heap[A]? := ((hm10.block A (by have := hm9.size; omega) (fun e => by have := HLT.out _ (.inr (.inr (.inl rfl))); omega)).trans hx9).trans hx8
 have k5 : w10.cell? ⟨A, 5, none⟩ = some (.int .i64 m.born) := hA1 w10 hx10 5 _ rfl
 have c2 : w1.cell? ⟨T.blk, 2, none⟩ = some (.slice a0 T.recs.length cp0) := by rw [← hidv]; exact HO0.out.cell 2 _ rfl
 have c28 : w8.cell? ⟨T.blk, 2, none⟩ = some T.idv := by rw [Lib.cell_of_heap hb8]; rfl
 have f28 : w8.frozen? ⟨T.blk, 2, none⟩ = false := Lib.frozen_of_heap hb8 2
 have c39 : (w8.setCell ⟨T.blk, 2, none⟩ v').cell? ⟨T.blk, 3, none⟩ = some (.map (some T.mB)) := by rw [Lib.cell_of_heap hb9]; rfl
 have hb10 : w10.heap[T.blk]? = some (.cells #[.pointer (some ⟨T.rb, 0, none⟩), .pointer (some ⟨T.sums, 0, none⟩), v', .map (some T.mB), .int .i64 T.last] 96 (0, 0)) := (hm10.block _ (Array.getElem?_eq_some_iff.1 hb9).1 hap.2.1).trans hb9
 have c410 : w10.cell? ⟨T.blk, 4, none⟩ = some (.int .i64 T.last) := by rw [Lib.cell_of_heap hb10]; rfl
 have f410 : w10.frozen? ⟨T.blk, 4, none⟩ = false := Lib.frozen_of_heap hb10 4
 have HOB := Lib.hid hob
 have HROW := Lib.hid hrow
 have HM8 := Lib.hid hm8
 have HM9 := Lib.hid hm9
 have HM10 := Lib.hid hm10
 have HP10 := Lib.hid hp10
 have HB10 := Lib.hid hb10
 have HT8 := Lib.hid ht8
 have HAP := Lib.hid hap
 have HFO := Lib.hid hfo
 have HAA := Lib.hid hA
 have HZ1 := Lib.hid hz1
 have HV' := Lib.hid hv'
 have HL8 : Hid (∀ k, T.foot k → k < w8.heap.size) := fun k hk => by have h1 := HLT.out k hk; have h2 := hm8.size; omega
 rw [hidv] at hr
 clear hidv hob hrow hm8 hm9 hm10 hp10 hb8 hb9 hb10 ht8 hap hfo hx8 hx9 hx10 hA1 hA8 hk8 hp8 hp9 hn hl hA hz1
 generalize (recL m).length = L at *
 subst hv'
 have HR := Lib.hid hr
 clear hr
 go_wp2_with (at_builtin; refine wpList_append_run _ rfl (.tmp 15) (.tmp 17) 35 35 rfl _ _ rfl rfl _ _ HR.out ?_)
 go_end0
 have hap := HAP.out
 have hm11 : Mod (fun k => k = T.blk) w10 (w10.setCell ⟨T.blk, 4, none⟩ (.int .i64 m.born)) := mod_set _ _ _ _
 have hobk : ∀ k, (Value.slice av (T.recs.length + 1) cv).ownBlock = some k → (T.idv.ownBlock = some k ∨ A < k) := fun k hk => (HOB.out k hk).imp_right fun h => by have := HZ1.out; omega
 have hne : ∀ k, (Value.slice av (T.recs.length + 1) cv).ownBlock = some k → k ≠ T.blk ∧ k ≠ T.sums ∧ k ≠ T.mB := fun k hk => by
  rcases hobk k hk with h | h
  · exact hap.2.2.2 k h
  ·
   have h1 := HLT.out _ (.inl rfl)
   have h2 := HLT.out _ (.inr (.inl rfl))
   have h3 := HLT.out _ (.inr (.inr (.inl rfl)))
   have h4 := HAA.out
   omega
 have hs9 := HM9.out.size
 have hs10 := HM10.out.size
 have hs11 := hm11.size
 have hw18 : Mod T.foot w1 w8 := HM8.out.mono (fun k _ hk => .inr (.inr (.inr hk)))
 have hw89 := HM9.out.mono (N := T.foot) (fun k _ hk => .inl hk)
 have hw910 := HM10.out.mono (N := T.foot) (fun k _ hk => .inr (.inr (.inl hk)))
 have hw1011 := hm11.mono (N := T.foot) (fun k _ hk => .inl hk)
 have hm : Mod T.foot W (w10.setCell ⟨T.blk, 4, none⟩ (.int .i64 m.born)) := ((((Mod.of_below (M := T.foot) (HAA.out ▸ HB0.out)).trans hw18).trans hw89).trans hw910).trans hw1011
 have hr9 := SegW.ownsRow_mod HROW.out HM9.out (fun k hk e => (hne k hk).1 e)
 have hr10 := SegW.ownsRow_mod hr9 HM10.out (fun k hk e => (hne k hk).2.2 e)
 have hr11 := SegW.ownsRow_mod hr10 hm11 (fun k hk e => (hne k hk).1 e)
 have ht9 := tabs_mod HT8.out (HL8.out _ (.inr (.inl rfl))) HM9.out (fun e => hap.1 e.symm)
 have ht10 := tabs_mod ht9 (by have := HL8.out _ (.inr (.inl rfl)); omega) HM10.out (fun e => hap.2.2.1 e)
 have ht11 := tabs_mod ht10 (by have := HL8.out _ (.inr (.inl rfl)); omega) hm11 (fun e => hap.1 e.symm)
 have hlow := HO0.out.low
 refine ⟨rfl, _, ⟨heap_set1 HB10.out _ rfl, ?_, HP10.out.mod hm11 (fun e => hap.2.1 e.symm), ht11, ⟨by have := HL8.out _ (.inr (.inl rfl)); show T.sums < _; omega, hlow.2⟩, hap.1, hap.2.1, hap.2.2.1, hne⟩, hm, fun k hk => ?_⟩
 ·
  show World.ownsRow _ base _ 1 _ (T.recs ++ [(id, m)]).length (idsL (T.recs ++ [(id, m)]))
  unfold idsL
  rw [List.length_append, List.map_append]
  exact hr11
 · rcases hobk k hk with h | h
   · exact .inl (.inr (.inr (.inr h)))
   · right; have := HAA.out; omega
end Go.Proofs.YtjjkhbfimpgplaaGreatDoor.TapeW
namespace Go.Proofs.YtjjkhbfimpgplaaGreatDoor.RecW
open Go.RowKit OctMath RecMath NameMath
open OctW (Rd One Texts textL textsL textsW listW)
set_option linter.unusedVariables false
set_option linter.unusedSimpArgs false
set_option maxRecDepth 100000
theorem heap_set1 {w : World} {B i : Nat} {cs : Array Value} {ty : TypeId} (h : w.heap[B]? = some (.cells cs ty (0, 0))) (v : Value) {cs' : Array Value} (he : cs.setIfInBounds i v = cs') : (w.setCell ⟨B, i, none⟩ v).heap[B]? = some (.cells cs' ty (0, 0)) := DskW.heap_set1 h v he
def put10 (w : World) (B : Nat) (x0 x1 x2 x3 x4 x5 x6 x7 x8 x9 : Value) : World := (((((((((w.setCell ⟨B, 0, none⟩ x0).setCell ⟨B, 1, none⟩ x1).setCell ⟨B, 2, none⟩ x2).setCell ⟨B, 3, none⟩ x3).setCell ⟨B, 4, none⟩ x4).setCell ⟨B, 5, none⟩ x5).setCell ⟨B, 6, none⟩ x6).setCell ⟨B, 7, none⟩ x7).setCell ⟨B, 8, none⟩ x8).setCell ⟨B, 9, none⟩ x9
theorem ten (z : Array Value) (h : z.size = 10) : ∃ x0 x1 x2 x3 x4 x5 x6 x7 x8 x9 : Value, z = #[x0, x1, x2, x3, x4, x5, x6, x7, x8, x9] := by
 rcases z with ⟨l⟩
 rcases l with _ | ⟨x0, _ | ⟨x1, _ | ⟨x2, _ | ⟨x3, _ | ⟨x4, _ | ⟨x5, _ | ⟨x6, _ | ⟨x7, _ | ⟨x8, _ | ⟨x9, _ | ⟨y, l⟩⟩⟩⟩⟩⟩⟩⟩⟩⟩⟩ <;> simp at h
 exact ⟨x0, x1, x2, x3, x4, x5, x6, x7, x8, x9, rfl⟩
theorem put10_heap {w : World} {B : Nat} {z : Array Value} {t : TypeId} (hz : z.size = 10) (h : w.heap[B]? = some (.cells z t (0, 0))) (x0 x1 x2 x3 x4 x5 x6 x7 x8 x9 : Value) : (put10 w B x0 x1 x2 x3 x4 x5 x6 x7 x8 x9).heap[B]? = some (.cells #[x0, x1, x2, x3, x4, x5, x6, x7, x8, x9] t (0, 0)) := by
 obtain ⟨z0, z1, z2, z3, z4, z5, z6, z7, z8, z9, rfl⟩ := ten z hz
 unfold put10
 have h0 := heap_set1 (i := 0) h x0 rfl
 simp only [List.setIfInBounds_toArray, List.set_cons_zero, List.set_cons_succ] at h0
 have h1 := heap_set1 (i := 1) h0 x1 rfl
 simp only [List.setIfInBounds_toArray, List.set_cons_zero, List.set_cons_succ] at h1
 have h2 := heap_set1 (i := 2) h1 x2 rfl
 simp only [List.setIfInBounds_toArray, List.set_cons_zero, List.set_cons_succ] at h2
 have h3 := heap_set1 (i := 3) h2 x3 rfl
 simp only [List.setIfInBounds_toArray, List.set_cons_zero, List.set_cons_succ] at h3
 have h4 := heap_set1 (i := 4) h3 x4 rfl
 simp only [List.setIfInBounds_toArray, List.set_cons_zero, List.set_cons_succ] at h4
 have h5 := heap_set1 (i := 5) h4 x5 rfl
 simp only [List.setIfInBounds_toArray, List.set_cons_zero, List.set_cons_succ] at h5
 have h6 := heap_set1 (i := 6) h5 x6 rfl
 simp only [List.setIfInBounds_toArray, List.set_cons_zero, List.set_cons_succ] at h6
 have h7 := heap_set1 (i := 7) h6 x7 rfl
 simp only [List.setIfInBounds_toArray, List.set_cons_zero, List.set_cons_succ] at h7
 have h8 := heap_set1 (i := 8) h7 x8 rfl
 simp only [List.setIfInBounds_toArray, List.set_cons_zero, List.set_cons_succ] at h8
 have h9 := heap_set1 (i := 9) h8 x9 rfl
 simp only [List.setIfInBounds_toArray, List.set_cons_zero, List.set_cons_succ] at h9
 exact h9
theorem setm {w w' : World} {B : Nat} (h : Mod (fun k => k = B) w w') (i : Nat) (v : Value) : Mod (fun k => k = B) w (w'.setCell ⟨B, i, none⟩ v) := h.setCell (a := ⟨B, i, none⟩) (.inl rfl) v
theorem put10_mod (w : World) (B : Nat) (x0 x1 x2 x3 x4 x5 x6 x7 x8 x9 : Value) : Mod (fun k => k = B) w (put10 w B x0 x1 x2 x3 x4 x5 x6 x7 x8 x9) := by
 unfold put10
 iterate 10 refine setm ?_ _ _
 exact Mod.refl _ _
structure Mid (W : World) (Bt Br Bm : Nat) (cs : Array Value) (r : RS) (w : World) : Prop where
 t : w.heap[Bt]? = some (.cells (cellsM noMsg none 0) 56 (0, 0))
 m : w.heap[Bm]? = some (.cells cs 56 (0, 0))
 r : Rd Br r w
 b : Below W.heap.size W w
theorem Mid.one {W w w' : World} {Bt Br Bm : Nat} {cs : Array Value} {r r' : RS} (h : Mid W Bt Br Bm cs r w) (hr : Rd Br r' w') (hm : One Br w w') (h1 : Bt ≠ Br) (h2 : Bm ≠ Br) (h3 : W.heap.size ≤ Br) : Mid W Bt Br Bm cs r' w' :=
 ⟨(hm.block Bt (Array.getElem?_eq_some_iff.1 h.t).1 h1).trans h.t, (hm.block Bm (Array.getElem?_eq_some_iff.1 h.m).1 h2).trans h.m, hr, h.b.trans (hm.to_below _ h.b.size (fun k e => e ▸ h3))⟩
theorem Mid.set {W w : World} {Bt Br Bm : Nat} {cs cs' : Array Value} {r : RS} (h : Mid W Bt Br Bm cs r w) (i : Nat) (v : Value) (he : cs.setIfInBounds i v = cs') (h1 : Bt ≠ Bm) (h2 : Bm ≠ Br) (h3 : W.heap.size ≤ Bm) : Mid W Bt Br Bm cs' r (w.setCell ⟨Bm, i, none⟩ v) := by
 have hm : Mod (fun k => k = Bm) w (w.setCell ⟨Bm, i, none⟩ v) := setm (Mod.refl _ w) i v
 exact ⟨(hm.block Bt (Array.getElem?_eq_some_iff.1 h.t).1 h1).trans h.t, heap_set1 h.m v he, h.r.mod hm (fun e => h2 e.symm), h.b.trans (hm.to_below _ h.b.size (fun k e => e ▸ h3))⟩
theorem Mid.cell {W w : World} {Bt Br Bm : Nat} {cs : Array Value} {r : RS} (h : Mid W Bt Br Bm cs r w) (i : Nat) (v : Value) (hv : cs[i]? = some v) : w.cell? ⟨Bm, i, none⟩ = some v := by
 unfold World.cell?; rw [show w.heap[(⟨Bm, i, none⟩ : Addr).block]? = _ from h.m]; simpa using hv
theorem Mid.free {W w : World} {Bt Br Bm : Nat} {cs : Array Value} {r : RS} (h : Mid W Bt Br Bm cs r w) (i : Nat) : w.frozen? ⟨Bm, i, none⟩ = false := by
 unfold World.frozen?; rw [show w.heap[(⟨Bm, i, none⟩ : Addr).block]? = _ from h.m]; rfl
theorem take_text (n : Int) (r : RS) : (takeR n r).1.length ≤ r.s.length := by
 unfold takeR
 split
 · exact Nat.zero_le _
 ·
  split
  · exact Nat.zero_le _
  · split
    · exact Nat.zero_le _
    · simp only [List.length_take]; omega
theorem text_text (most : Int) (r : RS) : (textR most r).1.length ≤ r.s.length := by
 by_cases h : r.e ≠ 0
 · unfold textR; rw [if_pos h]; exact Nat.zero_le _
 ·
  rw [OctW.textR_eq most r h]
  have h1 := take_text ((numR 2 r).1 : Int) (longR (decide (most < ((numR 2 r).1 : Int))) (numR 2 r).2)
  have h2 := OctW.longR_len (decide (most < ((numR 2 r).1 : Int))) (numR 2 r).2
  have h3 := OctW.numR_len 2 r
  split <;> (try simp only) <;> omega
theorem texts_text (most : Int) (k : Nat) : ∀ r : RS, ∀ t ∈ (textsR most k r).1, t.length ≤ r.s.length := by
 induction k with
 | zero => intro r t ht; cases ht
 | succ k ih =>
   intro r t ht
   rw [OctW.textsR_succ] at ht
   rcases List.mem_append.1 ht with ht | ht
   · exact ih r t ht
   · rw [List.mem_singleton] at ht
     subst ht
     exact Nat.le_trans (text_text _ _) (OctW.textsR_len most k r)
theorem list_text (many most : Int) (r : RS) : (listR many most r).1.length ≤ 255 ∧ ∀ t ∈ (listR many most r).1, t.length ≤ r.s.length := by
 by_cases h : r.e ≠ 0
 · unfold listR; rw [if_pos h]; exact ⟨Nat.zero_le _, fun t ht => by cases ht⟩
 ·
  rw [OctW.listR_eq many most r h]
  have hx : (numR 1 r).1 < 256 := OctW.numR_lt 1 r
  have h2 := OctW.longR_len (decide (many < ((numR 1 r).1 : Int))) (numR 1 r).2
  have h3 := OctW.numR_len 1 r
  split
  · exact ⟨Nat.zero_le _, fun t ht => by cases ht⟩
  · refine ⟨by rw [OctW.textsR_length]; omega, fun t ht => ?_⟩
    have := texts_text most _ _ t ht
    omega
theorem opened_ok (s : List UInt8) (hs : s.length ≤ 1073741824) : MsgOk (openedR s).1 := by
 have i1 : ∀ r, inI ((numR 1 r).1 : Int) := fun r => by have : (numR 1 r).1 < 256 := OctW.numR_lt 1 r; unfold inI; omega
 have i6 : ∀ r, inI ((numR 6 r).1 : Int) := fun r => by have : (numR 6 r).1 < 256 ^ 6 := OctW.numR_lt 6 r; unfold inI; omega
 have hl : (⟨s, 0⟩ : RS).s.length = s.length := rfl
 unfold openedR
 dsimp only
 have l0 := OctW.numR_len 1 ⟨s, 0⟩
 generalize (numR 1 ⟨s, 0⟩).2 = r1 at *
 have l1 := OctW.numR_len 1 r1
 generalize (numR 1 r1).2 = r2 at *
 have l2 := OctW.numR_len 1 r2
 generalize (numR 1 r2).2 = r3 at *
 have l3 := OctW.numR_len 6 r3
 generalize (numR 6 r3).2 = r4 at *
 have l4 := OctW.numR_len 6 r4
 generalize (numR 6 r4).2 = r5 at *
 have l5 := OctW.numR_len 6 r5
 generalize (numR 6 r5).2 = r6 at *
 have l6 := OctW.textR_len 16 r6
 have t1 := text_text 16 r6
 generalize (textR 16 r6).2 = r7 at *
 have l7 := OctW.textR_len 16 r7
 have t2 := text_text 16 r7
 generalize (textR 16 r7).2 = r8 at *
 have l8 := OctW.textR_len 200 r8
 have t3 := text_text 200 r8
 generalize (textR 200 r8).2 = r9 at *
 have k1 := list_text 3 16 r9
 refine ⟨i1 _, i1 _, i6 _, i1 _, i6 _, i6 _, ?_, ?_, ?_, ?_, fun t ht => ?_⟩
 · exact Nat.le_trans t1 (by omega)
 · exact Nat.le_trans t2 (by omega)
 · exact Nat.le_trans t3 (by omega)
 · exact Nat.le_trans k1.1 (by omega)
 · exact Nat.le_trans (k1.2 t ht) (by omega)
end Go.Proofs.YtjjkhbfimpgplaaGreatDoor.RecW
namespace Go.Proofs.YtjjkhbfimpgplaaGreatDoor
open Go.RowKit
def Once (B : Nat) (o : Obj) (u v : World) : Prop := Mod (fun k => k = B) u v ∧ (v.heap[B]? = u.heap[B]? ∨ v.heap[B]? = some o)
theorem Once.refl (B : Nat) (o : Obj) (w : World) : Once B o w w := ⟨Mod.refl _ _, .inl rfl⟩
theorem Once.trans {B : Nat} {o : Obj} {u v w : World} (h : Once B o u v) (k : Once B o v w) : Once B o u w :=
 ⟨h.1.trans k.1, k.2.elim (fun e => h.2.elim (fun e2 => .inl (e.trans e2)) fun e2 => .inr (e.trans e2)) .inr⟩
theorem Once.below {B : Nat} {o : Obj} {u v : World} (h : Below u.heap.size u v) (hB : B < u.heap.size) : Once B o u v := ⟨Mod.of_below h, .inl (h.block B hB)⟩
theorem Once.drawn {B : Nat} {o : Obj} {u v : World} (h : Drawn u v) : Once B o u v := ⟨Mod.of_below (h.below _), .inl (by rw [h.heap])⟩
theorem Once.stays {B : Nat} {o : Obj} {u v : World} (h : Once B o u v) (k : u.heap[B]? = some o) : v.heap[B]? = some o := h.2.elim (fun e => e.trans k) id
theorem Once.drew {B : Nat} {o : Obj} {u v : World} (h : Once B o u.drew v) : Once B o u v := Once.trans (Once.drawn ((Drawn.refl u).drew)) h
theorem Once.cells {B : Nat} {t : TypeId} {a z : Array Value} {u v : World} (h : Once B (.cells z t (0, 0)) u v) (hu : u.heap[B]? = some (.cells a t (0, 0))) (hz : z.size = a.size) : ∃ b : Array Value, b.size = a.size ∧ v.heap[B]? = some (.cells b t (0, 0)) :=
 h.2.elim (fun e => ⟨a, rfl, e.trans hu⟩) fun e => ⟨z, hz, e⟩
end Go.Proofs.YtjjkhbfimpgplaaGreatDoor
namespace Go.Proofs.YtjjkhbfimpgplaaGreatDoor.RecW
open Go.RowKit OctMath RecMath NameMath
open OctW (Rd One Texts textL textsL textsW listW)
set_option linter.unusedVariables false
set_option linter.unusedSimpArgs false
set_option maxRecDepth 100000
def ExtR (u v : World) : Prop := Below u.heap.size u v
theorem ExtR.refl (w : World) : ExtR w w := Below.refl _ _
theorem ExtR.trans {u v w : World} (h : ExtR u v) (k : ExtR v w) : ExtR u w := Below.trans h (Below.mono k h.size)
theorem Mid.ext {W w w' : World} {Bt Br Bm : Nat} {cs : Array Value} {r : RS} (h : Mid W Bt Br Bm cs r w) (hb : Below w.heap.size w w') : Mid W Bt Br Bm cs r w' :=
 ⟨(hb.block _ (Array.getElem?_eq_some_iff.1 h.t).1).trans h.t, (hb.block _ (Array.getElem?_eq_some_iff.1 h.m).1).trans h.m, h.r.mod (Mod.of_below (M := fun _ => False) hb) (fun h => h), h.b.trans (hb.mono h.b.size)⟩
theorem strs_over {w w' : World} {a : Option Addr} {ts : List ByteArray} {B : Nat} (h : Strs w a ts) (hm : Mod (fun k => k = B) w w') (ha : ∀ ad, a = some ad → ts ≠ [] → ad.block ≠ B) : Strs w' a ts := by
 intro i hi
 obtain ⟨b, off, rfl, hc⟩ := h i hi
 refine ⟨b, off, rfl, ?_⟩
 rw [hm.cell (cell_lt hc) (fun e => ha _ rfl (fun e2 => by rw [e2] at hi; exact absurd hi (Nat.not_lt_zero _)) e)]
 exact hc
structure Mid0 (W : World) (Bt Br : Nat) (r : RS) (w : World) : Prop where
 t : w.heap[Bt]? = some (.cells (cellsM noMsg none 0) 56 (0, 0))
 r : Rd Br r w
 b : Below W.heap.size W w
theorem Mid0.one {W w w' : World} {Bt Br : Nat} {r r' : RS} (h : Mid0 W Bt Br r w) (hr : Rd Br r' w') (hm : One Br w w') (h1 : Bt ≠ Br) (h3 : W.heap.size ≤ Br) : Mid0 W Bt Br r' w' :=
 ⟨(hm.block Bt (Array.getElem?_eq_some_iff.1 h.t).1 h1).trans h.t, hr, h.b.trans (hm.to_below _ h.b.size (fun k e => e ▸ h3))⟩
set_option maxHeartbeats 6400000 in
theorem opened_any (s : List UInt8) (hs : s.length ≤ 1073741824) (W : World) :
 Calls Tryz.prog 83 #[.string (S s)] W fun e w' => ∃ a c, e = .returned (.tuple #[.agg (cellsM (openedR s).1 a c), .bool (openedB s)]) ∧ Strs w' a ((openedR s).1.keys.map S) ∧ Below W.heap.size W w' ∧ ∀ ad, a = some ad → W.heap.size ≤ ad.block := by
 have hM := opened_ok s hs
 obtain ⟨k, r1, e1⟩ : ∃ k r1, numR 1 ⟨s, 0⟩ = (k, r1) := ⟨_, _, rfl⟩
 obtain ⟨q, r2, e2⟩ : ∃ q r2, numR 1 r1 = (q, r2) := ⟨_, _, rfl⟩
 obtain ⟨rt, r3, e3⟩ : ∃ rt r3, numR 1 r2 = (rt, r3) := ⟨_, _, rfl⟩
 obtain ⟨b, r4, e4⟩ : ∃ b r4, numR 6 r3 = (b, r4) := ⟨_, _, rfl⟩
 obtain ⟨d, r5, e5⟩ : ∃ d r5, numR 6 r4 = (d, r5) := ⟨_, _, rfl⟩
 obtain ⟨rf, r6, e6⟩ : ∃ rf r6, numR 6 r5 = (rf, r6) := ⟨_, _, rfl⟩
 obtain ⟨t, r7, e7⟩ : ∃ t r7, textR 16 r6 = (t, r7) := ⟨_, _, rfl⟩
 obtain ⟨g, r8, e8⟩ : ∃ g r8, textR 16 r7 = (g, r8) := ⟨_, _, rfl⟩
 obtain ⟨bo, r9, e9⟩ : ∃ bo r9, textR 200 r8 = (bo, r9) := ⟨_, _, rfl⟩
 obtain ⟨ks, r10, e10⟩ : ∃ ks r10, listR 3 16 r9 = (ks, r10) := ⟨_, _, rfl⟩
 have hE : openedR s = (⟨k, q, d, rt, rf, b, t, g, bo, ks⟩, r10) := by
  unfold openedR
  simp only [e1, e2, e3, e4, e5, e6, e7, e8, e9, e10]
 have hl0 : (⟨s, 0⟩ : RS).s.length ≤ 1073741824 := hs
 have hl1 : r1.s.length ≤ 1073741824 := by have := OctW.numR_len 1 ⟨s, 0⟩; rw [e1] at this; exact Nat.le_trans this hl0
 have hl2 : r2.s.length ≤ 1073741824 := by have := OctW.numR_len 1 r1; rw [e2] at this; exact Nat.le_trans this hl1
 have hl3 : r3.s.length ≤ 1073741824 := by have := OctW.numR_len 1 r2; rw [e3] at this; exact Nat.le_trans this hl2
 have hl4 : r4.s.length ≤ 1073741824 := by have := OctW.numR_len 6 r3; rw [e4] at this; exact Nat.le_trans this hl3
 have hl5 : r5.s.length ≤ 1073741824 := by have := OctW.numR_len 6 r4; rw [e5] at this; exact Nat.le_trans this hl4
 have hl6 : r6.s.length ≤ 1073741824 := by have := OctW.numR_len 6 r5; rw [e6] at this; exact Nat.le_trans this hl5
 have hl7 : r7.s.length ≤ 1073741824 := by have := OctW.textR_len 16 r6; rw [e7] at this; exact Nat.le_trans this hl6
 have hl8 : r8.s.length ≤ 1073741824 := by have := OctW.textR_len 16 r7; rw [e8] at this; exact Nat.le_trans this hl7
 have hl9 : r9.s.length ≤ 1073741824 := by have := OctW.textR_len 200 r8; rw [e9] at this; exact Nat.le_trans this hl8
 have C1 := Lib.hid (fun (B : Nat) (w : World) (h : Rd B ⟨s, 0⟩ w) => OctW.num_any B ⟨s, 0⟩ 1 (by omega) (by omega) (by omega) w h)
 have C2 := Lib.hid (fun (B : Nat) (w : World) (h : Rd B r1 w) => OctW.num_any B r1 1 (by omega) (by omega) (by omega) w h)
 have C3 := Lib.hid (fun (B : Nat) (w : World) (h : Rd B r2 w) => OctW.num_any B r2 1 (by omega) (by omega) (by omega) w h)
 have C4 := Lib.hid (fun (B : Nat) (w : World) (h : Rd B r3 w) => OctW.num_any B r3 6 (by omega) (by omega) (by omega) w h)
 have C5 := Lib.hid (fun (B : Nat) (w : World) (h : Rd B r4 w) => OctW.num_any B r4 6 (by omega) (by omega) (by omega) w h)
 have C6 := Lib.hid (fun (B : Nat) (w : World) (h : Rd B r5 w) => OctW.num_any B r5 6 (by omega) (by omega) (by omega) w h)
 have C7 := Lib.hid (fun (B : Nat) (w : World) (h : Rd B r6 w) => OctW.text_any B r6 16 (by omega) (by omega) (by omega) w h)
 have C8 := Lib.hid (fun (B : Nat) (w : World) (h : Rd B r7 w) => OctW.text_any B r7 16 (by omega) (by omega) (by omega) w h)
 have C9 := Lib.hid (fun (B : Nat) (w : World) (h : Rd B r8 w) => OctW.text_any B r8 200 (by omega) (by omega) (by omega) w h)
 have C10 := Lib.hid (fun (B : Nat) (w : World) (h : Rd B r9 w) => OctW.list_any B r9 3 16 (by omega) (by omega) (by omega) (by omega) (by omega) w h)
 have CE := Lib.hid (fun (B : Nat) (w : World) (h : Rd B r10 w) => OctW.end_any B r10 w h)
 rw [e1] at C1; rw [e2] at C2; rw [e3] at C3; rw [e4] at C4; rw [e5] at C5; rw [e6] at C6; rw [e7] at C7; rw [e8] at C8; rw [e9] at C9; rw [e10] at C10
 simp only at C1 C2 C3 C4 C5 C6 C7 C8 C9 C10
 have hB : openedB s = (decide (endR r10 = 0) && decide ((k : Int) ≠ 0) && rightL ⟨k, q, d, rt, rf, b, t, g, bo, ks⟩) := by unfold openedB; rw [hE]
 rw [hE] at hM ⊢
 rw [hB]
 simp only at hM ⊢
 have CR := Lib.hid (fun (a : Option Addr) (c : Nat) (w : World) (h : Strs w a (ks.map S)) => right_any ⟨k, q, d, rt, rf, b, t, g, bo, ks⟩ hM a c w h)
 generalize hmm : (⟨k, q, d, rt, rf, b, t, g, bo, ks⟩ : Msg) = mm at *
 have hcm : ∀ a c, cellsM mm a c = #[.int .i64 k, .int .i64 q, .int .i64 d, .int .i64 rt, .int .i64 rf, .int .i64 b, .string (S t), .string (S g), .string (S bo), .slice a ks.length c] := fun a c => by rw [← hmm]; rfl
 have HCM := Lib.hid hcm
 have HKS : Hid (mm.keys = ks) := by show _ = _; rw [← hmm]
 have hmk : mm.kind = (k : Int) := by rw [← hmm]
 clear hcm hmm hE hB hM e1 e2 e3 e4 e5 e6 e7 e8 e9 e10 hl0 hl1 hl2 hl3 hl4 hl5 hl6 hl7 hl8 hl9
 go_enter Tryz.func83, Tryz.ntmps83
 go_wp2_with fail
 refine (OctW.new_any s _).mono ?_
 rintro e w1 ⟨rfl, hrd, hb⟩
 obtain ⟨Bt, hBt⟩ : ∃ B, W.heap.size = B := ⟨_, rfl⟩
 obtain ⟨Br, hBr⟩ : ∃ B, W.heap.size + 1 = B := ⟨_, rfl⟩
 have M0 : Hid (Mid0 W Bt Br ⟨s, 0⟩ w1) := by
  rw [World.size_alloc, hBr] at hrd
  refine ⟨?_, hrd, ((Below.refl _ _).alloc (Nat.le_refl _) _).trans (hb.mono (by rw [World.size_alloc]; omega))⟩
  rw [← hBt, hb.block _ (by rw [World.size_alloc]; omega)]
  exact heap_alloc_new W _
 have hne : Bt ≠ Br := by omega
 have hle : W.heap.size ≤ Br := by omega
 clear hrd hb
 rw [World.size_alloc, hBr, hBt]
 have HNE := Lib.hid hne
 have HLE := Lib.hid hle
 have HBR := Lib.hid hBr
 have HBT := Lib.hid hBt
 clear hne hle hBr hBt
 go_wp2_with fail
 refine (C1.out Br _ M0.out.r).mono ?_
 rintro e w2 ⟨rfl, hr, hm⟩
 have M1 := Lib.hid (M0.out.one hr hm HNE.out HLE.out)
 clear hr hm M0 C1
 go_wp2_with fail
 refine (C2.out Br _ M1.out.r).mono ?_
 rintro e w3 ⟨rfl, hr, hm⟩
 have M2 := Lib.hid (M1.out.one hr hm HNE.out HLE.out)
 clear hr hm M1 C2
 go_wp2_with fail
 refine (C3.out Br _ M2.out.r).mono ?_
 rintro e w4 ⟨rfl, hr, hm⟩
 have M3 := Lib.hid (M2.out.one hr hm HNE.out HLE.out)
 clear hr hm M2 C3
 go_wp2_with fail
 obtain ⟨Bm, hBm⟩ : ∃ B, w4.heap.size = B := ⟨_, rfl⟩
 obtain ⟨w5, hw5⟩ : ∃ w5 : World, w5 = w4.alloc (.cells #[.int .i64 (k : Int), .int .i64 (q : Int), .int .i64 0, .int .i64 (rt : Int), .int .i64 0, .int .i64 0, .string ⟨#[]⟩, .string ⟨#[]⟩, .string ⟨#[]⟩, .slice none 0 0] 56) := ⟨_, rfl⟩
 have M4 : Hid (Mid W Bt Br Bm #[.int .i64 (k : Int), .int .i64 (q : Int), .int .i64 0, .int .i64 (rt : Int), .int .i64 0, .int .i64 0, .string ⟨#[]⟩, .string ⟨#[]⟩, .string ⟨#[]⟩, .slice none 0 0] r3 w5) := by
  have hbb : Below w4.heap.size w4 w5 := by rw [hw5]; exact (Below.refl _ _).alloc (Nat.le_refl _) _
  have h0 := M3.out
  refine ⟨?_, ?_, ?_, h0.b.trans (hbb.mono h0.b.size)⟩
  · rw [hbb.block _ (Array.getElem?_eq_some_iff.1 h0.t).1]; exact h0.t
  · rw [hw5, ← hBm]; exact heap_alloc_new w4 _
  · exact h0.r.mod (Mod.of_below (M := fun _ => False) hbb) (fun h => h)
 have HRT := HNE
 have HRM : Hid (Bm ≠ Br) := by
  have := M3.out.r.lt
  show _ ≠ _
  omega
 have HTM : Hid (Bt ≠ Bm) := by
  have := (Array.getElem?_eq_some_iff.1 M3.out.t).1
  show _ ≠ _
  omega
 have HLM : Hid (W.heap.size ≤ Bm) := by
  have := M3.out.b.size
  show _ ≤ _
  omega
 rw [← hw5, hBm]
 clear hw5 hBm M3
 refine (C4.out Br _ M4.out.r).mono ?_
 rintro e w6 ⟨rfl, hr, hm⟩
 have M5 := Lib.hid (M4.out.one hr hm HRT.out HRM.out HLE.out)
 clear hr hm M4 C4
 go_wp2_with fail
 refine (C5.out Br _ M5.out.r).mono ?_
 rintro e w7 ⟨rfl, hr, hm⟩
 have M6 := Lib.hid (M5.out.one hr hm HRT.out HRM.out HLE.out)
 clear hr hm M5 C5
 go_wp2_with fail
 refine (C6.out Br _ M6.out.r).mono ?_
 rintro e w8 ⟨rfl, hr, hm⟩
 have M7 := Lib.hid (M6.out.one hr hm HRT.out HRM.out HLE.out)
 clear hr hm M6 C6
 have q5 : w8.cell? ⟨Bm, 5, none⟩ = some (.int .i64 0) := M7.out.cell 5 _ rfl
 have f5 : w8.frozen? ⟨Bm, 5, none⟩ = false := M7.out.free 5
 have q2 : w8.cell? ⟨Bm, 2, none⟩ = some (.int .i64 0) := M7.out.cell 2 _ rfl
 have f2 : w8.frozen? ⟨Bm, 2, none⟩ = false := M7.out.free 2
 have q4 : w8.cell? ⟨Bm, 4, none⟩ = some (.int .i64 0) := M7.out.cell 4 _ rfl
 have f4 : w8.frozen? ⟨Bm, 4, none⟩ = false := M7.out.free 4
 go_wp2_with fail
 have M8 : Hid (Mid W Bt Br Bm #[.int .i64 (k : Int), .int .i64 (q : Int), .int .i64 (d : Int), .int .i64 (rt : Int), .int .i64 (rf : Int), .int .i64 (b : Int), .string ⟨#[]⟩, .string ⟨#[]⟩, .string ⟨#[]⟩, .slice none 0 0] r6 (((w8.setCell ⟨Bm, 5, none⟩ (.int .i64 (b : Int))).setCell ⟨Bm, 2, none⟩ (.int .i64 (d : Int))).setCell ⟨Bm, 4, none⟩ (.int .i64 (rf : Int)))) :=
  ((M7.out.set 5 _ rfl HTM.out HRM.out HLM.out).set 2 _ rfl HTM.out HRM.out HLM.out).set 4 _ rfl HTM.out HRM.out HLM.out
 generalize ((w8.setCell ⟨Bm, 5, none⟩ (.int .i64 (b : Int))).setCell ⟨Bm, 2, none⟩ (.int .i64 (d : Int))).setCell ⟨Bm, 4, none⟩ (.int .i64 (rf : Int)) = w9 at *
 clear M7 q5 f5 q2 f2 q4 f4
 refine (C7.out Br _ M8.out.r).mono ?_
 rintro e w10 ⟨rfl, hr, hm⟩
 have M9 := Lib.hid (M8.out.one hr hm HRT.out HRM.out HLE.out)
 clear hr hm M8 C7
 go_wp2_with fail
 refine (C8.out Br _ M9.out.r).mono ?_
 rintro e w11 ⟨rfl, hr, hm⟩
 have M10 := Lib.hid (M9.out.one hr hm HRT.out HRM.out HLE.out)
 clear hr hm M9 C8
 go_wp2_with fail
 refine (C9.out Br _ M10.out.r).mono ?_
 rintro e w12 ⟨rfl, hr, hm⟩
 have M11 := Lib.hid (M10.out.one hr hm HRT.out HRM.out HLE.out)
 clear hr hm M10 C9
 have q6 : w12.cell? ⟨Bm, 6, none⟩ = some (.string ⟨#[]⟩) := M11.out.cell 6 _ rfl
 have f6 : w12.frozen? ⟨Bm, 6, none⟩ = false := M11.out.free 6
 have q7 : w12.cell? ⟨Bm, 7, none⟩ = some (.string ⟨#[]⟩) := M11.out.cell 7 _ rfl
 have f7 : w12.frozen? ⟨Bm, 7, none⟩ = false := M11.out.free 7
 have q8 : w12.cell? ⟨Bm, 8, none⟩ = some (.string ⟨#[]⟩) := M11.out.cell 8 _ rfl
 have f8 : w12.frozen? ⟨Bm, 8, none⟩ = false := M11.out.free 8
 go_wp2_with fail
 have M12 : Hid (Mid W Bt Br Bm #[.int .i64 (k : Int), .int .i64 (q : Int), .int .i64 (d : Int), .int .i64 (rt : Int), .int .i64 (rf : Int), .int .i64 (b : Int), .string (S t), .string (S g), .string (S bo), .slice none 0 0] r9 (((w12.setCell ⟨Bm, 6, none⟩ (.string (S t))).setCell ⟨Bm, 7, none⟩ (.string (S g))).setCell ⟨Bm, 8, none⟩ (.string (S bo)))) :=
  ((M11.out.set 6 _ rfl HTM.out HRM.out HLM.out).set 7 _ rfl HTM.out HRM.out HLM.out).set 8 _ rfl HTM.out HRM.out HLM.out
 generalize ((w12.setCell ⟨Bm, 6, none⟩ (.string (S t))).setCell ⟨Bm, 7, none⟩ (.string (S g))).setCell ⟨Bm, 8, none⟩ (.string (S bo)) = w13 at *
 clear M11 q6 f6 q7 f7 q8 f8
 refine (C10.out Br _ M12.out.r).mono ?_
 rintro e w14 ⟨v, rfl, htx, hr, hm⟩
 have M13 := Lib.hid (M12.out.one hr hm HRT.out HRM.out HLE.out)
 obtain ⟨a, c, hv, hst⟩ := htx.strs
 subst hv
 have HST := Lib.hid hst
 have HSB : Hid (w13.heap.size ≤ w14.heap.size) := hm.size
 have HAD : Hid (∀ ad, a = some ad → w13.heap.size ≤ ad.block) := fun ad e => ownBlock_of_own htx ad.block (by rw [e]; rfl)
 have HWL : Hid (W.heap.size ≤ w13.heap.size) := M12.out.b.size
 have HML : Hid (Bm < w13.heap.size ∧ Bt < w13.heap.size) := ⟨(Array.getElem?_eq_some_iff.1 M12.out.m).1, (Array.getElem?_eq_some_iff.1 M12.out.t).1⟩
 clear hr hm M12 C10 htx hst
 have q9 : w14.cell? ⟨Bm, 9, none⟩ = some (.slice none 0 0) := M13.out.cell 9 _ rfl
 have f9 : w14.frozen? ⟨Bm, 9, none⟩ = false := M13.out.free 9
 go_wp2_with fail
 --REGION
 have M14 : Hid (Mid W Bt Br Bm #[.int .i64 (k : Int), .int .i64 (q : Int), .int .i64 (d : Int), .int .i64 (rt : Int), .int .i64 (rf : Int), .int .i64 (b : Int), .string (S t), .string (S g), .string (S bo), .slice a ks.length c] r10 (w14.setCell ⟨Bm, 9, none⟩ (.slice a ks.length c))) := M13.out.set 9 _ rfl HTM.out HRM.out HLM.out
 have HSY : Hid (Strs (w14.setCell ⟨Bm, 9, none⟩ (.slice a ks.length c)) a (ks.map S)) := strs_over HST.out (setm (Mod.refl _ _) 9 _) (fun ad e _ => by have h1 := HAD.out ad e; have h2 := HML.out; omega)
 clear M13 q9 f9 HST
 generalize w14.setCell ⟨Bm, 9, none⟩ (.slice a ks.length c) = w15 at *
 have HSX : Hid (∀ w, Mod (fun k => k = Bt) w15 w → Strs w a (ks.map S)) := fun w hm => strs_over HSY.out hm (fun ad e _ => by have h1 := HAD.out ad e; have h2 := HML.out; omega)
 have HBX : Hid (∀ w, Mod (fun k => k = Bt) w15 w → ∀ (i : Nat) (v : Value), (#[.int .i64 (k : Int), .int .i64 (q : Int), .int .i64 (d : Int), .int .i64 (rt : Int), .int .i64 (rf : Int), .int .i64 (b : Int), .string (S t), .string (S g), .string (S bo), .slice a ks.length c] : Array Value)[i]? = some v → w.cell? ⟨Bm, i, none⟩ = some v) := fun w hm i v hv => by
  rw [hm.cell (Array.getElem?_eq_some_iff.1 M14.out.m).1 (fun e => HTM.out e.symm)]; exact M14.out.cell i v hv
 have HRX : Hid (∀ w, Mod (fun k => k = Bt) w15 w → Rd Br r10 w) := fun w hm => M14.out.r.mod hm (fun e => HRT.out e.symm)
 have HT15 : Hid (Bt < w15.heap.size) := (Array.getElem?_eq_some_iff.1 M14.out.t).1
 generalize hrl : rightL mm = rl at *
 generalize hki : (k : Int) = ki at *
 have HKI := Lib.hid hki
 clear hki
 by_cases he : endR r10 = 0
 case neg =>
  have HFIN : Hid ((decide (endR r10 = 0) && decide (ki ≠ 0) && rl) = false) := by show _ = _; simp [he]
  have hbq : ((((endR r10 : Nat) : Int)) == 0) = false := OctW.eq_f he
  refine GrowN.wp_region_n 14 [some (.inl (.agg #[.int .i64 ki, .int .i64 (q : Int), .int .i64 (d : Int), .int .i64 (rt : Int), .int .i64 (rf : Int), .int .i64 (b : Int), .string (S t), .string (S g), .string (S bo), .slice a ks.length c])), none, some (.inl (.int .i64 ((endR r10 : Nat) : Int))), none, none, none, none, none, none, none, none, none, none, some (.inr (fun _ _ w => w.heap[Bt]? = some (.cells #[.int .i64 ki, .int .i64 (q : Int), .int .i64 (d : Int), .int .i64 (rt : Int), .int .i64 (rf : Int), .int .i64 (b : Int), .string (S t), .string (S g), .string (S bo), .slice a ks.length c] 56 (0, 0))))] (Once Bt (.cells #[.int .i64 ki, .int .i64 (q : Int), .int .i64 (d : Int), .int .i64 (rt : Int), .int .i64 (rf : Int), .int .i64 (b : Int), .string (S t), .string (S g), .string (S bo), .slice a ks.length c] 56 (0, 0))) (by kernel_rfl) (by kernel_rfl) (by kernel_rfl) (Once.refl _ _) (fun _ _ _ => Once.trans) ?_ ?_
  ·
   intro K hK Y hY l v w w' hR h
   simp only [List.mem_cons, List.not_mem_nil, or_false] at hK
   rcases hK with rfl | rfl | rfl | rfl | rfl | rfl | rfl | rfl | rfl | rfl | rfl | rfl | rfl | rfl <;> simp only [reduceCtorEq, Option.some.injEq, Sum.inr.injEq] at hY
   subst hY
   exact hR.stays h
  simp only [List.take_succ_cons, List.take_zero, List.drop_succ_cons, List.drop_zero]
  refine GrowN.g_con rfl (fun w hw hF => ?_) ?_
  ·
   clear hF
   have hm := ((Mod.refl (fun k => k = Bt) w15).drew).trans hw.1
   have k0 := HBX.out w hm 0 _ rfl
   have k1 := HBX.out w hm 1 _ rfl
   have k2 := HBX.out w hm 2 _ rfl
   have k3 := HBX.out w hm 3 _ rfl
   have k4 := HBX.out w hm 4 _ rfl
   have k5 := HBX.out w hm 5 _ rfl
   have k6 := HBX.out w hm 6 _ rfl
   have k7 := HBX.out w hm 7 _ rfl
   have k8 := HBX.out w hm 8 _ rfl
   have k9 := HBX.out w hm 9 _ rfl
   go_simp
   exact Once.refl _ _ _
  go_frame
  refine GrowN.g_det rfl ?_
  apply Exists.intro
  refine ⟨fun w hw hF => ?_, ?_⟩
  · clear hF
    go_simp
    exact ⟨rfl, Once.refl _ _ _⟩
  go_frame
  refine GrowN.g_con rfl (fun w hw hF => ?_) ?_
  · clear hF
    have hm := ((Mod.refl (fun k => k = Bt) w15).drew).trans hw.1
    go_simp
    exact (CE.out Br w (HRX.out w hm)).mono fun e w3 h => ⟨_, h.1, rfl, h.2 ▸ Once.refl _ _ _⟩
  go_frame
  iterate 10
   first
   | refine GrowN.g_skip rfl ?_
   | refine GrowN.g_det rfl ?_
     apply Exists.intro
     refine ⟨fun w hw hF => ?_, ?_⟩
     · clear hF
       go_simp
       exact ⟨rfl, Once.refl _ _ _⟩
   go_frame
  refine GrowN.g_new rfl (fun w hw hF => ?_) (fun _ => ?_)
  ·
   clear hF
   obtain ⟨z, hz, hzz⟩ := (Once.drew hw).cells M14.out.t rfl
   obtain ⟨z0, z1, z2, z3, z4, z5, z6, z7, z8, z9, rfl⟩ := ten z hz
   have k0 : w.cell? ⟨Bt, 0, none⟩ = some z0 := by rw [Lib.cell_of_heap hzz]; rfl
   have k1 : w.cell? ⟨Bt, 1, none⟩ = some z1 := by rw [Lib.cell_of_heap hzz]; rfl
   have k2 : w.cell? ⟨Bt, 2, none⟩ = some z2 := by rw [Lib.cell_of_heap hzz]; rfl
   have k3 : w.cell? ⟨Bt, 3, none⟩ = some z3 := by rw [Lib.cell_of_heap hzz]; rfl
   have k4 : w.cell? ⟨Bt, 4, none⟩ = some z4 := by rw [Lib.cell_of_heap hzz]; rfl
   have k5 : w.cell? ⟨Bt, 5, none⟩ = some z5 := by rw [Lib.cell_of_heap hzz]; rfl
   have k6 : w.cell? ⟨Bt, 6, none⟩ = some z6 := by rw [Lib.cell_of_heap hzz]; rfl
   have k7 : w.cell? ⟨Bt, 7, none⟩ = some z7 := by rw [Lib.cell_of_heap hzz]; rfl
   have k8 : w.cell? ⟨Bt, 8, none⟩ = some z8 := by rw [Lib.cell_of_heap hzz]; rfl
   have k9 : w.cell? ⟨Bt, 9, none⟩ = some z9 := by rw [Lib.cell_of_heap hzz]; rfl
   have hfr : ∀ j, w.frozen? ⟨Bt, j, none⟩ = false := fun j => Lib.frozen_of_heap hzz j
   have HH := Lib.hid (put10_heap (z := #[z0, z1, z2, z3, z4, z5, z6, z7, z8, z9]) rfl hzz (.int .i64 ki) (.int .i64 (q : Int)) (.int .i64 (d : Int)) (.int .i64 (rt : Int)) (.int .i64 (rf : Int)) (.int .i64 (b : Int)) (.string (S t)) (.string (S g)) (.string (S bo)) (.slice a ks.length c))
   have HBW := Lib.hid (put10_mod w Bt (.int .i64 ki) (.int .i64 (q : Int)) (.int .i64 (d : Int)) (.int .i64 (rt : Int)) (.int .i64 (rf : Int)) (.int .i64 (b : Int)) (.string (S t)) (.string (S g)) (.string (S bo)) (.slice a ks.length c))
   clear hzz
   go_simp
   exact ⟨HH.out, HBW.out, .inr HH.out⟩
  go_frame
  refine GrowN.g_nil fun w16 hw16 hF => ?_
  have hz9 : w16.heap[Bt]? = some (.cells #[.int .i64 ki, .int .i64 (q : Int), .int .i64 (d : Int), .int .i64 (rt : Int), .int .i64 (rf : Int), .int .i64 (b : Int), .string (S t), .string (S g), .string (S bo), .slice a ks.length c] 56 (0, 0)) := hF _ (List.mem_singleton.2 rfl)
  have hm16 := ((Mod.refl (fun k => k = Bt) w15).drew).trans hw16.1
  have HS16 := Lib.hid (HSX.out w16 hm16)
  have HB16 : Hid (Below W.heap.size W w16) := M14.out.b.trans (hm16.to_below _ M14.out.b.size (fun k e => by rw [e, ← HBT.out]; exact Nat.le_refl _))
  clear hF hw16 hm16
  have c0 : w16.cell? ⟨Bt, 0, none⟩ = some (.int .i64 ki) := by rw [Lib.cell_of_heap hz9]; rfl
  have c1 : w16.cell? ⟨Bt, 1, none⟩ = some (.int .i64 (q : Int)) := by rw [Lib.cell_of_heap hz9]; rfl
  have c2 : w16.cell? ⟨Bt, 2, none⟩ = some (.int .i64 (d : Int)) := by rw [Lib.cell_of_heap hz9]; rfl
  have c3 : w16.cell? ⟨Bt, 3, none⟩ = some (.int .i64 (rt : Int)) := by rw [Lib.cell_of_heap hz9]; rfl
  have c4 : w16.cell? ⟨Bt, 4, none⟩ = some (.int .i64 (rf : Int)) := by rw [Lib.cell_of_heap hz9]; rfl
  have c5 : w16.cell? ⟨Bt, 5, none⟩ = some (.int .i64 (b : Int)) := by rw [Lib.cell_of_heap hz9]; rfl
  have c6 : w16.cell? ⟨Bt, 6, none⟩ = some (.string (S t)) := by rw [Lib.cell_of_heap hz9]; rfl
  have c7 : w16.cell? ⟨Bt, 7, none⟩ = some (.string (S g)) := by rw [Lib.cell_of_heap hz9]; rfl
  have c8 : w16.cell? ⟨Bt, 8, none⟩ = some (.string (S bo)) := by rw [Lib.cell_of_heap hz9]; rfl
  have c9 : w16.cell? ⟨Bt, 9, none⟩ = some (.slice a ks.length c) := by rw [Lib.cell_of_heap hz9]; rfl
  go_wp2_with fail
  refine bodyPost_ret (v := .tuple #[.agg #[.int .i64 ki, .int .i64 (q : Int), .int .i64 (d : Int), .int .i64 (rt : Int), .int .i64 (rf : Int), .int .i64 (b : Int), .string (S t), .string (S g), .string (S bo), .slice a ks.length c], .bool false]) ?_ rfl ⟨a, c, ?_, ?_, ?_⟩
  · clear hz9
    simp [results, Tryz.results83, go_sem, c0, c1, c2, c3, c4, c5, c6, c7, c8, c9]
  · rw [HCM.out, hrl, HKI.out, HFIN.out]
  · exact HS16.out
  · exact ⟨HB16.out, fun ad e => Nat.le_trans HWL.out (HAD.out ad e)⟩
 case pos =>
  have CE0 : Hid (∀ (B : Nat) (w : World), Rd B r10 w → Calls Tryz.prog 145 #[.pointer (some ⟨B, 0, none⟩)] w fun e w' => e = .returned (.int .i64 0) ∧ w = w') := by
   have h := CE.out
   rw [he] at h
   exact h
  have HE := Lib.hid he
  clear CE he
  by_cases hk0 : ki = 0
  case pos =>
   have HFIN : Hid ((decide (endR r10 = 0) && decide (ki ≠ 0) && rl) = false) := by show _ = _; simp [hk0]
   subst hk0
   refine GrowN.wp_region_n 14 [some (.inl (.agg #[.int .i64 0, .int .i64 (q : Int), .int .i64 (d : Int), .int .i64 (rt : Int), .int .i64 (rf : Int), .int .i64 (b : Int), .string (S t), .string (S g), .string (S bo), .slice a ks.length c])), none, some (.inl (.int .i64 0)), none, none, none, none, none, none, none, none, none, none, some (.inr (fun _ _ w => w.heap[Bt]? = some (.cells #[.int .i64 0, .int .i64 (q : Int), .int .i64 (d : Int), .int .i64 (rt : Int), .int .i64 (rf : Int), .int .i64 (b : Int), .string (S t), .string (S g), .string (S bo), .slice a ks.length c] 56 (0, 0))))] (Once Bt (.cells #[.int .i64 0, .int .i64 (q : Int), .int .i64 (d : Int), .int .i64 (rt : Int), .int .i64 (rf : Int), .int .i64 (b : Int), .string (S t), .string (S g), .string (S bo), .slice a ks.length c] 56 (0, 0))) (by kernel_rfl) (by kernel_rfl) (by kernel_rfl) (Once.refl _ _) (fun _ _ _ => Once.trans) ?_ ?_
   · intro K hK Y hY l v w w' hR h
     simp only [List.mem_cons, List.not_mem_nil, or_false] at hK
     rcases hK with rfl | rfl | rfl | rfl | rfl | rfl | rfl | rfl | rfl | rfl | rfl | rfl | rfl | rfl <;> simp only [reduceCtorEq, Option.some.injEq, Sum.inr.injEq] at hY
     subst hY
     exact hR.stays h
   simp only [List.take_succ_cons, List.take_zero, List.drop_succ_cons, List.drop_zero]
   refine GrowN.g_con rfl (fun w hw hF => ?_) ?_
   ·
    clear hF
    have hm := ((Mod.refl (fun k => k = Bt) w15).drew).trans hw.1
    have k0 := HBX.out w hm 0 _ rfl
    have k1 := HBX.out w hm 1 _ rfl
    have k2 := HBX.out w hm 2 _ rfl
    have k3 := HBX.out w hm 3 _ rfl
    have k4 := HBX.out w hm 4 _ rfl
    have k5 := HBX.out w hm 5 _ rfl
    have k6 := HBX.out w hm 6 _ rfl
    have k7 := HBX.out w hm 7 _ rfl
    have k8 := HBX.out w hm 8 _ rfl
    have k9 := HBX.out w hm 9 _ rfl
    go_simp
    exact Once.refl _ _ _
   go_frame
   refine GrowN.g_det rfl ?_
   apply Exists.intro
   refine ⟨fun w hw hF => ?_, ?_⟩
   · clear hF
     go_simp
     exact ⟨rfl, Once.refl _ _ _⟩
   go_frame
   refine GrowN.g_con rfl (fun w hw hF => ?_) ?_
   · clear hF
     have hm := ((Mod.refl (fun k => k = Bt) w15).drew).trans hw.1
     go_simp
     exact (CE0.out Br w (HRX.out w hm)).mono fun e w3 h => ⟨_, h.1, rfl, h.2 ▸ Once.refl _ _ _⟩
   iterate 3
    go_frame
    refine GrowN.g_det rfl ?_
    apply Exists.intro
    refine ⟨fun w hw hF => ?_, ?_⟩
    · clear hF
      go_simp
      exact ⟨rfl, Once.refl _ _ _⟩
   go_frame
   refine GrowN.g_det rfl ?_
   apply Exists.intro
   refine ⟨fun w hw hF => ?_, ?_⟩
   · clear hF
     have hm := ((Mod.refl (fun k => k = Bt) w15).drew).trans hw.1
     have k0 := HBX.out w hm 0 _ rfl
     go_simp
     exact ⟨rfl, Once.refl _ _ _⟩
   go_frame
   iterate 6
    first
    | refine GrowN.g_skip rfl ?_
    | refine GrowN.g_det rfl ?_
      apply Exists.intro
      refine ⟨fun w hw hF => ?_, ?_⟩
      · clear hF
        go_simp
        exact ⟨rfl, Once.refl _ _ _⟩
    go_frame
   refine GrowN.g_new rfl (fun w hw hF => ?_) (fun _ => ?_)
   ·
    clear hF
    obtain ⟨z, hz, hzz⟩ := (Once.drew hw).cells M14.out.t rfl
    obtain ⟨z0, z1, z2, z3, z4, z5, z6, z7, z8, z9, rfl⟩ := ten z hz
    have k0 : w.cell? ⟨Bt, 0, none⟩ = some z0 := by rw [Lib.cell_of_heap hzz]; rfl
    have k1 : w.cell? ⟨Bt, 1, none⟩ = some z1 := by rw [Lib.cell_of_heap hzz]; rfl
    have k2 : w.cell? ⟨Bt, 2, none⟩ = some z2 := by rw [Lib.cell_of_heap hzz]; rfl
    have k3 : w.cell? ⟨Bt, 3, none⟩ = some z3 := by rw [Lib.cell_of_heap hzz]; rfl
    have k4 : w.cell? ⟨Bt, 4, none⟩ = some z4 := by rw [Lib.cell_of_heap hzz]; rfl
    have k5 : w.cell? ⟨Bt, 5, none⟩ = some z5 := by rw [Lib.cell_of_heap hzz]; rfl
    have k6 : w.cell? ⟨Bt, 6, none⟩ = some z6 := by rw [Lib.cell_of_heap hzz]; rfl
    have k7 : w.cell? ⟨Bt, 7, none⟩ = some z7 := by rw [Lib.cell_of_heap hzz]; rfl
    have k8 : w.cell? ⟨Bt, 8, none⟩ = some z8 := by rw [Lib.cell_of_heap hzz]; rfl
    have k9 : w.cell? ⟨Bt, 9, none⟩ = some z9 := by rw [Lib.cell_of_heap hzz]; rfl
    have hfr : ∀ j, w.frozen? ⟨Bt, j, none⟩ = false := fun j => Lib.frozen_of_heap hzz j
    have HH := Lib.hid (put10_heap (z := #[z0, z1, z2, z3, z4, z5, z6, z7, z8, z9]) rfl hzz (.int .i64 0) (.int .i64 (q : Int)) (.int .i64 (d : Int)) (.int .i64 (rt : Int)) (.int .i64 (rf : Int)) (.int .i64 (b : Int)) (.string (S t)) (.string (S g)) (.string (S bo)) (.slice a ks.length c))
    have HBW := Lib.hid (put10_mod w Bt (.int .i64 0) (.int .i64 (q : Int)) (.int .i64 (d : Int)) (.int .i64 (rt : Int)) (.int .i64 (rf : Int)) (.int .i64 (b : Int)) (.string (S t)) (.string (S g)) (.string (S bo)) (.slice a ks.length c))
    clear hzz
    go_simp
    exact ⟨HH.out, HBW.out, .inr HH.out⟩
   go_frame
   refine GrowN.g_nil fun w16 hw16 hF => ?_
   have hz9 : w16.heap[Bt]? = some (.cells #[.int .i64 0, .int .i64 (q : Int), .int .i64 (d : Int), .int .i64 (rt : Int), .int .i64 (rf : Int), .int .i64 (b : Int), .string (S t), .string (S g), .string (S bo), .slice a ks.length c] 56 (0, 0)) := hF _ (List.mem_singleton.2 rfl)
   have hm16 := ((Mod.refl (fun k => k = Bt) w15).drew).trans hw16.1
   have HS16 := Lib.hid (HSX.out w16 hm16)
   have HB16 : Hid (Below W.heap.size W w16) := M14.out.b.trans (hm16.to_below _ M14.out.b.size (fun k e => by rw [e, ← HBT.out]; exact Nat.le_refl _))
   clear hF hw16 hm16
   have c0 : w16.cell? ⟨Bt, 0, none⟩ = some (.int .i64 0) := by rw [Lib.cell_of_heap hz9]; rfl
   have c1 : w16.cell? ⟨Bt, 1, none⟩ = some (.int .i64 (q : Int)) := by rw [Lib.cell_of_heap hz9]; rfl
   have c2 : w16.cell? ⟨Bt, 2, none⟩ = some (.int .i64 (d : Int)) := by rw [Lib.cell_of_heap hz9]; rfl
   have c3 : w16.cell? ⟨Bt, 3, none⟩ = some (.int .i64 (rt : Int)) := by rw [Lib.cell_of_heap hz9]; rfl
   have c4 : w16.cell? ⟨Bt, 4, none⟩ = some (.int .i64 (rf : Int)) := by rw [Lib.cell_of_heap hz9]; rfl
   have c5 : w16.cell? ⟨Bt, 5, none⟩ = some (.int .i64 (b : Int)) := by rw [Lib.cell_of_heap hz9]; rfl
   have c6 : w16.cell? ⟨Bt, 6, none⟩ = some (.string (S t)) := by rw [Lib.cell_of_heap hz9]; rfl
   have c7 : w16.cell? ⟨Bt, 7, none⟩ = some (.string (S g)) := by rw [Lib.cell_of_heap hz9]; rfl
   have c8 : w16.cell? ⟨Bt, 8, none⟩ = some (.string (S bo)) := by rw [Lib.cell_of_heap hz9]; rfl
   have c9 : w16.cell? ⟨Bt, 9, none⟩ = some (.slice a ks.length c) := by rw [Lib.cell_of_heap hz9]; rfl
   go_wp2_with fail
   refine bodyPost_ret (v := .tuple #[.agg #[.int .i64 0, .int .i64 (q : Int), .int .i64 (d : Int), .int .i64 (rt : Int), .int .i64 (rf : Int), .int .i64 (b : Int), .string (S t), .string (S g), .string (S bo), .slice a ks.length c], .bool false]) ?_ rfl ⟨a, c, ?_, ?_, ?_⟩
   · clear hz9
     simp [results, Tryz.results83, go_sem, c0, c1, c2, c3, c4, c5, c6, c7, c8, c9]
   · rw [HCM.out, hrl, HKI.out, HFIN.out]
   · exact HS16.out
   · exact ⟨HB16.out, fun ad e => Nat.le_trans HWL.out (HAD.out ad e)⟩
  case neg =>
   have HFIN : Hid ((decide (endR r10 = 0) && decide (ki ≠ 0) && rl) = rl) := by show _ = _; rw [HE.out]; simp [hk0]
   have hkq : (ki != 0) = true := bne_iff_ne.2 hk0
   refine GrowN.wp_region_n 14 [some (.inl (.agg #[.int .i64 ki, .int .i64 (q : Int), .int .i64 (d : Int), .int .i64 (rt : Int), .int .i64 (rf : Int), .int .i64 (b : Int), .string (S t), .string (S g), .string (S bo), .slice a ks.length c])), none, some (.inl (.int .i64 0)), none, none, none, none, none, none, none, some (.inl (.agg #[.int .i64 ki, .int .i64 (q : Int), .int .i64 (d : Int), .int .i64 (rt : Int), .int .i64 (rf : Int), .int .i64 (b : Int), .string (S t), .string (S g), .string (S bo), .slice a ks.length c])), some (.inl (.bool rl)), none, some (.inr (fun _ _ w => w.heap[Bt]? = some (.cells #[.int .i64 ki, .int .i64 (q : Int), .int .i64 (d : Int), .int .i64 (rt : Int), .int .i64 (rf : Int), .int .i64 (b : Int), .string (S t), .string (S g), .string (S bo), .slice a ks.length c] 56 (0, 0))))] (Once Bt (.cells #[.int .i64 ki, .int .i64 (q : Int), .int .i64 (d : Int), .int .i64 (rt : Int), .int .i64 (rf : Int), .int .i64 (b : Int), .string (S t), .string (S g), .string (S bo), .slice a ks.length c] 56 (0, 0))) (by kernel_rfl) (by kernel_rfl) (by kernel_rfl) (Once.refl _ _) (fun _ _ _ => Once.trans) ?_ ?_
   · intro K hK Y hY l v w w' hR h
     simp only [List.mem_cons, List.not_mem_nil, or_false] at hK
     rcases hK with rfl | rfl | rfl | rfl | rfl | rfl | rfl | rfl | rfl | rfl | rfl | rfl | rfl | rfl <;> simp only [reduceCtorEq, Option.some.injEq, Sum.inr.injEq] at hY
     subst hY
     exact hR.stays h
   simp only [List.take_succ_cons, List.take_zero, List.drop_succ_cons, List.drop_zero]
   refine GrowN.g_con rfl (fun w hw hF => ?_) ?_
   ·
    clear hF
    have hm := ((Mod.refl (fun k => k = Bt) w15).drew).trans hw.1
    have k0 := HBX.out w hm 0 _ rfl
    have k1 := HBX.out w hm 1 _ rfl
    have k2 := HBX.out w hm 2 _ rfl
    have k3 := HBX.out w hm 3 _ rfl
    have k4 := HBX.out w hm 4 _ rfl
    have k5 := HBX.out w hm 5 _ rfl
    have k6 := HBX.out w hm 6 _ rfl
    have k7 := HBX.out w hm 7 _ rfl
    have k8 := HBX.out w hm 8 _ rfl
    have k9 := HBX.out w hm 9 _ rfl
    go_simp
    exact Once.refl _ _ _
   go_frame
   refine GrowN.g_det rfl ?_
   apply Exists.intro
   refine ⟨fun w hw hF => ?_, ?_⟩
   · clear hF
     go_simp
     exact ⟨rfl, Once.refl _ _ _⟩
   go_frame
   refine GrowN.g_con rfl (fun w hw hF => ?_) ?_
   · clear hF
     have hm := ((Mod.refl (fun k => k = Bt) w15).drew).trans hw.1
     go_simp
     exact (CE0.out Br w (HRX.out w hm)).mono fun e w3 h => ⟨_, h.1, rfl, h.2 ▸ Once.refl _ _ _⟩
   iterate 3
    go_frame
    refine GrowN.g_det rfl ?_
    apply Exists.intro
    refine ⟨fun w hw hF => ?_, ?_⟩
    · clear hF
      go_simp
      exact ⟨rfl, Once.refl _ _ _⟩
   go_frame
   refine GrowN.g_det rfl ?_
   apply Exists.intro
   refine ⟨fun w hw hF => ?_, ?_⟩
   · clear hF
     have hm := ((Mod.refl (fun k => k = Bt) w15).drew).trans hw.1
     have k0 := HBX.out w hm 0 _ rfl
     go_simp
     exact ⟨rfl, Once.refl _ _ _⟩
   iterate 3
    go_frame
    refine GrowN.g_det rfl ?_
    apply Exists.intro
    refine ⟨fun w hw hF => ?_, ?_⟩
    · clear hF
      go_simp
      exact ⟨rfl, Once.refl _ _ _⟩
   go_frame
   refine GrowN.g_con rfl (fun w hw hF => ?_) ?_
   ·
    clear hF
    have hm := ((Mod.refl (fun k => k = Bt) w15).drew).trans hw.1
    have k0 := HBX.out w hm 0 _ rfl
    have k1 := HBX.out w hm 1 _ rfl
    have k2 := HBX.out w hm 2 _ rfl
    have k3 := HBX.out w hm 3 _ rfl
    have k4 := HBX.out w hm 4 _ rfl
    have k5 := HBX.out w hm 5 _ rfl
    have k6 := HBX.out w hm 6 _ rfl
    have k7 := HBX.out w hm 7 _ rfl
    have k8 := HBX.out w hm 8 _ rfl
    have k9 := HBX.out w hm 9 _ rfl
    go_simp
    exact Once.refl _ _ _
   go_frame
   refine GrowN.g_con rfl (fun w hw hF => ?_) ?_
   ·
    clear hF
    have hm := ((Mod.refl (fun k => k = Bt) w15).drew).trans hw.1
    go_simp
    have hlt : Bt < w.heap.size := Nat.lt_of_lt_of_le HT15.out hm.size
    have hcr := CR.out a c w (HSX.out w hm)
    rw [HCM.out] at hcr
    exact hcr.mono fun e w3 h => ⟨_, h.1, rfl, Once.below h.2 hlt⟩
   go_frame
   refine GrowN.g_det rfl ?_
   apply Exists.intro
   refine ⟨fun w hw hF => ?_, ?_⟩
   · clear hF
     go_simp
     exact ⟨rfl, Once.refl _ _ _⟩
   go_frame
   refine GrowN.g_new rfl (fun w hw hF => ?_) (fun _ => ?_)
   ·
    clear hF
    obtain ⟨z, hz, hzz⟩ := (Once.drew hw).cells M14.out.t rfl
    obtain ⟨z0, z1, z2, z3, z4, z5, z6, z7, z8, z9, rfl⟩ := ten z hz
    have k0 : w.cell? ⟨Bt, 0, none⟩ = some z0 := by rw [Lib.cell_of_heap hzz]; rfl
    have k1 : w.cell? ⟨Bt, 1, none⟩ = some z1 := by rw [Lib.cell_of_heap hzz]; rfl
    have k2 : w.cell? ⟨Bt, 2, none⟩ = some z2 := by rw [Lib.cell_of_heap hzz]; rfl
    have k3 : w.cell? ⟨Bt, 3, none⟩ = some z3 := by rw [Lib.cell_of_heap hzz]; rfl
    have k4 : w.cell? ⟨Bt, 4, none⟩ = some z4 := by rw [Lib.cell_of_heap hzz]; rfl
    have k5 : w.cell? ⟨Bt, 5, none⟩ = some z5 := by rw [Lib.cell_of_heap hzz]; rfl
    have k6 : w.cell? ⟨Bt, 6, none⟩ = some z6 := by rw [Lib.cell_of_heap hzz]; rfl
    have k7 : w.cell? ⟨Bt, 7, none⟩ = some z7 := by rw [Lib.cell_of_heap hzz]; rfl
    have k8 : w.cell? ⟨Bt, 8, none⟩ = some z8 := by rw [Lib.cell_of_heap hzz]; rfl
    have k9 : w.cell? ⟨Bt, 9, none⟩ = some z9 := by rw [Lib.cell_of_heap hzz]; rfl
    have hfr : ∀ j, w.frozen? ⟨Bt, j, none⟩ = false := fun j => Lib.frozen_of_heap hzz j
    have HH := Lib.hid (put10_heap (z := #[z0, z1, z2, z3, z4, z5, z6, z7, z8, z9]) rfl hzz (.int .i64 ki) (.int .i64 (q : Int)) (.int .i64 (d : Int)) (.int .i64 (rt : Int)) (.int .i64 (rf : Int)) (.int .i64 (b : Int)) (.string (S t)) (.string (S g)) (.string (S bo)) (.slice a ks.length c))
    have HBW := Lib.hid (put10_mod w Bt (.int .i64 ki) (.int .i64 (q : Int)) (.int .i64 (d : Int)) (.int .i64 (rt : Int)) (.int .i64 (rf : Int)) (.int .i64 (b : Int)) (.string (S t)) (.string (S g)) (.string (S bo)) (.slice a ks.length c))
    clear hzz
    go_simp
    exact ⟨HH.out, HBW.out, .inr HH.out⟩
   go_frame
   refine GrowN.g_nil fun w16 hw16 hF => ?_
   have hz9 : w16.heap[Bt]? = some (.cells #[.int .i64 ki, .int .i64 (q : Int), .int .i64 (d : Int), .int .i64 (rt : Int), .int .i64 (rf : Int), .int .i64 (b : Int), .string (S t), .string (S g), .string (S bo), .slice a ks.length c] 56 (0, 0)) := hF _ (List.mem_singleton.2 rfl)
   have hm16 := ((Mod.refl (fun k => k = Bt) w15).drew).trans hw16.1
   have HS16 := Lib.hid (HSX.out w16 hm16)
   have HB16 : Hid (Below W.heap.size W w16) := M14.out.b.trans (hm16.to_below _ M14.out.b.size (fun k e => by rw [e, ← HBT.out]; exact Nat.le_refl _))
   clear hF hw16 hm16
   have c0 : w16.cell? ⟨Bt, 0, none⟩ = some (.int .i64 ki) := by rw [Lib.cell_of_heap hz9]; rfl
   have c1 : w16.cell? ⟨Bt, 1, none⟩ = some (.int .i64 (q : Int)) := by rw [Lib.cell_of_heap hz9]; rfl
   have c2 : w16.cell? ⟨Bt, 2, none⟩ = some (.int .i64 (d : Int)) := by rw [Lib.cell_of_heap hz9]; rfl
   have c3 : w16.cell? ⟨Bt, 3, none⟩ = some (.int .i64 (rt : Int)) := by rw [Lib.cell_of_heap hz9]; rfl
   have c4 : w16.cell? ⟨Bt, 4, none⟩ = some (.int .i64 (rf : Int)) := by rw [Lib.cell_of_heap hz9]; rfl
   have c5 : w16.cell? ⟨Bt, 5, none⟩ = some (.int .i64 (b : Int)) := by rw [Lib.cell_of_heap hz9]; rfl
   have c6 : w16.cell? ⟨Bt, 6, none⟩ = some (.string (S t)) := by rw [Lib.cell_of_heap hz9]; rfl
   have c7 : w16.cell? ⟨Bt, 7, none⟩ = some (.string (S g)) := by rw [Lib.cell_of_heap hz9]; rfl
   have c8 : w16.cell? ⟨Bt, 8, none⟩ = some (.string (S bo)) := by rw [Lib.cell_of_heap hz9]; rfl
   have c9 : w16.cell? ⟨Bt, 9, none⟩ = some (.slice a ks.length c) := by rw [Lib.cell_of_heap hz9]; rfl
   go_wp2_with fail
   refine bodyPost_ret (v := .tuple #[.agg #[.int .i64 ki, .int .i64 (q : Int), .int .i64 (d : Int), .int .i64 (rt : Int), .int .i64 (rf : Int), .int .i64 (b : Int), .string (S t), .string (S g), .string (S bo), .slice a ks.length c], .bool rl]) ?_ rfl ⟨a, c, ?_, ?_, ?_⟩
   · clear hz9
     simp [results, Tryz.results83, go_sem, c0, c1, c2, c3, c4, c5, c6, c7, c8, c9]
   · rw [HCM.out, hrl, HKI.out, HFIN.out]
   · exact HS16.out
   · exact ⟨HB16.out, fun ad e => Nat.le_trans HWL.out (HAD.out ad e)⟩
structure Mid1 (W : World) (Bt Br : Nat) (r : RS) (w : World) : Prop where
 t : w.heap[Bt]? = some (.cells (cellsM noMsg none 0) 56 (0, 0))
 r : Rd Br r w
 b : Below W.heap.size W w
 ne : Bt ≠ Br
 le : W.heap.size ≤ Br
 lt : W.heap.size ≤ Bt
theorem Mid1.one {W w w' : World} {Bt Br : Nat} {r r' : RS} (h : Mid1 W Bt Br r w) (hr : Rd Br r' w') (hm : One Br w w') : Mid1 W Bt Br r' w' :=
 ⟨(hm.block Bt (Array.getElem?_eq_some_iff.1 h.t).1 h.ne).trans h.t, hr, h.b.trans (hm.to_below _ h.b.size (fun k e => e ▸ h.le)), h.ne, h.le, h.lt⟩
theorem Mid1.ext {W w w' : World} {Bt Br : Nat} {r : RS} (h : Mid1 W Bt Br r w) (hb : Below w.heap.size w w') : Mid1 W Bt Br r w' :=
 ⟨(hb.block _ (Array.getElem?_eq_some_iff.1 h.t).1).trans h.t, h.r.mod (Mod.of_below (M := fun _ => False) hb) (fun h => h), h.b.trans (hb.mono h.b.size), h.ne, h.le, h.lt⟩
theorem rec_parts (m : Msg) (h : rightL m = true) (h0 : m.kind ≠ 0) (rest : List UInt8) : ∃ n : Nat, n = (recL m).length ∧ 7 ≤ n ∧ n ≤ 507 ∧ takeR 1 ⟨recL m ++ rest, 0⟩ = ([165], ⟨be 2 n ++ (CrcMath.sealed (insideL m) ++ rest), 0⟩) ∧
 numR 2 ⟨be 2 n ++ (CrcMath.sealed (insideL m) ++ rest), 0⟩ = (n, ⟨CrcMath.sealed (insideL m) ++ rest, 0⟩) ∧ takeR ((n : Int) - 3) ⟨CrcMath.sealed (insideL m) ++ rest, 0⟩ = (CrcMath.sealed (insideL m), ⟨rest, 0⟩) ∧ (CrcMath.sealed (insideL m)).length = n - 3 := by
 have hl := inside_len h h0
 have hsl := CrcMath.sealed_length (insideL m)
 obtain ⟨hrl, hrl2⟩ := rec_len h h0
 refine ⟨3 + (CrcMath.sealed (insideL m)).length, by omega, by omega, by omega, ?_, ?_, ?_, by omega⟩
 · unfold takeR recL
   rw [if_neg (by simp), if_neg (by omega), if_neg (by simp <;> omega)]
   simp
 · exact OctW.numR_be 2 _ _ (by omega) (by omega) (by omega)
 ·
  unfold takeR
  rw [if_neg (by simp), if_neg (by omega), if_neg (by simp <;> omega)]
  have : (((3 + (CrcMath.sealed (insideL m)).length : Nat) : Int) - 3).toNat = (CrcMath.sealed (insideL m)).length := by omega
  rw [this]
  simp
set_option maxHeartbeats 6400000 in
theorem get_one (B : Nat) (m : Msg) (hm : rightL m = true) (h0 : m.kind ≠ 0) (rest : List UInt8) (hr : rest.length ≤ 1048576) (W : World) (hB : B < W.heap.size) (hT : CrcW.Tabs W B) :
 Calls Tryz.prog 36 #[.pointer (some ⟨B, 0, none⟩), .string (S (recL m ++ rest))] W fun e w' => ∃ a c, e = .returned (.tuple #[.agg (cellsM m a c), .int .i64 ((recL m).length : Int), .int .i64 0]) ∧ Strs w' a (m.keys.map S) ∧ Below W.heap.size W w' ∧ ∀ ad, a = some ad → W.heap.size ≤ ad.block := by
 obtain ⟨n, hn, hn7, hn5, e1, e2, e3, e4⟩ := rec_parts m hm h0 rest
 rw [← hn]
 have hil := inside_len hm h0
 have hop := opened_put m hm h0
 have hob : openedB (insideL m) = true := by
  unfold openedB
  rw [hop]
  simp [endR, h0, hm]
 have C1 := Lib.hid (fun (Br : Nat) (w : World) (h : Rd Br ⟨recL m ++ rest, 0⟩ w) => OctW.take_any Br ⟨recL m ++ rest, 0⟩ 1 (by omega) (by omega) (by show (recL m ++ rest).length ≤ _; rw [List.length_append]; omega) w h)
 have C2 := Lib.hid (fun (Br : Nat) (w : World) (h : Rd Br ⟨be 2 n ++ (CrcMath.sealed (insideL m) ++ rest), 0⟩ w) => OctW.num_any Br ⟨be 2 n ++ (CrcMath.sealed (insideL m) ++ rest), 0⟩ 2 (by omega) (by omega) (by simp only [List.length_append, be_length]; omega) w h)
 have C3 := Lib.hid (fun (Br : Nat) (w : World) (h : Rd Br ⟨CrcMath.sealed (insideL m) ++ rest, 0⟩ w) => OctW.take_any Br ⟨CrcMath.sealed (insideL m) ++ rest, 0⟩ ((n : Int) - 3) (by omega) (by omega) (by simp only [List.length_append]; omega) w h)
 have C4 := Lib.hid (fun (Br : Nat) (w : World) (h : Rd Br ⟨rest, 0⟩ w) => OctW.err_any Br ⟨rest, 0⟩ w h)
 rw [e1] at C1
 rw [e2] at C2
 rw [e3] at C3
 simp only at C1 C2 C3 C4
 have C5 := Lib.hid (fun (w : World) (hb : Below W.heap.size W w) => CrcW.open_long B (S (CrcMath.sealed (insideL m))) (by rw [S_size]; omega) (by rw [S_size]; omega) w (by have := hb.size; omega) (tabs_below hT hB hb))
 have hse : (S (CrcMath.sealed (insideL m))).data.toList = CrcMath.sealed ((S (CrcMath.sealed (insideL m))).data.toList.drop 4) := by rw [S_list, CrcMath.sealed_drop]
 have hex : (S (CrcMath.sealed (insideL m))).extract 4 (S (CrcMath.sealed (insideL m))).size = S (insideL m) := by rw [S_drop, CrcMath.sealed_drop]
 rw [if_pos hse, hex] at C5
 have C6 := Lib.hid (fun (w : World) => opened_any (insideL m) (by omega) w)
 rw [hop, hob] at C6
 simp only at C6
 have hsz := S_size
 have hlen : (recL m ++ rest).length = n + rest.length := by rw [List.length_append]; omega
 have HS3 : ¬ ((n : Int) + (rest.length : Int) < 3) := by omega
 have hmx : max ((n : Int) - 3) 0 = (n : Int) - 3 := by omega
 have htl := S_toList
 clear hse hex hop hob hil e1 e2 e3 hm hT hB hr hn
 generalize CrcMath.sealed (insideL m) = sl at *
 generalize insideL m = il at *
 generalize recL m ++ rest = rr at *
 unfold cellsM at C6
 go_enter Tryz.func36, Tryz.ntmps36
 go_wp2_with fail
 refine (OctW.new_any _ _).mono ?_
 rintro e w1 ⟨rfl, hrd, hb⟩
 obtain ⟨Bt, hBt⟩ : ∃ B, W.heap.size = B := ⟨_, rfl⟩
 obtain ⟨Br, hBr⟩ : ∃ B, W.heap.size + 1 = B := ⟨_, rfl⟩
 have M0 : Hid (Mid1 W Bt Br ⟨rr, 0⟩ w1) := by
  rw [World.size_alloc, hBr] at hrd
  refine ⟨?_, hrd, ((Below.refl _ _).alloc (Nat.le_refl _) _).trans (hb.mono (by rw [World.size_alloc]; omega)), by omega, by omega, by omega⟩
  rw [← hBt, hb.block _ (by rw [World.size_alloc]; omega)]
  exact heap_alloc_new W _
 clear hrd hb
 rw [World.size_alloc, hBr, hBt]
 have HBT := Lib.hid hBt
 clear hBr hBt
 go_wp2_with fail
 refine (C1.out Br _ M0.out.r).mono ?_
 rintro e w2 ⟨rfl, hr, hm⟩
 have M1 := Lib.hid (M0.out.one hr hm)
 clear hr hm M0 C1
 go_wp2_with fail
 refine (C2.out Br _ M1.out.r).mono ?_
 rintro e w3 ⟨rfl, hr, hm⟩
 have M2 := Lib.hid (M1.out.one hr hm)
 clear hr hm M1 C2
 go_wp2_with fail
 refine (C3.out Br _ M2.out.r).mono ?_
 rintro e w4 ⟨rfl, hr, hm⟩
 have M3 := Lib.hid (M2.out.one hr hm)
 clear hr hm M2 C3
 go_wp2_with fail
 refine (C4.out Br _ M3.out.r).mono ?_
 rintro e w5 ⟨rfl, rfl⟩
 go_wp2_with fail
 refine (C5.out _ M3.out.b).mono ?_
 rintro e w6 ⟨rfl, hb⟩
 have M4 := Lib.hid (M3.out.ext hb)
 clear hb M3 C5 C4
 go_wp2_with fail
 refine (C6.out w6).mono ?_
 rintro e w7 ⟨a, c, rfl, hst, hb, had⟩
 have M5 := Lib.hid (M4.out.ext hb)
 have HST := Lib.hid hst
 have HAD := Lib.hid had
 have HBL : Hid (Bt < w6.heap.size ∧ W.heap.size ≤ w6.heap.size) := ⟨(Array.getElem?_eq_some_iff.1 M4.out.t).1, M4.out.b.size⟩
 clear hb M4 C6 hst had
 go_upto_region 22 with fail
 have HB8 : Hid (Below w7.heap.size w7 (w7.alloc (.cells #[.int .i64 m.kind, .int .i64 m.queue, .int .i64 m.due, .int .i64 m.retry, .int .i64 m.ref, .int .i64 m.born, .string (S m.topic), .string (S m.tag), .string (S m.body), .slice a m.keys.length c] 56))) := (Below.refl w7.heap.size w7).alloc (Nat.le_refl _) _
 have HW8 : Hid ((w7.alloc (.cells #[.int .i64 m.kind, .int .i64 m.queue, .int .i64 m.due, .int .i64 m.retry, .int .i64 m.ref, .int .i64 m.born, .string (S m.topic), .string (S m.tag), .string (S m.body), .slice a m.keys.length c] 56)).heap[Bt]? = some (.cells (cellsM noMsg none 0) 56 (0, 0))) := by
  show _ = _
  rw [HB8.out.block _ (Array.getElem?_eq_some_iff.1 M5.out.t).1]; exact M5.out.t
 have HN8 : Hid ((w7.alloc (.cells #[.int .i64 m.kind, .int .i64 m.queue, .int .i64 m.due, .int .i64 m.retry, .int .i64 m.ref, .int .i64 m.born, .string (S m.topic), .string (S m.tag), .string (S m.body), .slice a m.keys.length c] 56)).heap[w7.heap.size]? = some (.cells #[.int .i64 m.kind, .int .i64 m.queue, .int .i64 m.due, .int .i64 m.retry, .int .i64 m.ref, .int .i64 m.born, .string (S m.topic), .string (S m.tag), .string (S m.body), .slice a m.keys.length c] 56 (0, 0))) := heap_alloc_new w7 _
 have HS8 := Lib.hid (Strs.below HST.out HB8.out)
 generalize hw8 : w7.alloc (.cells #[.int .i64 m.kind, .int .i64 m.queue, .int .i64 m.due, .int .i64 m.retry, .int .i64 m.ref, .int .i64 m.born, .string (S m.topic), .string (S m.tag), .string (S m.body), .slice a m.keys.length c] 56) = w8 at *
 obtain ⟨Bn, hBn⟩ : ∃ B, w7.heap.size = B := ⟨_, rfl⟩
 rw [hBn] at HN8 ⊢
 have HBB : Hid (Below W.heap.size W w8) := M5.out.b.trans (HB8.out.mono M5.out.b.size)
 clear hBn hw8 M5 HST HB8
 have k0 : w8.cell? ⟨Bt, 0, none⟩ = some (.int .i64 0) := by rw [Lib.cell_of_heap HW8.out]; rfl
 have k1 : w8.cell? ⟨Bt, 1, none⟩ = some (.int .i64 0) := by rw [Lib.cell_of_heap HW8.out]; rfl
 have k2 : w8.cell? ⟨Bt, 2, none⟩ = some (.int .i64 0) := by rw [Lib.cell_of_heap HW8.out]; rfl
 have k3 : w8.cell? ⟨Bt, 3, none⟩ = some (.int .i64 0) := by rw [Lib.cell_of_heap HW8.out]; rfl
 have k4 : w8.cell? ⟨Bt, 4, none⟩ = some (.int .i64 0) := by rw [Lib.cell_of_heap HW8.out]; rfl
 have k5 : w8.cell? ⟨Bt, 5, none⟩ = some (.int .i64 0) := by rw [Lib.cell_of_heap HW8.out]; rfl
 have k6 : w8.cell? ⟨Bt, 6, none⟩ = some (.string ⟨#[]⟩) := by rw [Lib.cell_of_heap HW8.out]; rfl
 have k7 : w8.cell? ⟨Bt, 7, none⟩ = some (.string ⟨#[]⟩) := by rw [Lib.cell_of_heap HW8.out]; rfl
 have k8 : w8.cell? ⟨Bt, 8, none⟩ = some (.string ⟨#[]⟩) := by rw [Lib.cell_of_heap HW8.out]; rfl
 have k9 : w8.cell? ⟨Bt, 9, none⟩ = some (.slice none 0 0) := by rw [Lib.cell_of_heap HW8.out]; rfl
 have n0 : w8.cell? ⟨Bn, 0, none⟩ = some (.int .i64 m.kind) := by rw [Lib.cell_of_heap HN8.out]; rfl
 have n1 : w8.cell? ⟨Bn, 1, none⟩ = some (.int .i64 m.queue) := by rw [Lib.cell_of_heap HN8.out]; rfl
 have n2 : w8.cell? ⟨Bn, 2, none⟩ = some (.int .i64 m.due) := by rw [Lib.cell_of_heap HN8.out]; rfl
 have n3 : w8.cell? ⟨Bn, 3, none⟩ = some (.int .i64 m.retry) := by rw [Lib.cell_of_heap HN8.out]; rfl
 have n4 : w8.cell? ⟨Bn, 4, none⟩ = some (.int .i64 m.ref) := by rw [Lib.cell_of_heap HN8.out]; rfl
 have n5 : w8.cell? ⟨Bn, 5, none⟩ = some (.int .i64 m.born) := by rw [Lib.cell_of_heap HN8.out]; rfl
 have n6 : w8.cell? ⟨Bn, 6, none⟩ = some (.string (S m.topic)) := by rw [Lib.cell_of_heap HN8.out]; rfl
 have n7 : w8.cell? ⟨Bn, 7, none⟩ = some (.string (S m.tag)) := by rw [Lib.cell_of_heap HN8.out]; rfl
 have n8 : w8.cell? ⟨Bn, 8, none⟩ = some (.string (S m.body)) := by rw [Lib.cell_of_heap HN8.out]; rfl
 have n9 : w8.cell? ⟨Bn, 9, none⟩ = some (.slice a m.keys.length c) := by rw [Lib.cell_of_heap HN8.out]; rfl
 have hfr : ∀ j, w8.frozen? ⟨Bt, j, none⟩ = false := fun j => Lib.frozen_of_heap HW8.out j
 have HH := Lib.hid (put10_heap (z := cellsM noMsg none 0) rfl HW8.out (.int .i64 m.kind) (.int .i64 m.queue) (.int .i64 m.due) (.int .i64 m.retry) (.int .i64 m.ref) (.int .i64 m.born) (.string (S m.topic)) (.string (S m.tag)) (.string (S m.body)) (.slice a m.keys.length c))
 have HBW := Lib.hid (put10_mod w8 Bt (.int .i64 m.kind) (.int .i64 m.queue) (.int .i64 m.due) (.int .i64 m.retry) (.int .i64 m.ref) (.int .i64 m.born) (.string (S m.topic)) (.string (S m.tag)) (.string (S m.body)) (.slice a m.keys.length c))
 go_wp2_with fail
 clear k0 k1 k2 k3 k4 k5 k6 k7 k8 k9 hfr n0 n1 n2 n3 n4 n5 n6 n7 n8 n9
 change bodyPost _ _ _ _ _ (put10 w8 Bt (.int .i64 m.kind) (.int .i64 m.queue) (.int .i64 m.due) (.int .i64 m.retry) (.int .i64 m.ref) (.int .i64 m.born) (.string (S m.topic)) (.string (S m.tag)) (.string (S m.body)) (.slice a m.keys.length c))
 generalize put10 w8 Bt (.int .i64 m.kind) (.int .i64 m.queue) (.int .i64 m.due) (.int .i64 m.retry) (.int .i64 m.ref) (.int .i64 m.born) (.string (S m.topic)) (.string (S m.tag)) (.string (S m.body)) (.slice a m.keys.length c) = w9 at *
 have hz9 := HH.out
 have c0 : w9.cell? ⟨Bt, 0, none⟩ = some (.int .i64 m.kind) := by rw [Lib.cell_of_heap hz9]; rfl
 have c1 : w9.cell? ⟨Bt, 1, none⟩ = some (.int .i64 m.queue) := by rw [Lib.cell_of_heap hz9]; rfl
 have c2 : w9.cell? ⟨Bt, 2, none⟩ = some (.int .i64 m.due) := by rw [Lib.cell_of_heap hz9]; rfl
 have c3 : w9.cell? ⟨Bt, 3, none⟩ = some (.int .i64 m.retry) := by rw [Lib.cell_of_heap hz9]; rfl
 have c4 : w9.cell? ⟨Bt, 4, none⟩ = some (.int .i64 m.ref) := by rw [Lib.cell_of_heap hz9]; rfl
 have c5 : w9.cell? ⟨Bt, 5, none⟩ = some (.int .i64 m.born) := by rw [Lib.cell_of_heap hz9]; rfl
 have c6 : w9.cell? ⟨Bt, 6, none⟩ = some (.string (S m.topic)) := by rw [Lib.cell_of_heap hz9]; rfl
 have c7 : w9.cell? ⟨Bt, 7, none⟩ = some (.string (S m.tag)) := by rw [Lib.cell_of_heap hz9]; rfl
 have c8 : w9.cell? ⟨Bt, 8, none⟩ = some (.string (S m.body)) := by rw [Lib.cell_of_heap hz9]; rfl
 have c9 : w9.cell? ⟨Bt, 9, none⟩ = some (.slice a m.keys.length c) := by rw [Lib.cell_of_heap hz9]; rfl
 have hbb : Below W.heap.size W w9 := HBB.out.trans (HBW.out.to_below _ HBB.out.size (fun k e => by rw [e, ← HBT.out]; exact Nat.le_refl _))
 refine bodyPost_ret (v := .tuple #[.agg #[.int .i64 m.kind, .int .i64 m.queue, .int .i64 m.due, .int .i64 m.retry, .int .i64 m.ref, .int .i64 m.born, .string (S m.topic), .string (S m.tag), .string (S m.body), .slice a m.keys.length c], .int .i64 (n : Int), .int .i64 0]) ?_ rfl ⟨a, c, rfl, ?_, hbb, fun ad e => by have h1 := HAD.out ad e; have h2 := HBL.out; omega⟩
 · clear hz9
   simp [results, Tryz.results36, go_sem, c0, c1, c2, c3, c4, c5, c6, c7, c8, c9]
 · exact strs_over HS8.out HBW.out (fun ad e _ => by have h1 := HAD.out ad e; have h2 := HBL.out; omega)
end Go.Proofs.YtjjkhbfimpgplaaGreatDoor.RecW
namespace Go.Proofs.YtjjkhbfimpgplaaGreatDoor.TapeW
open Go.RowKit Go.MapKept OctMath RecMath RecW TapeMath DskW SegW MapG
set_option linter.unusedVariables false
set_option linter.unusedSimpArgs false
set_option maxRecDepth 100000
theorem put_ok {m : Msg} (h : rightL m = true) (h0 : m.kind ≠ 0) : putL m = (recL m, 0) := by unfold putL; rw [if_neg (by rw [h]; decide), if_neg h0]
def fillOf (e : Nat) (m : Msg) : List UInt8 := if roomL e = (recL m).length ∨ (recL m).length + 3 ≤ roomL e then [] else fillL ((roomL e : Nat) : Int)
set_option maxHeartbeats 6400000 in
theorem laid_ok {base : Nat} {T : TapeD} (m : Msg) (hm : MsgOk m) (hr : rightL m = true) (h0 : m.kind ≠ 0) (a : Option Addr) (c : Nat) (W : World) (h : TapeAt base W T) (hS : Strs W a (m.keys.map S)) :
 Calls Tryz.prog 147 #[.pointer (some ⟨T.O.blk, 0, none⟩), .agg (cellsM m a c)] W fun e w' => e = .returned (.tuple #[.string (S (fillOf T.R.e m)), .string (S (recL m)), .bool true]) ∧ Below W.heap.size W w' := by
 have HB0 : Hid (Below W.heap.size W (W.alloc (.cells (cellsM m a c) 56))) := (Below.refl _ W).alloc (Nat.le_refl _) _
 have HX0 : Hid (RecW.Boxed (W.alloc (.cells (cellsM m a c) 56)) W.heap.size (cellsM m a c)) := RecW.Boxed.new W _ _
 have HT0 := Lib.hid (h.below HB0.out)
 have HS0 := Lib.hid (Strs.below hS HB0.out)
 have hrm := room_eq h.whole.seg h.size
 have hcu : (cellsM m a c).size = 10 := rfl
 have hpl := put_ok hr h0
 have HM := Lib.hid hm
 obtain ⟨hl1, hl2⟩ := rec_len hr h0
 have hsz := S_size
 have htl := RecW.S_toList
 have HFO : Hid (fillOf T.R.e m = if roomL T.R.e = (recL m).length ∨ (recL m).length + 3 ≤ roomL T.R.e then [] else fillL ((roomL T.R.e : Nat) : Int)) := rfl
 have hrl := room_le T.R.e
 have hlo := loose_of h.fits (by have := h.whole.seg.mult; rw [h.size] at this; exact this)
 rw [← h.txt] at hlo
 have hlo : 3 ≤ roomL T.R.e := hlo
 clear hl1
 clear h hS hm
 go_enter Tryz.func147, Tryz.ntmps147
 go_upto_region 1 with fail
 generalize W.alloc (.cells (cellsM m a c) 56) = w1 at *
 clear hcu
 obtain ⟨A, hA⟩ : ∃ A, W.heap.size = A := ⟨_, rfl⟩
 rw [hA] at HX0 ⊢
 have HX : Hid (∀ w, Below w1.heap.size w1 w → ∀ (i : Nat) (v : Value), (cellsM m a c)[i]? = some v → w.cell? ⟨A, i, none⟩ = some v) := fun w hb i v hv => (HX0.out.below hb) i v hv
 have HC1 : Hid (∀ w, Below w1.heap.size w1 w → w.cell? ⟨T.O.blk, 1, none⟩ = some (.pointer (some ⟨T.O.sums, 0, none⟩))) := fun w hb => (HT0.out.below hb).own.cell 1 _ rfl
 have HP : Hid (∀ w, Below w1.heap.size w1 w → Calls Tryz.prog 214 #[.pointer (some ⟨T.O.sums, 0, none⟩), .agg (cellsM m a c)] w fun e w' => e = .returned (.tuple #[.string (S (putL m).1), .int .i64 (putL m).2]) ∧ Below w.heap.size w w') := fun w hb =>
  put_any T.O.sums m HM.out a c w (HT0.out.below hb).own.low.1 (HT0.out.below hb).own.tabs (Strs.below HS0.out hb)
 have HAA := Lib.hid hA
 clear hA HX0
 unfold cellsM at HX HP ⊢
 rw [hpl] at HP
 simp only at HP
 clear hpl
 generalize hpl : recL m = pl at *
 have HPL := Lib.hid hpl
 have HK0 : Hid (∀ w, Below w1.heap.size w1 w → w.cell? ⟨A, 0, none⟩ = some (.int .i64 m.kind)) := fun w hb => HX.out w hb 0 _ rfl
 refine GrowN.wp_region_n 11 [none, none, none, none, some (.inl (.agg #[.int .i64 m.kind, .int .i64 m.queue, .int .i64 m.due, .int .i64 m.retry, .int .i64 m.ref, .int .i64 m.born, .string (S m.topic), .string (S m.tag), .string (S m.body), .slice a m.keys.length c])), some (.inl (.tuple #[.string (S pl), .int .i64 0])), none, none, none, none, none] (RecW.ExtR) (by kernel_rfl) (by kernel_rfl) (by kernel_rfl) (RecW.ExtR.refl) (fun _ _ _ => RecW.ExtR.trans) ?_ ?_
 · exact GrowN.stab0 rfl
 simp only [List.take_succ_cons, List.take_zero, List.drop_succ_cons, List.drop_zero]
 iterate 3
  refine GrowN.g_det rfl ?_
  apply Exists.intro
  refine ⟨fun w hw hF => ?_, ?_⟩
  · clear hF
    go_simp
    exact ⟨rfl, RecW.ExtR.refl _⟩
  go_frame
 refine GrowN.g_det rfl ?_
 apply Exists.intro
 refine ⟨fun w hw hF => ?_, ?_⟩
 ·
  clear hF
  have hb := (Below.refl w1.heap.size w1).drew.trans hw
  have c1 := HC1.out w hb
  go_simp
  exact ⟨rfl, RecW.ExtR.refl _⟩
 go_frame
 refine GrowN.g_con rfl (fun w hw hF => ?_) ?_
 ·
  clear hF
  have hb := (Below.refl w1.heap.size w1).drew.trans hw
  have k0 := HX.out w hb 0 _ rfl
  have k1 := HX.out w hb 1 _ rfl
  have k2 := HX.out w hb 2 _ rfl
  have k3 := HX.out w hb 3 _ rfl
  have k4 := HX.out w hb 4 _ rfl
  have k5 := HX.out w hb 5 _ rfl
  have k6 := HX.out w hb 6 _ rfl
  have k7 := HX.out w hb 7 _ rfl
  have k8 := HX.out w hb 8 _ rfl
  have k9 := HX.out w hb 9 _ rfl
  go_simp
  exact RecW.ExtR.refl _
 go_frame
 refine GrowN.g_con rfl (fun w hw hF => ?_) ?_
 ·
  clear hF
  have hb := (Below.refl w1.heap.size w1).drew.trans hw
  go_simp
  exact (HP.out w hb).mono fun e w3 h => ⟨_, h.1, rfl, h.2⟩
 iterate 5
  go_frame
  refine GrowN.g_det rfl ?_
  apply Exists.intro
  refine ⟨fun w hw hF => ?_, ?_⟩
  · clear hF
    go_simp
    exact ⟨rfl, RecW.ExtR.refl _⟩
 go_frame
 refine GrowN.g_nil fun w2 hw2 hF => ?_
 clear hF
 have HB2 := Lib.hid ((Below.refl w1.heap.size w1).drew.trans hw2)
 clear hw2 HX HC1
 have k0 : w2.cell? ⟨A, 0, none⟩ = some (.int .i64 m.kind) := HK0.out w2 HB2.out
 have c0 : w2.cell? ⟨T.O.blk, 0, none⟩ = some (.pointer (some ⟨T.R.blk, 0, none⟩)) := (HT0.out.below HB2.out).c0
 have HRM := Lib.hid (SegW.room_any w2 (HT0.out.below HB2.out).whole.seg)
 rw [hrm] at HRM
 have HFI := Lib.hid (fun (w : World) => fill_any ((roomL T.R.e : Nat) : Int) (by omega) (by omega) w)
 rw [decide_eq_true (by omega)] at HFI
 generalize roomL T.R.e = rm at *
 clear hrm hpl HP
 go_wp2_with fail
 refine HRM.out.mono ?_
 rintro e w3 ⟨rfl, hd⟩
 have HB3 := Lib.hid (HB2.out.trans (hd.below _))
 clear hd HRM
 by_cases h1 : rm = pl.length
 ·
  have HF : Hid (fillOf T.R.e m = []) := by show _ = _; rw [HFO.out, if_pos (.inl h1)]
  clear HFO
  subst h1
  go_wp2_with fail
  go_ret3
  refine ⟨by rw [HF.out, HPL.out]; rfl, ?_⟩
  exact HB0.out.trans (HB3.out.mono (by have := HB0.out.size; have := HAA.out; omega))
 ·
  by_cases h2 : pl.length + 3 ≤ rm
  ·
   have HF : Hid (fillOf T.R.e m = []) := by show _ = _; rw [HFO.out, if_pos (.inr h2)]
   clear HFO
   have h1i : ¬ ((rm : Int) - (pl.length : Int) = 0) := by omega
   have h2i : (3 : Int) ≤ (rm : Int) - (pl.length : Int) := by omega
   go_wp2_with fail
   go_ret3
   refine ⟨by rw [HF.out, HPL.out]; rfl, ?_⟩
   exact HB0.out.trans (HB3.out.mono (by have := HB0.out.size; have := HAA.out; omega))
  ·
   have HF : Hid (fillOf T.R.e m = fillL (rm : Int)) := by show _ = _; rw [HFO.out, if_neg (fun h => h.elim h1 h2)]
   clear HFO
   have h1i : ¬ ((rm : Int) - (pl.length : Int) = 0) := by omega
   have h2i : ¬ (3 : Int) ≤ (rm : Int) - (pl.length : Int) := by omega
   go_wp2_with fail
   · exfalso
     rename_i hc
     rcases hc with hc | hc
     · exact h1i (eq_of_beq hc)
     · omega
   refine (HFI.out w3).mono ?_
   rintro e w4 ⟨rfl, hb⟩
   have HB4 := Lib.hid (HB3.out.trans (hb.mono HB3.out.size))
   clear hb
   go_wp2_with fail
   go_ret3
   refine ⟨by rw [HF.out, HPL.out]; rfl, ?_⟩
   exact HB0.out.trans (HB4.out.mono (by have := HB0.out.size; have := HAA.out; omega))
def Few (D0 D : DiskD) : Prop := D.files.length + D0.waits.length ≤ D0.files.length + D.waits.length ∧ ∀ p ∈ D.files, p.1.length ≤ tapeH.length + 8 ∨ ∃ q ∈ D0.files, q.1 = p.1
theorem Few.refl (D : DiskD) : Few D D := ⟨Nat.le_refl _, fun p hp => .inr ⟨p, hp, rfl⟩⟩
theorem Few.app {D0 D D' : DiskD} (h : Few D0 D) (k : Few D D') : Few D0 D' :=
 ⟨by have h1 := h.1; have h2 := k.1; omega, fun p hp => (k.2 p hp).elim .inl fun ⟨q, hq, e⟩ => e ▸ h.2 q hq⟩
structure Half (base B : Nat) (w : World) (T : TapeD) (f : List UInt8) (D : DiskD) (R : SegD) : Prop where
 own : OwnAt base w T.O
 whole : Whole base w D R
 wait : Waiting D R
 quiet : Quiet D
 away : ∀ k, T.O.foot k → ¬ D.foot k ∧ ¬ R.foot k
 tab : TabB base w
 big : B ≤ w.heap.size ∧ base ≤ B
 rblk : R.blk = T.R.blk
 dblk : D.blk = T.D.blk
 b : R.b = T.R.b
 syn : R.synced = T.R.synced
 head : R.head = tapeH
 size : R.size = 1024
 txt : R.txt = T.R.txt ++ f
 room : D.room = T.D.room - (f.length : Int)
 foot : ∀ k, D.foot k ∨ R.foot k → T.D.foot k ∨ T.R.foot k ∨ B ≤ k
 lts : ∀ k, T.O.foot k → k < B
 other : ∀ n, (∀ p, p ≤ 99999999 → n ≠ nameL tapeH p) → D.find n = T.D.find n
 few : Few T.D D
theorem Half.e {base B : Nat} {w : World} {T : TapeD} {f : List UInt8} {D : DiskD} {R : SegD} (h : Half base B w T f D R) : R.e = T.R.e + f.length := by
 unfold SegD.e; rw [h.b, h.txt, List.length_append]; omega
theorem Half.start {base : Nat} {w : World} {T : TapeD} (h : TapeAt base w T) (hq : Quiet T.D) (hT : TabB base w) (hb : base ≤ w.heap.size) : Half base w.heap.size w T [] T.D T.R :=
 ⟨h.own, h.whole, h.wait, hq, h.away, hT, ⟨Nat.le_refl _, hb⟩, rfl, rfl, rfl, rfl, h.head, h.size, (List.append_nil _).symm, by simp, fun k hk => hk.elim .inl (fun h => .inr (.inl h)), fun k hk => h.own.lt hk, fun _ _ => rfl, Few.refl _⟩
theorem Half.below {base B : Nat} {w w' : World} {T : TapeD} {f : List UInt8} {D : DiskD} {R : SegD} (h : Half base B w T f D R) (hb : Below w.heap.size w w') : Half base B w' T f D R :=
 { h with own := h.own.below hb, whole := h.whole.below hb, tab := h.tab.below hb, big := ⟨Nat.le_trans h.big.1 hb.size, h.big.2⟩ }
theorem half_append {base B : Nat} {w : World} {T : TapeD} {f : List UInt8} {D : DiskD} {R : SegD} (h : Half base B w T f D R) (s : List UInt8) (h0 : s ≠ []) (hr : s.length ≤ roomL (T.R.e + f.length)) (hf : (s.length : Int) ≤ D.room) (hwl : D.waits.length ≤ 1048576) (he : T.R.e + f.length ≤ 99999999) :
 Calls Tryz.prog 149 #[.pointer (some ⟨T.R.blk, 0, none⟩), .string (S s)] w fun e w' => e = .returned (.tuple #[.int .i64 ((T.R.e + f.length : Nat) : Int), .int .i64 0]) ∧
  ∃ D' R', Half base B w' T (f ++ s) D' R' ∧ Mod (fun k => T.D.foot k ∨ T.R.foot k ∨ B ≤ k) w w' ∧ D'.waits.length = D.waits.length + 1 := by
 have hre := h.e
 have hrm := room_eq h.whole.seg h.size
 have hA := append_ok s w h.tab h.whole (Nat.le_trans h.big.2 h.big.1) h.quiet h0 (by rw [hrm, hre]; exact hr) hf hwl (fun _ => by omega)
 rw [← h.rblk, ← hre]
 refine hA.mono ?_
 rintro e w' ⟨rfl, hm, D', R', hW, ha, hR, hfd, hfr⟩
 have e1 : R'.b = R.b := by rw [hR]
 have e2 : R'.size = R.size := by rw [hR]
 have e3 : R'.head = R.head := by rw [hR]
 have e4 : R'.synced = R.synced := by rw [hR]
 have e5 : R'.txt = R.txt ++ s := by rw [hR]
 have e6 : R'.blk = R.blk := by rw [hR]
 have hpos : 0 < R'.n := by
  rcases Nat.eq_zero_or_pos R'.n with hz | hp
  · exfalso
    have := (hW.seg.empty hz).2
    rw [e5] at this
    exact h0 (List.append_eq_nil_iff.1 this).2
  · exact hp
 have hmod : Mod (fun k => T.D.foot k ∨ T.R.foot k ∨ B ≤ k) w w' := hm.mono (fun k _ hk => h.foot k hk)
 refine ⟨rfl, D', R', ⟨?_, hW, h.wait.app h.whole.seg hW.seg ha h0 hR hpos, ha.quiet, ?_, ?_, ⟨Nat.le_trans h.big.1 hm.size, h.big.2⟩, e6.trans h.rblk, ha.blk.trans h.dblk, e1.trans h.b, e4.trans h.syn, e3.trans h.head, e2.trans h.size, ?_, ?_, ?_, h.lts, ?_, ?_⟩, hmod, ?_⟩
 ·
  refine h.own.mod hm (fun k hk hk2 => ?_)
  have := h.away k hk
  rcases hk2 with h2 | h2
  · exact this.1 h2
  · exact this.2 h2
 ·
  intro k hk
  have h1 := h.away k hk
  have h2 := h.lts k hk
  have h3 := h.big.1
  refine ⟨fun hd => ?_, fun hd => ?_⟩
  · rcases hfd k hd with h4 | h4
    · exact h1.1 h4
    · omega
  · rcases hfr k hd with h4 | h4
    · exact h1.2 h4
    · omega
 ·
  refine h.tab.mod hm (fun k hk => ?_)
  rcases hk with h1 | h1
  · exact h.whole.dsk.base_le h1
  · rcases h1 with h1 | h1
    · rw [h1]; exact h.whole.seg.above
    · exact ownBlock_of_own h.whole.seg.row k h1
 · rw [e5, h.txt, List.append_assoc]
 · rw [ha.room, h.room, List.length_append]; omega
 ·
  intro k hk
  rcases hk with h1 | h1
  · rcases hfd k h1 with h2 | h2
    · exact h.foot k (.inl h2)
    · right; right; have := h.big.1; omega
  · rcases hfr k h1 with h2 | h2
    · exact h.foot k (.inr h2)
    · right; right; have := h.big.1; omega
 · intro n hn
   rw [ha.other n (by rw [h.head]; exact hn)]
   exact h.other n hn
 ·
  refine h.few.app ⟨?_, fun p hp => by have := ha.names p hp; rw [h.head] at this; exact this⟩
  obtain ⟨f', o, _, hw⟩ := ha.waits
  have := ha.files
  rw [hw, List.length_append]
  show _ ≤ D.files.length + (D.waits.length + 1)
  omega
 · obtain ⟨f', o, _, hw⟩ := ha.waits
   rw [hw, List.length_append]; rfl
structure Next (T T' : TapeD) (x : List TapeMath.Item) : Prop where
 blk : T'.O.blk = T.O.blk
 sums : T'.O.sums = T.O.sums
 dblk : T'.D.blk = T.D.blk
 b : T'.R.b = T.R.b
 syn : T'.R.synced = T.R.synced
 its : T'.its = T.its ++ x
 quiet : Quiet T'.D
 room : T'.D.room = T.D.room - ((bytesL x).length : Int)
 waits : T'.D.waits ≠ []
 wl : T'.D.waits.length ≤ T.D.waits.length + 2
 other : ∀ n, (∀ p, p ≤ 99999999 → n ≠ nameL tapeH p) → T'.D.find n = T.D.find n
 few : Few T.D T'.D
theorem bytes_laid (e : Nat) (m : Msg) : bytesL (laidOf e m) = fillOf e m ++ recL m := by
 unfold laidOf fillOf
 split
 · simp [bytesL, TapeMath.Item.bytes]
 · simp [bytesL, TapeMath.Item.bytes]
theorem recs_laid (e : Nat) (m : Msg) : recsOf e (laidOf e m) = [(e + (fillOf e m).length, m)] := by
 unfold laidOf fillOf
 split
 · rfl
 · rfl
theorem fillOf_len (e : Nat) (m : Msg) (h : 3 ≤ roomL e) : (fillOf e m = [] ∧ ((recL m).length ≤ roomL e)) ∨ ((fillOf e m).length = roomL e ∧ fillOf e m ≠ [] ∧ roomL (e + (fillOf e m).length) = 1024) := by
 unfold fillOf
 have hl := room_le e
 split
 · rename_i h1; exact .inl ⟨rfl, by omega⟩
 ·
  right
  have hf := fill_len h (hl.2)
  refine ⟨hf, fun h => ?_, ?_⟩
  · rw [h] at hf; simp at hf; omega
  · rw [hf]; unfold roomL; omega
theorem loose_e {base : Nat} {w : World} {T : TapeD} (h : TapeAt base w T) : 3 ≤ roomL T.R.e := by
 have hlo := loose_of h.fits (by have := h.whole.seg.mult; rw [h.size] at this; exact this)
 rw [← h.txt] at hlo
 exact hlo
theorem bytes_e {base : Nat} {w : World} {T : TapeD} (h : TapeAt base w T) : T.R.e = T.R.b + (bytesL T.its).length := by unfold SegD.e; rw [h.txt]
theorem Half.done {base B : Nat} {w w' : World} {T : TapeD} {D : DiskD} {R : SegD} {idv : Value} {m : Msg} (h0 : TapeAt base w T) (hr : rightL m = true) (hk : m.kind ≠ 0) (h : Half base B w' T (fillOf T.R.e m ++ recL m) D R)
 {w2 : World} (ho : OwnAt base w2 (T.O.add idv (T.R.e + (fillOf T.R.e m).length) m)) (hm : Mod T.O.foot w' w2) (hi : ∀ k, idv.ownBlock = some k → T.O.foot k ∨ w'.heap.size ≤ k) :
 TapeAt base w2 ⟨T.O.add idv (T.R.e + (fillOf T.R.e m).length) m, D, R, T.its ++ laidOf T.R.e m⟩ ∧ ∀ k, TapeD.foot ⟨T.O.add idv (T.R.e + (fillOf T.R.e m).length) m, D, R, T.its ++ laidOf T.R.e m⟩ k → T.foot k ∨ B ≤ k := by
 have he := bytes_e h0
 have hfoot : ∀ k, (T.O.add idv (T.R.e + (fillOf T.R.e m).length) m).foot k → T.O.foot k ∨ w'.heap.size ≤ k := fun k hk => by
  rcases hk with hk | hk | hk | hk
  · exact .inl (.inl hk)
  · exact .inl (.inr (.inl hk))
  · exact .inl (.inr (.inr (.inl hk)))
  · exact hi k hk
 refine ⟨⟨ho, h0.rb.trans h.rblk.symm, ?_, fun k hk => ?_, h.whole.mod hm (fun k hk hk2 => (h.away k hk2).1 hk) (fun k hk hk2 => (h.away k hk2).2 hk), h.head, h.size, ?_, ?_, ?_, h.wait⟩, fun k hk => ?_⟩
 · show T.O.recs ++ [_] = recsOf R.b (T.its ++ laidOf T.R.e m)
   rw [h.b, recs_app, ← he, recs_laid, h0.recs]
 · rcases hfoot k hk with h1 | h1
   · exact h.away k h1
   · exact ⟨fun h2 => by have := h.whole.dsk.lt h2; omega, fun h2 => by have := h.whole.seg.lt h2; omega⟩
 · show R.txt = bytesL (T.its ++ laidOf T.R.e m)
   rw [h.txt, bytesL_app, bytes_laid, h0.txt]
 · show Fits R.b (T.its ++ laidOf T.R.e m)
   rw [h.b, he]
   exact laid_fits h0.fits (by have := h0.whole.seg.mult; rw [h0.size] at this; exact this) hr hk
 ·
  intro p hp
  have e : (T.O.recs ++ [(T.R.e + (fillOf T.R.e m).length, m)]).getLast? = some p := hp
  rw [List.getLast?_append] at e
  simp at e
  rw [← e]; rfl
 ·
  rcases hk with h1 | h1 | h1
  · rcases hfoot k h1 with h2 | h2
    · exact .inl (.inl h2)
    · right; have := h.big.1; omega
  · rcases h.foot k (.inl h1) with h2 | h2 | h2
    · exact .inl (.inr (.inl h2))
    · exact .inl (.inr (.inr h2))
    · exact .inr h2
  · rcases h.foot k (.inr h1) with h2 | h2 | h2
    · exact .inl (.inr (.inl h2))
    · exact .inl (.inr (.inr h2))
    · exact .inr h2
theorem new_id {base : Nat} {w : World} {T : TapeD} (h : TapeAt base w T) (n : Nat) : ∀ p ∈ T.O.recs, p.1 ≠ T.R.e + n := by
 intro p hp e
 rw [h.recs] at hp
 obtain ⟨id, m⟩ := p
 obtain ⟨a, c, h1, h2⟩ := recs_mem h.fits hp
 have h3 := recs_lt h.fits hp
 have h4 := bytes_e h
 have hl : 0 < (recL m).length := by unfold recL; rw [List.cons_append, List.length_cons]; omega
 simp only at e
 omega
set_option maxHeartbeats 6400000 in
theorem append_ok {base : Nat} {T : TapeD} (m : Msg) (hm : MsgOk m) (hr : rightL m = true) (h0 : m.kind ≠ 0) (a : Option Addr) (c : Nat) (W : World) (h : TapeAt base W T) (hS : Strs W a (m.keys.map S)) (hq : Quiet T.D) (hT : TabB base W) (hbase : base ≤ W.heap.size)
 (hroom : (((fillOf T.R.e m).length + (recL m).length : Nat) : Int) ≤ T.D.room) (hwl : T.D.waits.length ≤ 1000000) (hfar : T.R.e ≤ 90000000) (hrl : T.O.recs.length ≤ 1000000) :
 Calls Tryz.prog 85 #[.pointer (some ⟨T.O.blk, 0, none⟩), .agg (cellsM m a c)] W fun e w' => e = .returned (.tuple #[.int .i64 ((T.R.e + (fillOf T.R.e m).length : Nat) : Int), .int .i64 0]) ∧
  ∃ T', TapeAt base w' T' ∧ Next T T' (laidOf T.R.e m) ∧ Mod T.foot W w' ∧ ∀ k, T'.foot k → T.foot k ∨ W.heap.size ≤ k := by
 have HB0 : Hid (Below W.heap.size W (W.alloc (.cells (cellsM m a c) 56))) := (Below.refl _ W).alloc (Nat.le_refl _) _
 have HX0 : Hid (RecW.Boxed (W.alloc (.cells (cellsM m a c) 56)) W.heap.size (cellsM m a c)) := RecW.Boxed.new W _ _
 have hA1 : W.heap.size < (W.alloc (.cells (cellsM m a c) 56)).heap.size := by rw [World.size_alloc]; omega
 have HT0 := Lib.hid (h.below HB0.out)
 have HS0 := Lib.hid (Strs.below hS HB0.out)
 have HTB0 := Lib.hid (hT.below HB0.out)
 have HLT : Hid (∀ k, T.foot k → k < W.heap.size) := fun k hk => h.lt hk
 have hcu : (cellsM m a c).size = 10 := rfl
 have hlo := loose_e h
 obtain ⟨hl1, hl2⟩ := rec_len hr h0
 have hfl := fillOf_len T.R.e m hlo
 have hrml := room_le T.R.e
 have HNI := Lib.hid (new_id h (fillOf T.R.e m).length)
 have HM := Lib.hid hm
 have HR := Lib.hid hr
 have H0 := Lib.hid h0
 have HH := Lib.hid h
 have HQ := Lib.hid hq
 have hsz := S_size
 have htl := RecW.S_toList
 have hls : recL m ≠ [] := fun e => by rw [e] at hl1; simp at hl1; omega
 have hlsb : (recL m).isEmpty = false := by cases hh : recL m with | nil => exact absurd hh hls | cons _ _ => rfl
 clear h hS hm hT hr h0 hq hl1 hlo
 go_enter Tryz.func85, Tryz.ntmps85
 go_upto_region 1 with fail
 generalize W.alloc (.cells (cellsM m a c) 56) = w1 at *
 clear hcu
 obtain ⟨A, hA⟩ : ∃ A, W.heap.size = A := ⟨_, rfl⟩
 rw [hA] at HX0 hA1 ⊢
 have HAA := Lib.hid hA
 have HLD := Lib.hid (laid_ok m HM.out HR.out H0.out a c w1 HT0.out HS0.out)
 have HCM : Hid (cellsM m a c = #[.int .i64 m.kind, .int .i64 m.queue, .int .i64 m.due, .int .i64 m.retry, .int .i64 m.ref, .int .i64 m.born, .string (S m.topic), .string (S m.tag), .string (S m.body), .slice a m.keys.length c]) := rfl
 rw [HCM.out] at HLD
 obtain ⟨k0, k1, k2, k3, k4, k5, k6, k7, k8, k9⟩ := RecW.ten_cells HX0.out
 clear hA
 go_wp2_with fail
 refine HLD.out.mono ?_
 rintro e w2 ⟨rfl, hb⟩
 have HB2 := Lib.hid hb
 have HT2 := Lib.hid (HT0.out.below hb)
 have c0 : w2.cell? ⟨T.O.blk, 0, none⟩ = some (.pointer (some ⟨T.R.blk, 0, none⟩)) := HT2.out.c0
 have s0 : w2.cell? ⟨T.R.blk, 0, none⟩ = some (.pointer (some ⟨T.D.blk, 0, none⟩)) := HT2.out.whole.seg.cell 0 _ (by rw [← HT2.out.whole.db]; rfl)
 have HDD := Lib.hid (down_any w2 HT2.out.whole.dsk)
 rw [HQ.out.up] at HDD
 have HDR := Lib.hid (DskW.room_any w2 HT2.out.whole.dsk)
 clear hb HLD k0 k1 k2 k3 k4 k5 k6 k7 k8 k9
 generalize hpl : recL m = pl at *
 generalize hfo : fillOf T.R.e m = fo at *
 have hri : ¬ T.D.room < (fo.length : Int) + (pl.length : Int) := by omega
 have HRI := Lib.hid hri
 have HROOM := Lib.hid hroom
 generalize hdr : T.D.room = dr at *
 have HDRm := Lib.hid hdr
 clear hdr hroom HRI
 go_wp2_with fail
 refine HDD.out.mono ?_
 rintro e w2' ⟨rfl, rfl⟩
 go_wp2_with fail
 refine HDR.out.mono ?_
 rintro e w3 ⟨rfl, hb⟩
 have HB3 := Lib.hid (HB2.out.trans (hb.mono HB2.out.size))
 have HT3 := Lib.hid (HT2.out.below hb)
 have HTB3 := Lib.hid (HTB0.out.below HB3.out)
 have hA3 : A < w3.heap.size := by have := HB3.out.size; omega
 have HX3 : Hid (RecW.Boxed w3 A (cellsM m a c)) := HX0.out.below HB3.out
 have HHF := Lib.hid (Half.start HT3.out HQ.out HTB3.out (by have := HB3.out.size; have := HB0.out.size; omega))
 have c03 : w3.cell? ⟨T.O.blk, 0, none⟩ = some (.pointer (some ⟨T.R.blk, 0, none⟩)) := HT3.out.c0
 clear hb HDD HDR HB2 HT2 HT0 HX0 c0 s0 HTB0
 have hfl1 : fo.length ≤ 1024 := by
  rcases hfl with ⟨hz, _⟩ | ⟨hz, _⟩
  · rw [hz]; exact Nat.zero_le _
  · omega
 have HNA : Hid (¬ (T.D.foot A ∨ T.R.foot A ∨ w3.heap.size ≤ A)) := fun hk => by
  have h1 := HLT.out A
  have h2 := HAA.out
  rcases hk with hk | hk | hk
  · have := h1 (.inr (.inl hk)); omega
  · have := h1 (.inr (.inr hk)); omega
  · omega
 rcases hfl with ⟨hfe, hfit⟩ | ⟨hf1, hf2, hf3⟩
 ·
  have hfob : fo.isEmpty = true := by rw [hfe]; rfl
  have HHA : Hid (Calls Tryz.prog 149 #[.pointer (some ⟨T.R.blk, 0, none⟩), .string (S pl)] w3 fun e w' => e = .returned (.tuple #[.int .i64 ((T.R.e : Nat) : Int), .int .i64 0]) ∧
   ∃ D' R', Half base w3.heap.size w' T pl D' R' ∧ Mod (fun k => T.D.foot k ∨ T.R.foot k ∨ w3.heap.size ≤ k) w3 w' ∧ D'.waits.length = T.D.waits.length + 1) :=
   half_append HHF.out pl hls (by simpa using hfit) (by rw [HDRm.out]; have := HROOM.out; omega) (by omega) (by simp; omega)
  have HFE := Lib.hid hfe
  have HPL := Lib.hid hpl
  have HFO := Lib.hid hfo
  clear hfe hpl hfo hrml hwl hfit
  go_wp2_with fail
  any_goals (exfalso; rename_i hcc; rw [IntWalk.wrap64_in _ (by omega)] at hcc; omega)
  refine HHA.out.mono ?_
  rintro e w4 ⟨rfl, D', R', hh, hm4, hw4⟩
  have hx4 : ∀ (i : Nat) (v : Value), (cellsM m a c)[i]? = some v → w4.cell? ⟨A, i, none⟩ = some v := fun i v hv => by
   rw [hm4.cell (p := ⟨A, i, none⟩) hA3 (fun hk => HNA.out hk)]
   exact HX3.out i v hv
  obtain ⟨m0, m1, m2, m3, m4, m5, m6, m7, m8, m9⟩ := RecW.ten_cells hx4
  have HNO := Lib.hid (note_one T.R.e m a c w4 hh.own H0.out (by have := HNI.out; rw [HFE.out] at this; exact this) (by omega) (Nat.le_trans hh.big.2 hh.big.1))
  rw [HCM.out, HPL.out] at HNO
  have HH4 := Lib.hid hh
  have HM4 := Lib.hid hm4
  have HW4 := Lib.hid hw4
  clear hh hm4 hw4 hx4 HHA
  go_wp2_with fail
  refine HNO.out.mono ?_
  rintro e w5 ⟨rfl, idv, ho, hm5, hi⟩
  have HO5 := Lib.hid ho
  have HM5 := Lib.hid hm5
  have HI5 := Lib.hid hi
  clear ho hm5 hi HNO m0 m1 m2 m3 m4 m5 m6 m7 m8 m9
  go_wp2_with fail
  go_ret2
  refine ⟨by rw [HFO.out, HFE.out]; rfl, ?_⟩
  have hh : Half base w3.heap.size w4 T (fillOf T.R.e m ++ recL m) D' R' := by rw [HFO.out, HFE.out, HPL.out]; exact HH4.out
  have ho : OwnAt base w5 (T.O.add idv (T.R.e + (fillOf T.R.e m).length) m) := by rw [HFO.out, HFE.out]; exact HO5.out
  obtain ⟨q1, q2⟩ := Half.done HH.out HR.out H0.out hh ho HM5.out HI5.out
  have hs3 : W.heap.size ≤ w3.heap.size := by have h1 := HB0.out.size; have h2 := HB3.out.size; omega
  have hm3 : Mod T.foot W w3 := Mod.of_below (HB0.out.trans (HB3.out.mono HB0.out.size))
  refine ⟨_, q1, ⟨rfl, rfl, hh.dblk, hh.b, hh.syn, rfl, hh.quiet, by rw [bytes_laid]; exact hh.room, fun e => ?_, ?_, hh.other, hh.few⟩, ?_, fun k hk => (q2 k hk).imp_right fun h => by omega⟩
  · have h1 := HW4.out
    have h2 : D'.waits = [] := e
    rw [h2] at h1; simp at h1
  · have h1 := HW4.out
    show D'.waits.length ≤ _
    omega
  · refine mod_over (mod_over hm3 HM4.out (fun k hk => hk.elim (fun h => .inl (.inr (.inl h))) fun h => h.elim (fun h => .inl (.inr (.inr h))) fun h => .inr (by omega))) HM5.out (fun k hk => .inl (.inl hk))
 ·
  have hfob : fo.isEmpty = false := by cases hh : fo with | nil => exact absurd hh hf2 | cons _ _ => rfl
  have HHA : Hid (Calls Tryz.prog 149 #[.pointer (some ⟨T.R.blk, 0, none⟩), .string (S fo)] w3 fun e w' => e = .returned (.tuple #[.int .i64 ((T.R.e : Nat) : Int), .int .i64 0]) ∧
   ∃ D' R', Half base w3.heap.size w' T fo D' R' ∧ Mod (fun k => T.D.foot k ∨ T.R.foot k ∨ w3.heap.size ≤ k) w3 w' ∧ D'.waits.length = T.D.waits.length + 1) :=
   half_append HHF.out fo hf2 (by show fo.length ≤ roomL T.R.e; omega) (by rw [HDRm.out]; have := HROOM.out; omega) (by omega) (by simp; omega)
  have HPL := Lib.hid hpl
  have HFO := Lib.hid hfo
  have HF3 := Lib.hid hf3
  have HWL := Lib.hid hwl
  clear hpl hfo hrml hf1 hf2 hf3 hwl
  go_wp2_with fail
  any_goals (exfalso; rename_i hcc; rw [IntWalk.wrap64_in _ (by omega)] at hcc; omega)
  refine HHA.out.mono ?_
  rintro e w4 ⟨rfl, D1, R1, hh, hm4, hw4⟩
  have hxa : ∀ (i : Nat) (v : Value), (cellsM m a c)[i]? = some v → w4.cell? ⟨A, i, none⟩ = some v := fun i v hv => by
   rw [hm4.cell (p := ⟨A, i, none⟩) hA3 (fun hk => HNA.out hk)]
   exact HX3.out i v hv
  have HXA := Lib.hid hxa
  have HS4 : Hid (A < w4.heap.size) := Nat.lt_of_lt_of_le hA3 hm4.size
  have c04 : w4.cell? ⟨T.O.blk, 0, none⟩ = some (.pointer (some ⟨T.R.blk, 0, none⟩)) := hh.own.cell 0 _ (by rw [← HH.out.rb]; rfl)
  have HHB := Lib.hid (half_append hh pl hls (by rw [HF3.out]; omega) (by rw [hh.room, HDRm.out]; have := HROOM.out; omega) (by have := HWL.out; omega) (by omega))
  have HM4 := Lib.hid hm4
  have HW4 := Lib.hid hw4
  clear hh hm4 hw4 hxa HHA c03
  generalize hee : T.R.e + fo.length = ee at *
  have HEE := Lib.hid hee
  clear hee
  go_wp2_with fail
  refine HHB.out.mono ?_
  rintro e w5 ⟨rfl, D', R', hh, hm5, hw5⟩
  have hx5 : ∀ (i : Nat) (v : Value), (cellsM m a c)[i]? = some v → w5.cell? ⟨A, i, none⟩ = some v := fun i v hv => by
   rw [hm5.cell (p := ⟨A, i, none⟩) HS4.out (fun hk => HNA.out hk)]
   exact HXA.out i v hv
  obtain ⟨m0, m1, m2, m3, m4, m5, m6, m7, m8, m9⟩ := RecW.ten_cells hx5
  have HNO := Lib.hid (note_one ee m a c w5 hh.own H0.out HNI.out (by omega) (Nat.le_trans hh.big.2 hh.big.1))
  rw [HCM.out, HPL.out] at HNO
  have HH5 := Lib.hid hh
  have HM5 := Lib.hid hm5
  have HW5 := Lib.hid hw5
  clear hh hm5 hw5 hx5 HHB c04
  go_wp2_with fail
  refine HNO.out.mono ?_
  rintro e w6 ⟨rfl, idv, ho, hm6, hi⟩
  have HO6 := Lib.hid ho
  have HM6 := Lib.hid hm6
  have HI6 := Lib.hid hi
  clear ho hm6 hi HNO m0 m1 m2 m3 m4 m5 m6 m7 m8 m9
  go_wp2_with fail
  go_ret2
  refine ⟨by rw [HFO.out, HEE.out]; rfl, ?_⟩
  have hh : Half base w3.heap.size w5 T (fillOf T.R.e m ++ recL m) D' R' := by rw [HFO.out, HPL.out]; exact HH5.out
  have ho : OwnAt base w6 (T.O.add idv (T.R.e + (fillOf T.R.e m).length) m) := by rw [HFO.out, HEE.out]; exact HO6.out
  obtain ⟨q1, q2⟩ := Half.done HH.out HR.out H0.out hh ho HM6.out HI6.out
  have hs3 : W.heap.size ≤ w3.heap.size := by have h1 := HB0.out.size; have h2 := HB3.out.size; omega
  have hm3 : Mod T.foot W w3 := Mod.of_below (HB0.out.trans (HB3.out.mono HB0.out.size))
  refine ⟨_, q1, ⟨rfl, rfl, hh.dblk, hh.b, hh.syn, rfl, hh.quiet, by rw [bytes_laid]; exact hh.room, fun e => ?_, ?_, hh.other, hh.few⟩, ?_, fun k hk => (q2 k hk).imp_right fun h => by omega⟩
  · have h1 := HW5.out
    have h2 : D'.waits = [] := e
    rw [h2] at h1; simp at h1
  · have h1 := HW5.out
    have h3 := HW4.out
    show D'.waits.length ≤ _
    omega
  · refine mod_over (mod_over (mod_over hm3 HM4.out (fun k hk => hk.elim (fun h => .inl (.inr (.inl h))) fun h => h.elim (fun h => .inl (.inr (.inr h))) fun h => .inr (by omega))) HM5.out (fun k hk => hk.elim (fun h => .inl (.inr (.inl h))) fun h => h.elim (fun h => .inl (.inr (.inr h))) fun h => .inr (by omega))) HM6.out (fun k hk => .inl (.inl hk))
set_option maxHeartbeats 3200000 in
theorem sync_any {base : Nat} {T : TapeD} (w : World) (h : TapeAt base w T) (hq : Quiet T.D) (hT : TabB base w) (hbase : base ≤ w.heap.size) (hwl : T.D.waits.length ≤ 1048576) (hn : T.R.n ≤ 1048576) :
 Calls Tryz.prog 87 #[.pointer (some ⟨T.O.blk, 0, none⟩)] w fun e w' => e = .returned (.int .i64 0) ∧ ∃ wv, TapeAt base w' { T with D := T.R.syncD T.D wv, R := { T.R with synced := T.R.e } } ∧ Mod T.foot w w' ∧ (T.R.syncD T.D wv).waits = [] ∧ Quiet (T.R.syncD T.D wv) ∧ (∀ k, (T.R.syncD T.D wv).foot k ↔ T.D.foot k) := by
 have HS := Lib.hid (SegW.sync_any w hT h.whole hq hbase hwl hn)
 have c0 := h.c0
 have HH := Lib.hid h
 have HQ := Lib.hid hq
 clear h hq hT
 go_enter Tryz.func87, Tryz.ntmps87
 go_wp2_with fail
 refine HS.out.mono ?_
 rintro e w' ⟨rfl, wv, hwv, hW, hm⟩
 have HW := Lib.hid hW
 have HM := Lib.hid hm
 have HWV := Lib.hid hwv
 clear hW hm hwv HS
 go_wp2_with fail
 go_ret
 have h := HH.out
 have hft : ∀ k, (T.R.syncD T.D wv).foot k ↔ T.D.foot k := fun k => by
  unfold SegD.syncD
  split
  · exact Iff.rfl
  · exact lasts_foot HWV.out k
 have hwn := h.wait.sync h.whole.seg h.whole.dsk wv
 have hqq : Quiet (T.R.syncD T.D wv) := by
  unfold SegD.syncD
  split
  · exact HQ.out
  · exact ⟨HQ.out.left, HQ.out.up⟩
 refine ⟨rfl, wv, ⟨h.own.mod HM.out (fun k hk hk2 => ?_), h.rb, h.recs, fun k hk => ⟨fun h2 => (h.away k hk).1 ((hft k).1 h2), fun h2 => (h.away k hk).2 h2⟩, HW.out, h.head, h.size, h.txt, h.fits, h.last, Waiting.none hwn⟩, HM.out.mono (fun k _ hk => .inr hk), hwn, hqq, hft⟩
 have := h.away k hk
 rcases hk2 with h2 | h2
 · exact this.1 h2
 · exact this.2 h2
theorem rec_pos (m : Msg) : 1 ≤ (recL m).length := by unfold recL; rw [List.cons_append, List.length_cons]; omega
theorem lies_rec {base : Nat} {w : World} {T : TapeD} (h : TapeAt base w T) {id : Nat} {m : Msg} (hm : (id, m) ∈ T.O.recs) : rightL m = true ∧ m.kind ≠ 0 ∧ T.R.b ≤ id ∧ id + (recL m).length ≤ T.R.e ∧ id % 1024 + (recL m).length ≤ 1024 ∧ ((T.R.txt.drop (id - T.R.b)).take (recL m).length) = recL m := by
 rw [h.recs] at hm
 obtain ⟨a, c, h1, h2⟩ := recs_mem h.fits hm
 have hf := h.fits
 rw [h1] at hf
 have hl := hf.at
 rw [← h2] at hl
 obtain ⟨l1, l2, l3⟩ := hl
 have h3 := recs_lt h.fits hm
 have h4 := bytes_e h
 refine ⟨l1.1, l1.2, h3.2, by omega, l2, ?_⟩
 have h5 := read_item (a := a) (c := c) (x := TapeMath.Item.one m) (recL m).length (Nat.le_refl _)
 rw [h.txt, h1, show id - T.R.b = (bytesL a).length by omega, h5]
 show recL m ++ (bytesL c).take ((recL m).length - (recL m).length) = recL m
 simp
theorem read_rec {base : Nat} {w : World} {T : TapeD} (h : TapeAt base w T) (hup : T.D.down = false) {id : Nat} {m : Msg} (hm : (id, m) ∈ T.O.recs) : T.R.readT T.D (id : Int) ((recL m).length : Int) = recL m ∧ T.R.readE T.D (id : Int) ((recL m).length : Int) = 0 := by
 obtain ⟨h1, h2, h3, h4, h5, h6⟩ := lies_rec h hm
 have hp := rec_pos m
 have hl : ((recL m).length : Int) ≤ T.R.left (id : Int) := by
  unfold SegD.left
  rw [h.size, if_neg (by omega), Int.toNat_natCast]
  have : id / 1024 * 1024 + 1024 = id - id % 1024 + 1024 := by omega
  omega
 have hb : T.R.readB (id : Int) ((recL m).length : Int) = true := by
  unfold SegD.readB
  rw [decide_eq_true (by omega), decide_eq_true hl]; rfl
 constructor
 · unfold SegD.readT
   rw [if_pos ⟨hup, hb⟩, Int.toNat_natCast, Int.toNat_natCast]
   exact h6
 · unfold SegD.readE
   rw [if_neg (by rw [hup]; decide), if_neg (by omega), if_pos hb]
theorem size_rec {l : List (Nat × Msg)} (hn : (l.map (·.1)).Nodup) {id : Nat} {m : Msg} (hm : (id, m) ∈ l) : sizeR l (id : Int) = ((recL m).length : Int) := by
 unfold sizeR
 cases hf : l.find? (fun p => decide ((p.1 : Int) = (id : Int))) with
 | none => exact absurd (List.find?_eq_none.1 hf _ hm) (by simp)
 | some q =>
   obtain ⟨h1, a, b, h2, h3⟩ := List.find?_eq_some_iff_append.1 hf
   have hq : q.1 = id := by have : (q.1 : Int) = (id : Int) := by simpa using h1
                            omega
   have : q = (id, m) := by
    subst h2
    rcases List.mem_append.1 hm with hx | hx
    · have := h3 _ hx; simp at this
    · rcases List.mem_cons.1 hx with hx | hx
      · exact hx.symm
      · rw [List.map_append, List.map_cons] at hn
        have := (List.nodup_cons.1 (List.nodup_append.1 hn).2.1).1
        exact absurd (List.mem_map.2 ⟨_, hx, rfl⟩) (by rw [hq] at this; exact this)
   rw [this]; rfl
theorem recs_nodup {base : Nat} {w : World} {T : TapeD} (h : TapeAt base w T) : (T.O.recs.map (·.1)).Nodup := by
 rw [h.recs]
 exact (recs_sorted h.fits).2.imp (fun h => Nat.ne_of_lt h)
set_option maxHeartbeats 6400000 in
theorem tread_any {base : Nat} {T : TapeD} (id : Nat) (m : Msg) (W : World) (h : TapeAt base W T) (hup : T.D.down = false) (hT : TabB base W) (hbase : base ≤ W.heap.size) (hm : (id, m) ∈ T.O.recs) :
 Calls Tryz.prog 16 #[.pointer (some ⟨T.O.blk, 0, none⟩), .int .i64 (id : Int)] W fun e w' => ∃ a c, e = .returned (.tuple #[.agg (cellsM m a c), .int .i64 0]) ∧ Strs w' a (m.keys.map S) ∧ Below W.heap.size W w' ∧ ∀ ad, a = some ad → W.heap.size ≤ ad.block := by
 obtain ⟨r1, r2⟩ := read_rec h hup hm
 obtain ⟨g1, g2, g3, g4, g5, g6⟩ := lies_rec h hm
 obtain ⟨hl1, hl2⟩ := rec_len g1 g2
 have hp := rec_pos m
 have hsr := size_rec (recs_nodup h) hm
 have hel := h.whole.seg.e_le
 obtain ⟨w1, hw1⟩ : ∃ w1 : World, w1 = W.alloc (.cells #[.int .i64 0, .int .i64 0, .int .i64 0, .int .i64 0, .int .i64 0, .int .i64 0, .string ⟨#[]⟩, .string ⟨#[]⟩, .string ⟨#[]⟩, .slice none 0 0] 56) := ⟨_, rfl⟩
 have hb1 : Below W.heap.size W w1 := by rw [hw1]; exact (Below.refl _ _).alloc (Nat.le_refl _) _
 have HT1 := Lib.hid (h.below hb1)
 have HTB := Lib.hid (hT.below hb1)
 have HZ1 : Hid (w1.heap[W.heap.size]? = some (.cells (cellsM noMsg none 0) 56 (0, 0))) := by rw [hw1]; exact heap_alloc_new W _
 have HBW : Hid (Below W.heap.size W w1) := hb1
 have HBE := Lib.hid (SegW.begin_any w1 HT1.out.whole.seg)
 have c0 : w1.cell? ⟨T.O.blk, 0, none⟩ = some (.pointer (some ⟨T.R.blk, 0, none⟩)) := HT1.out.c0
 have c3 : w1.cell? ⟨T.O.blk, 3, none⟩ = some (.map (some T.O.mB)) := HT1.out.own.cell 3 _ rfl
 have hlk := lookupS HT1.out.own (id : Int)
 rw [hsr] at hlk
 have HC0 : Hid (∀ w, Below w1.heap.size w1 w → w.cell? ⟨T.O.blk, 0, none⟩ = some (.pointer (some ⟨T.R.blk, 0, none⟩))) := fun w hb => (HT1.out.below hb).c0
 have HC1 : Hid (∀ w, Below w1.heap.size w1 w → w.cell? ⟨T.O.blk, 1, none⟩ = some (.pointer (some ⟨T.O.sums, 0, none⟩))) := fun w hb => (HT1.out.below hb).own.cell 1 _ rfl
 have HC3 : Hid (∀ w, Below w1.heap.size w1 w → w.cell? ⟨T.O.blk, 3, none⟩ = some (.map (some T.O.mB))) := fun w hb => (HT1.out.below hb).own.cell 3 _ rfl
 have HLK : Hid (∀ w, Below w1.heap.size w1 w → (Instr.lookup 94 (.map (some T.O.mB)) (.int .i64 (id : Int)) false).run Tryz.prog w = .ok (.int .i64 ((recL m).length : Int)) w) := fun w hb => by
  have := lookupS (HT1.out.below hb).own (id : Int)
  rw [hsr] at this; exact this
 have HRD : Hid (∀ w, Below w1.heap.size w1 w → Calls Tryz.prog 35 #[.pointer (some ⟨T.R.blk, 0, none⟩), .int .i64 (id : Int), .int .i64 ((recL m).length : Int)] w fun e w' => e = .returned (.tuple #[.string (S (recL m)), .int .i64 0]) ∧ Below w.heap.size w w') := fun w hb => by
  have := SegW.read_any (id : Int) ((recL m).length : Int) (by omega) (by omega) w (HTB.out.below hb).tab (HT1.out.below hb).whole.seg (HT1.out.below hb).whole.dsk h.whole.db h.whole.ok
  rw [r1, r2] at this; exact this
 have HGE : Hid (∀ w, Below w1.heap.size w1 w → Calls Tryz.prog 36 #[.pointer (some ⟨T.O.sums, 0, none⟩), .string (S (recL m))] w fun e w' => ∃ a c, e = .returned (.tuple #[.agg #[.int .i64 m.kind, .int .i64 m.queue, .int .i64 m.due, .int .i64 m.retry, .int .i64 m.ref, .int .i64 m.born, .string (S m.topic), .string (S m.tag), .string (S m.body), .slice a m.keys.length c], .int .i64 ((recL m).length : Int), .int .i64 0]) ∧ Strs w' a (m.keys.map S) ∧ Below w.heap.size w w' ∧ ∀ ad, a = some ad → w.heap.size ≤ ad.block) := fun w hb => by
  have := get_one T.O.sums m g1 g2 [] (by simp) w (HT1.out.below hb).own.low.1 (HT1.out.below hb).own.tabs
  rw [List.append_nil] at this; exact this
 have hbi : ¬ (id : Int) < (T.R.b : Int) := by omega
 have hli : ¬ ((recL m).length : Int) = 0 := by omega
 clear h hT hm r1 r2 g1 g2 g4 g5 g6 hl1 hsr hb1 hl2 hup
 generalize hpl : recL m = pl at *
 clear hpl
 go_enter Tryz.func16, Tryz.ntmps16
 go_upto_region 1 with fail
 rw [← hw1]
 obtain ⟨Bt, hBt⟩ : ∃ B, W.heap.size = B := ⟨_, rfl⟩
 rw [hBt] at HZ1 ⊢
 have HBT := Lib.hid hBt
 clear hw1 hBt
 go_wp2_with fail
 refine HBE.out.mono ?_
 rintro e w1 ⟨rfl, rfl⟩
 clear HBE
 go_wp2_with fail
 refine GrowN.wp_region_n 17 [none, none, none, none, none, none, none, none, none, none, none, some (.inl (.tuple #[.string (S pl), .int .i64 0])), none, none, none, none, none] (RecW.ExtR) (by kernel_rfl) (by kernel_rfl) (by kernel_rfl) (RecW.ExtR.refl) (fun _ _ _ => RecW.ExtR.trans) ?_ ?_
 · exact GrowN.stab0 rfl
 simp only [List.take_succ_cons, List.take_zero, List.drop_succ_cons, List.drop_zero]
 iterate 3
  refine GrowN.g_det rfl ?_
  apply Exists.intro
  refine ⟨fun w hw hF => ?_, ?_⟩
  · clear hF
    go_simp
    exact ⟨rfl, RecW.ExtR.refl _⟩
  go_frame
 refine GrowN.g_det rfl ?_
 apply Exists.intro
 refine ⟨fun w hw hF => ?_, ?_⟩
 ·
  clear hF
  have hb := (Below.refl w1.heap.size w1).drew.trans hw
  have c0 := HC0.out w hb
  go_simp
  exact ⟨rfl, RecW.ExtR.refl _⟩
 iterate 4
  go_frame
  refine GrowN.g_det rfl ?_
  apply Exists.intro
  refine ⟨fun w hw hF => ?_, ?_⟩
  · clear hF
    go_simp
    exact ⟨rfl, RecW.ExtR.refl _⟩
 go_frame
 refine GrowN.g_det rfl ?_
 apply Exists.intro
 refine ⟨fun w hw hF => ?_, ?_⟩
 ·
  clear hF
  have hb := (Below.refl w1.heap.size w1).drew.trans hw
  have c3 := HC3.out w hb
  go_simp
  exact ⟨rfl, RecW.ExtR.refl _⟩
 go_frame
 refine GrowN.g_det rfl ?_
 apply Exists.intro
 refine ⟨fun w hw hF => ?_, ?_⟩
 · clear hF
   go_simp
   exact ⟨rfl, RecW.ExtR.refl _⟩
 go_frame
 refine GrowN.g_det rfl ?_
 apply Exists.intro
 refine ⟨fun w hw hF => ?_, ?_⟩
 ·
  clear hF
  have hb := (Below.refl w1.heap.size w1).drew.trans hw
  have hl := HLK.out w hb
  go_simp
  exact ⟨rfl, RecW.ExtR.refl _⟩
 go_frame
 refine GrowN.g_con rfl (fun w hw hF => ?_) ?_
 ·
  clear hF
  have hb := (Below.refl w1.heap.size w1).drew.trans hw
  go_simp
  exact (HRD.out w hb).mono fun e w3 h => ⟨_, h.1, rfl, h.2⟩
 iterate 5
  go_frame
  refine GrowN.g_det rfl ?_
  apply Exists.intro
  refine ⟨fun w hw hF => ?_, ?_⟩
  · clear hF
    go_simp
    exact ⟨rfl, RecW.ExtR.refl _⟩
 go_frame
 refine GrowN.g_nil fun w2 hw2 hF => ?_
 clear hF
 have HB2 := Lib.hid ((Below.refl w1.heap.size w1).drew.trans hw2)
 clear hw2 HC0 HC3 HLK HRD
 have c1 := HC1.out w2 HB2.out
 go_wp2_with fail
 refine (HGE.out w2 HB2.out).mono ?_
 rintro e w7 ⟨a, c, rfl, hst, hb, had⟩
 have HB7 := Lib.hid (HB2.out.trans (hb.mono HB2.out.size))
 have HST := Lib.hid hst
 have HAD : Hid (∀ ad, a = some ad → w1.heap.size ≤ ad.block) := fun ad e => Nat.le_trans HB2.out.size (had ad e)
 clear hb hst had HGE c1 HB2 c0 c3
 go_upto_region 11 with fail
 have HB8 : Hid (Below w7.heap.size w7 (w7.alloc (.cells #[.int .i64 m.kind, .int .i64 m.queue, .int .i64 m.due, .int .i64 m.retry, .int .i64 m.ref, .int .i64 m.born, .string (S m.topic), .string (S m.tag), .string (S m.body), .slice a m.keys.length c] 56))) := (Below.refl w7.heap.size w7).alloc (Nat.le_refl _) _
 have HW8 : Hid ((w7.alloc (.cells #[.int .i64 m.kind, .int .i64 m.queue, .int .i64 m.due, .int .i64 m.retry, .int .i64 m.ref, .int .i64 m.born, .string (S m.topic), .string (S m.tag), .string (S m.body), .slice a m.keys.length c] 56)).heap[Bt]? = some (.cells (cellsM noMsg none 0) 56 (0, 0))) := by
  show _ = _
  have h1 := HB7.out.block Bt (Array.getElem?_eq_some_iff.1 HZ1.out).1
  rw [HB8.out.block Bt (by have := (Array.getElem?_eq_some_iff.1 HZ1.out).1; have := HB7.out.size; omega), h1]; exact HZ1.out
 have HN8 : Hid ((w7.alloc (.cells #[.int .i64 m.kind, .int .i64 m.queue, .int .i64 m.due, .int .i64 m.retry, .int .i64 m.ref, .int .i64 m.born, .string (S m.topic), .string (S m.tag), .string (S m.body), .slice a m.keys.length c] 56)).heap[w7.heap.size]? = some (.cells #[.int .i64 m.kind, .int .i64 m.queue, .int .i64 m.due, .int .i64 m.retry, .int .i64 m.ref, .int .i64 m.born, .string (S m.topic), .string (S m.tag), .string (S m.body), .slice a m.keys.length c] 56 (0, 0))) := heap_alloc_new w7 _
 have HS8 := Lib.hid (Strs.below HST.out HB8.out)
 have HBB : Hid (Below W.heap.size W (w7.alloc (.cells #[.int .i64 m.kind, .int .i64 m.queue, .int .i64 m.due, .int .i64 m.retry, .int .i64 m.ref, .int .i64 m.born, .string (S m.topic), .string (S m.tag), .string (S m.body), .slice a m.keys.length c] 56))) := HBW.out.trans ((HB7.out.trans (HB8.out.mono HB7.out.size)).mono HBW.out.size)
 generalize hw8 : w7.alloc (.cells #[.int .i64 m.kind, .int .i64 m.queue, .int .i64 m.due, .int .i64 m.retry, .int .i64 m.ref, .int .i64 m.born, .string (S m.topic), .string (S m.tag), .string (S m.body), .slice a m.keys.length c] 56) = w8 at *
 obtain ⟨Bn, hBn⟩ : ∃ B, w7.heap.size = B := ⟨_, rfl⟩
 rw [hBn] at HN8 ⊢
 clear hBn hw8 HST HB8
 have k0 : w8.cell? ⟨Bt, 0, none⟩ = some (.int .i64 0) := by rw [Lib.cell_of_heap HW8.out]; rfl
 have k1 : w8.cell? ⟨Bt, 1, none⟩ = some (.int .i64 0) := by rw [Lib.cell_of_heap HW8.out]; rfl
 have k2 : w8.cell? ⟨Bt, 2, none⟩ = some (.int .i64 0) := by rw [Lib.cell_of_heap HW8.out]; rfl
 have k3 : w8.cell? ⟨Bt, 3, none⟩ = some (.int .i64 0) := by rw [Lib.cell_of_heap HW8.out]; rfl
 have k4 : w8.cell? ⟨Bt, 4, none⟩ = some (.int .i64 0) := by rw [Lib.cell_of_heap HW8.out]; rfl
 have k5 : w8.cell? ⟨Bt, 5, none⟩ = some (.int .i64 0) := by rw [Lib.cell_of_heap HW8.out]; rfl
 have k6 : w8.cell? ⟨Bt, 6, none⟩ = some (.string ⟨#[]⟩) := by rw [Lib.cell_of_heap HW8.out]; rfl
 have k7 : w8.cell? ⟨Bt, 7, none⟩ = some (.string ⟨#[]⟩) := by rw [Lib.cell_of_heap HW8.out]; rfl
 have k8 : w8.cell? ⟨Bt, 8, none⟩ = some (.string ⟨#[]⟩) := by rw [Lib.cell_of_heap HW8.out]; rfl
 have k9 : w8.cell? ⟨Bt, 9, none⟩ = some (.slice none 0 0) := by rw [Lib.cell_of_heap HW8.out]; rfl
 have n0 : w8.cell? ⟨Bn, 0, none⟩ = some (.int .i64 m.kind) := by rw [Lib.cell_of_heap HN8.out]; rfl
 have n1 : w8.cell? ⟨Bn, 1, none⟩ = some (.int .i64 m.queue) := by rw [Lib.cell_of_heap HN8.out]; rfl
 have n2 : w8.cell? ⟨Bn, 2, none⟩ = some (.int .i64 m.due) := by rw [Lib.cell_of_heap HN8.out]; rfl
 have n3 : w8.cell? ⟨Bn, 3, none⟩ = some (.int .i64 m.retry) := by rw [Lib.cell_of_heap HN8.out]; rfl
 have n4 : w8.cell? ⟨Bn, 4, none⟩ = some (.int .i64 m.ref) := by rw [Lib.cell_of_heap HN8.out]; rfl
 have n5 : w8.cell? ⟨Bn, 5, none⟩ = some (.int .i64 m.born) := by rw [Lib.cell_of_heap HN8.out]; rfl
 have n6 : w8.cell? ⟨Bn, 6, none⟩ = some (.string (S m.topic)) := by rw [Lib.cell_of_heap HN8.out]; rfl
 have n7 : w8.cell? ⟨Bn, 7, none⟩ = some (.string (S m.tag)) := by rw [Lib.cell_of_heap HN8.out]; rfl
 have n8 : w8.cell? ⟨Bn, 8, none⟩ = some (.string (S m.body)) := by rw [Lib.cell_of_heap HN8.out]; rfl
 have n9 : w8.cell? ⟨Bn, 9, none⟩ = some (.slice a m.keys.length c) := by rw [Lib.cell_of_heap HN8.out]; rfl
 have hfr : ∀ j, w8.frozen? ⟨Bt, j, none⟩ = false := fun j => Lib.frozen_of_heap HW8.out j
 have HH := Lib.hid (put10_heap (z := cellsM noMsg none 0) rfl HW8.out (.int .i64 m.kind) (.int .i64 m.queue) (.int .i64 m.due) (.int .i64 m.retry) (.int .i64 m.ref) (.int .i64 m.born) (.string (S m.topic)) (.string (S m.tag)) (.string (S m.body)) (.slice a m.keys.length c))
 have HBM := Lib.hid (put10_mod w8 Bt (.int .i64 m.kind) (.int .i64 m.queue) (.int .i64 m.due) (.int .i64 m.retry) (.int .i64 m.ref) (.int .i64 m.born) (.string (S m.topic)) (.string (S m.tag)) (.string (S m.body)) (.slice a m.keys.length c))
 go_wp2_with fail
 clear k0 k1 k2 k3 k4 k5 k6 k7 k8 k9 hfr n0 n1 n2 n3 n4 n5 n6 n7 n8 n9
 change bodyPost _ _ _ _ _ (put10 w8 Bt (.int .i64 m.kind) (.int .i64 m.queue) (.int .i64 m.due) (.int .i64 m.retry) (.int .i64 m.ref) (.int .i64 m.born) (.string (S m.topic)) (.string (S m.tag)) (.string (S m.body)) (.slice a m.keys.length c))
 generalize put10 w8 Bt (.int .i64 m.kind) (.int .i64 m.queue) (.int .i64 m.due) (.int .i64 m.retry) (.int .i64 m.ref) (.int .i64 m.born) (.string (S m.topic)) (.string (S m.tag)) (.string (S m.body)) (.slice a m.keys.length c) = w9 at *
 have hz9 := HH.out
 have c0 : w9.cell? ⟨Bt, 0, none⟩ = some (.int .i64 m.kind) := by rw [Lib.cell_of_heap hz9]; rfl
 have c1 : w9.cell? ⟨Bt, 1, none⟩ = some (.int .i64 m.queue) := by rw [Lib.cell_of_heap hz9]; rfl
 have c2 : w9.cell? ⟨Bt, 2, none⟩ = some (.int .i64 m.due) := by rw [Lib.cell_of_heap hz9]; rfl
 have c3 : w9.cell? ⟨Bt, 3, none⟩ = some (.int .i64 m.retry) := by rw [Lib.cell_of_heap hz9]; rfl
 have c4 : w9.cell? ⟨Bt, 4, none⟩ = some (.int .i64 m.ref) := by rw [Lib.cell_of_heap hz9]; rfl
 have c5 : w9.cell? ⟨Bt, 5, none⟩ = some (.int .i64 m.born) := by rw [Lib.cell_of_heap hz9]; rfl
 have c6 : w9.cell? ⟨Bt, 6, none⟩ = some (.string (S m.topic)) := by rw [Lib.cell_of_heap hz9]; rfl
 have c7 : w9.cell? ⟨Bt, 7, none⟩ = some (.string (S m.tag)) := by rw [Lib.cell_of_heap hz9]; rfl
 have c8 : w9.cell? ⟨Bt, 8, none⟩ = some (.string (S m.body)) := by rw [Lib.cell_of_heap hz9]; rfl
 have c9 : w9.cell? ⟨Bt, 9, none⟩ = some (.slice a m.keys.length c) := by rw [Lib.cell_of_heap hz9]; rfl
 have hbb : Below W.heap.size W w9 := HBB.out.trans (HBM.out.to_below _ HBB.out.size (fun k e => by rw [e, ← HBT.out]; exact Nat.le_refl _))
 refine bodyPost_ret (v := .tuple #[.agg #[.int .i64 m.kind, .int .i64 m.queue, .int .i64 m.due, .int .i64 m.retry, .int .i64 m.ref, .int .i64 m.born, .string (S m.topic), .string (S m.tag), .string (S m.body), .slice a m.keys.length c], .int .i64 0]) ?_ rfl ⟨a, c, rfl, ?_, hbb, fun ad e => by have h1 := HAD.out ad e; have h2 := HBW.out.size; omega⟩
 · clear hz9
   simp [results, Tryz.results16, go_sem, c0, c1, c2, c3, c4, c5, c6, c7, c8, c9]
 · exact strs_over HS8.out HBM.out (fun ad e _ => by have h1 := HAD.out ad e; have h2 := (Array.getElem?_eq_some_iff.1 HZ1.out).1; omega)
def idI (l : List (Nat × Msg)) : List Int := l.map fun p => (p.1 : Int)
def placeL (l : List (Nat × Msg)) (p : Int) : Nat := (idI l).countP (· < p)
theorem placeL_le (l : List (Nat × Msg)) (p : Int) : placeL l p ≤ l.length := by
 unfold placeL
 have := List.countP_le_length (p := fun x : Int => decide (x < p)) (l := idI l)
 unfold idI at this ⊢
 rw [List.length_map] at this; exact this
theorem place_any {base : Nat} {T : OwnD} (p : Int) (w : World) (h : OwnAt base w T) (hs : (T.recs.map (·.1)).Pairwise (· < ·)) (hl : T.recs.length ≤ 1073741824) :
 Calls Tryz.prog 33 #[.pointer (some ⟨T.blk, 0, none⟩), .int .i64 p] w fun e w' => e = .returned (.int .i64 ((placeL T.recs p : Nat) : Int)) ∧ Drawn w w' := by
 have HBS : Hid (∃ bo : Bool, Calls Tryz.prog 71 #[T.idv, .int .i64 p] w fun e w' => e = .returned (.tuple #[.int .i64 ((placeL T.recs p : Nat) : Int), .bool bo]) ∧ Drawn w w') := by
  show ∃ bo, _
  by_cases h0 : T.recs = []
  · obtain ⟨a, c, hv⟩ := own_slice h.ids
    have hz : placeL T.recs p = 0 := by rw [h0]; rfl
    rw [hv, hz, h0]
    exact ⟨false, (Tryz.slices_BinarySearch_int_empty a c p w).mono fun e w' h => ⟨h.1, h.2 ▸ Drawn.refl _⟩⟩
  ·
   have hpos : 0 < T.recs.length := List.length_pos_iff.2 h0
   have hcs : ∀ i (hi : i < T.recs.length), ∃ g cap, T.idv = .slice (some ⟨g, 0, none⟩) T.recs.length cap ∧ T.recs.length ≤ cap ∧ w.cell? ⟨g, i, none⟩ = some (.int .i64 ((T.recs[i].1 : Nat) : Int)) := fun i hi =>
    SegW.own_cell h.ids i hi _ (by unfold idsL; rw [List.getElem?_map, List.getElem?_eq_getElem hi]; rfl)
   obtain ⟨g, cap, hv, hc, _⟩ := hcs 0 hpos
   have hcells : ∀ j, j < (idI T.recs).length → w.cell? ⟨g, 0 + j, none⟩ = some (.int .i64 ((idI T.recs).getD j 0)) := fun j hj => by
    have hj' : j < T.recs.length := by unfold idI at hj; rw [List.length_map] at hj; exact hj
    obtain ⟨g', cap', hv', _, hcc⟩ := hcs j hj'
    rw [hv] at hv'
    injection hv' with e1
    injection e1 with e1
    injection e1 with e1
    rw [Nat.zero_add, e1, hcc]
    unfold idI
    simp [List.getD, hj']
   have hsort : ((idI T.recs).take T.recs.length).Pairwise (· ≤ ·) := by
    rw [List.take_of_length_le (by unfold idI; rw [List.length_map]; exact Nat.le_refl _)]
    unfold idI
    rw [List.pairwise_map] at hs ⊢
    exact hs.imp fun h => by omega
   have hlen : (idI T.recs).length = T.recs.length := by unfold idI; exact List.length_map _
   have := Tryz.slices_BinarySearch_int g 0 T.recs.length cap (idI T.recs) p w (by rw [hlen]; exact Nat.le_refl _) (by omega) hcells hsort
   rw [List.take_of_length_le (by rw [hlen]; exact Nat.le_refl _)] at this
   rw [hv]
   exact ⟨_, this.mono fun e w' h => ⟨h.1, h.2⟩⟩
 obtain ⟨bo, hbs⟩ := HBS.out
 have HB := Lib.hid hbs
 have c2 : w.cell? ⟨T.blk, 2, none⟩ = some T.idv := h.cell 2 _ rfl
 clear h hs hl hbs HBS
 generalize placeL T.recs p = pl at *
 generalize T.idv = iv at *
 go_enter Tryz.func33, Tryz.ntmps33
 go_wp2_with fail
 refine HB.out.mono ?_
 rintro e w' ⟨rfl, hd⟩
 have HD := Lib.hid hd
 clear hd HB
 go_wp2_with fail
 go_ret
 exact ⟨rfl, HD.out⟩
def nextL (l : List (Nat × Msg)) (p : Int) : Int × Bool := match (l.drop (placeL l p)).head? with | some q => ((q.1 : Int), true) | none => (0, false)
theorem next_any {base : Nat} {T : OwnD} (p : Int) (w : World) (h : OwnAt base w T) (hs : (T.recs.map (·.1)).Pairwise (· < ·)) (hl : T.recs.length ≤ 1073741824) :
 Calls Tryz.prog 89 #[.pointer (some ⟨T.blk, 0, none⟩), .int .i64 p] w fun e w' => e = .returned (.tuple #[.int .i64 (nextL T.recs p).1, .bool (nextL T.recs p).2]) ∧ Drawn w w' := by
 have HP := Lib.hid (place_any p w h hs hl)
 have hple := placeL_le T.recs p
 have HN : Hid (nextL T.recs p = match (T.recs.drop (placeL T.recs p)).head? with | some q => ((q.1 : Int), true) | none => (0, false)) := rfl
 have HH := Lib.hid h
 clear h hs
 generalize placeL T.recs p = pl at *
 go_enter Tryz.func89, Tryz.ntmps89
 go_wp2_with fail
 refine HP.out.mono ?_
 rintro e w1 ⟨rfl, hd⟩
 have HD := Lib.hid hd
 have h1 : OwnAt base w1 T := HH.out.mod (M := fun _ => False) (Mod.of_below (hd.below _)) (fun _ _ h => h)
 clear hd HP
 by_cases hlt : pl < T.recs.length
 ·
  obtain ⟨g, cap, hv, hc, hcell⟩ := SegW.own_cell h1.ids pl hlt (.int .i64 ((T.recs[pl].1 : Nat) : Int)) (by unfold idsL; rw [List.getElem?_map, List.getElem?_eq_getElem hlt]; rfl)
  have c2 : w1.cell? ⟨T.blk, 2, none⟩ = some (.slice (some ⟨g, 0, none⟩) T.recs.length cap) := by rw [← hv]; exact h1.cell 2 _ rfl
  have HR : Hid (nextL T.recs p = ((T.recs[pl].1 : Int), true)) := by
   show _ = _
   rw [HN.out, List.head?_drop, List.getElem?_eq_getElem hlt]
  clear h1 hv HN
  generalize T.recs[pl].1 = x at *
  generalize T.recs.length = n at *
  go_wp2_with fail
  go_ret2
  exact ⟨by rw [HR.out]; rfl, HD.out⟩
 ·
  obtain ⟨a, c, hv⟩ := own_slice h1.ids
  have c2 : w1.cell? ⟨T.blk, 2, none⟩ = some (.slice a T.recs.length c) := by rw [← hv]; exact h1.cell 2 _ rfl
  have HR : Hid (nextL T.recs p = (0, false)) := by
   show _ = _
   rw [HN.out, List.head?_drop, List.getElem?_eq_none (by omega)]
  clear h1 hv HN
  generalize T.recs.length = n at *
  go_wp2_with fail
  go_ret2
  exact ⟨by rw [HR.out]; rfl, HD.out⟩
end Go.Proofs.YtjjkhbfimpgplaaGreatDoor.TapeW
