/- lines.Event. -/
import Derived.Test.YtadhkeboaapfcaaGreatDoorEvG
namespace Go.Proofs.YtadhkeboaapfcaaGreatDoor.EvW
open Go.RowKit OctMath NameMath HexMath
set_option linter.unusedVariables false
set_option linter.unusedSimpArgs false
set_option maxRecDepth 100000

set_option maxHeartbeats 6400000 in
theorem event_any (v : Ev) (s : EvS) (hok : EvOk v) (hi : EvI v) (W : World) (hin : EvIn W v s) (htab : Tab W) :
    Calls Tryz.prog 9 #[.agg (v.cells s)] W fun e w' => e = .returned (.string (S (eventL v))) ∧ Below W.heap.size W w' := by
  obtain ⟨i0, hi0, hz0, hz1, hz2⟩ := info_parts (show (Tryz.prog.info? 9).map (fun i => (i.zero, i.size, i.bytes)) = some (some (.string ⟨#[]⟩), 1, 16) by kernel_rfl)
  have HI0 := Lib.hid hi0
  have HZ0 := Lib.hid hz0
  have HZ1 := Lib.hid hz1
  have HZ2 := Lib.hid hz2
  clear hi0 hz0 hz1 hz2
  by_cases hk1 : v.kind < 1
  · have HR : Hid (eventL v = []) := by show _ = _; unfold eventL; rw [if_pos (.inl hk1)]
    obtain ⟨cs, hcs⟩ : ∃ cs, v.cells s = cs := ⟨_, rfl⟩
    have e0 : cs[0]? = some (.int .i64 v.kind) := by subst hcs; rfl
    rw [hcs]
    have hc0 : cs.size = 14 := by rw [← hcs]; rfl
    have e0' : cs[0] = .int .i64 v.kind := by subst hcs; rfl
    clear hcs hin htab hok hi
    have d1 : decide (v.kind < 1) = true := decide_eq_true hk1
    have HB0 : Hid (Below W.heap.size W (W.alloc (.cells cs 25))) := (Below.refl _ W).alloc (Nat.le_refl _) _
    go_enter Tryz.func9, Tryz.ntmps9
    go_wp2_with fail
    go_ret
    rw [HR.out]
    exact ⟨rfl, HB0.out⟩
  by_cases hk2 : 15 < v.kind
  · have HR : Hid (eventL v = []) := by show _ = _; unfold eventL; rw [if_pos (.inr hk2)]
    obtain ⟨cs, hcs⟩ : ∃ cs, v.cells s = cs := ⟨_, rfl⟩
    rw [hcs]
    have hc0 : cs.size = 14 := by rw [← hcs]; rfl
    have e0' : cs[0] = .int .i64 v.kind := by subst hcs; rfl
    clear hcs hin htab hok hi
    have d1 : decide (v.kind < 1) = false := decide_eq_false hk1
    have d2 : decide (15 < v.kind) = true := decide_eq_true hk2
    have HB0 : Hid (Below W.heap.size W (W.alloc (.cells cs 25))) := (Below.refl _ W).alloc (Nat.le_refl _) _
    go_enter Tryz.func9, Tryz.ntmps9
    go_wp2_with fail
    go_ret
    rw [HR.out]
    exact ⟨rfl, HB0.out⟩
  obtain ⟨k, hk⟩ : ∃ k : Nat, v.kind = (k : Int) := ⟨v.kind.toNat, by omega⟩
  have hkt : v.kind.toNat = k := by omega
  have HR : Hid (eventL v = if rightB v (verbL k) && emptyB (wipeV v (verbL k)) then Lib.join (verbN k :: wordsL v k) [32] else []) := by
    show _ = _
    unfold eventL
    rw [if_neg (by omega), hkt]
  have hk16 : k < 16 := by omega
  have hk0 : 1 ≤ k := by omega
  have HIN := Lib.hid hin
  have HOK := Lib.hid hok
  have HI := Lib.hid hi
  have HTB := Lib.hid htab
  obtain ⟨cs, hcs⟩ : ∃ cs, v.cells s = cs := ⟨_, rfl⟩
  have hvc : v.cells s = #[.int .i64 (k : Int), .int .i64 v.queue, .int .i64 v.n, .int .i64 v.aat, .int .i64 v.lack, .string (S v.topic), .string (S v.group), .string (S v.tag), .string (S v.key), .string (S v.body), .slice s.ka v.keys.length s.kc, .slice s.ta v.tags.length s.tc, .slice s.pa v.keep.length s.pc, .bool v.sync] := by unfold Ev.cells; rw [hk]
  have HVC := Lib.hid hvc
  have HCS : Hid (∀ (j : Nat) (x : Value), j < 14 → (#[.int .i64 (k : Int), .int .i64 v.queue, .int .i64 v.n, .int .i64 v.aat, .int .i64 v.lack, .string (S v.topic), .string (S v.group), .string (S v.tag), .string (S v.key), .string (S v.body), .slice s.ka v.keys.length s.kc, .slice s.ta v.tags.length s.tc, .slice s.pa v.keep.length s.pc, .bool v.sync] : Array Value)[j]? = some x → cs[j]? = some x) := by
    intro j x _ h
    rw [← hcs, hvc]; exact h
  rw [hcs]
  have hc0 : cs.size = 14 := by rw [← hcs]; rfl
  have e0' : cs[0] = .int .i64 (k : Int) := by subst hcs; rw [← hk]; rfl
  have HCE := Lib.hid hcs
  clear hcs hin htab hok hi hk1 hk2 hk hkt hvc
  have d1 : decide ((k : Int) < 1) = false := decide_eq_false (by omega)
  have d2 : decide (15 < (k : Int)) = false := decide_eq_false (by omega)
  have d1' : decide (k = 0) = false := decide_eq_false (by omega)
  have HB0 : Hid (Below W.heap.size W (W.alloc (.cells cs 25))) := (Below.refl _ W).alloc (Nat.le_refl _) _
  have HX0 : Hid (Boxed (W.alloc (.cells cs 25)) W.heap.size cs) := Boxed.new W cs _
  go_enter Tryz.func9, Tryz.ntmps9
  go_wp2_with fail
  refine Grow.wp_region_g 6 [some (.inr fun v w => ∃ g, v = .slice (some ⟨g, 0, none⟩) 16 16 ∧ Boxed w g verbCells), none, none,
    some (.inr fun v w => ∃ g, v = .pointer (some ⟨g, 2 * k, none⟩) ∧ Boxed w g verbCells),
    some (.inl (.agg #[.string (S (verbN k)), .string (S (verbL k))])),
    some (.inr fun v w => ∃ g, v = .pointer (some ⟨g, 0, none⟩) ∧ W.heap.size < g ∧ w.heap[g]? = some (.cells #[.string ⟨#[]⟩, .string ⟨#[]⟩] 48 (0, 0)))] LinW.Ext (by kernel_rfl) (by kernel_rfl) (by kernel_rfl) LinW.Ext.refl (fun _ _ _ => LinW.Ext.trans) ?_ ?_
  · intro K hK Y hY v w w' hR h
    have hR : Below w.heap.size w w' := hR
    simp only [List.mem_cons, List.not_mem_nil, or_false] at hK
    rcases hK with rfl | rfl | rfl | rfl | rfl | rfl <;> simp only [reduceCtorEq, Option.some.injEq, Sum.inr.injEq] at hY
    · subst hY; obtain ⟨g, rfl, hf⟩ := h; exact ⟨g, rfl, hf.below hR⟩
    · subst hY; obtain ⟨g, rfl, hf⟩ := h; exact ⟨g, rfl, hf.below hR⟩
    · subst hY; obtain ⟨g, rfl, hlt, hf⟩ := h; exact ⟨g, rfl, hlt, (hR.block g (Array.getElem?_eq_some_iff.1 hf).1).trans hf⟩
  simp only [List.take_succ_cons, List.take_zero, List.drop_succ_cons, List.drop_zero]
  refine Grow.g_new rfl (fun w2 hw hF => ?_) (fun v0 => ?_)
  · clear hF
    have hv := verbs_any w2
    go_simp
    refine hv.mono ?_
    rintro e w3 ⟨rfl, rfl⟩
    exact ⟨_, rfl, ⟨_, rfl, Boxed.new _ _ _⟩, (Below.refl _ _).alloc (Nat.le_refl _) _⟩
  simp only [Act.put, List.setIfInBounds_toArray, List.set_cons_zero, List.set_cons_succ, Grow.addF]
  refine Grow.g_det rfl ?_
  apply Exists.intro
  refine ⟨fun w hw hF => ?_, ?_⟩
  · clear hF
    go_simp
    exact ⟨rfl, LinW.Ext.refl _⟩
  simp only [Act.put, List.setIfInBounds_toArray, List.set_cons_zero, List.set_cons_succ]
  refine Grow.g_det rfl ?_
  apply Exists.intro
  refine ⟨fun w hw hF => ?_, ?_⟩
  · clear hF
    have hcc : w.cell? ⟨W.heap.size, 0, none⟩ = some (.int .i64 (k : Int)) := (HX0.out.below (Below.drew (Below.refl _ _) |>.trans hw)) 0 _ (HCS.out 0 _ (by decide) rfl)
    go_simp
    exact ⟨rfl, LinW.Ext.refl _⟩
  simp only [Act.put, List.setIfInBounds_toArray, List.set_cons_zero, List.set_cons_succ]
  refine Grow.g_new rfl (fun w2 hw hF => ?_) (fun v3 => ?_)
  · obtain ⟨g, rfl, hbx⟩ := hF _ (List.Mem.head _) (by simp [Oper.looksAt, Op.operands, Call.operands])
    clear hF
    have hk16' : (k : Int) < 16 := by omega
    go_simp
    exact ⟨⟨g, ⟨rfl, Nat.mul_comm k 2⟩, hbx⟩, LinW.Ext.refl _⟩
  simp only [Act.put, List.setIfInBounds_toArray, List.set_cons_zero, List.set_cons_succ, Grow.addF]
  refine Grow.g_con rfl (fun w2 hw hF => ?_) ?_
  · obtain ⟨g, rfl, hbx⟩ := hF _ (List.Mem.head _) (by simp [Oper.looksAt, Op.operands, Call.operands])
    clear hF
    have hn1 := hbx (2 * k) _ (verb_cells k hk16).1
    have hn2 := hbx (2 * k + 1) _ (verb_cells k hk16).2
    go_simp
    exact LinW.Ext.refl _
  simp only [Act.put, List.setIfInBounds_toArray, List.set_cons_zero, List.set_cons_succ, Grow.addF]
  refine Grow.g_new rfl (fun w2 hw hF => ?_) (fun v5 => ?_)
  · clear hF
    have hwz : W.heap.size < w2.heap.size := by have := Below.size hw; simp at this; omega
    have hnew := World.alloc_heap_new w2 (.cells #[.string ⟨#[]⟩, .string ⟨#[]⟩] 48 (0, 0))
    obtain ⟨hnl, hnew⟩ := Array.getElem?_eq_some_iff.1 hnew
    go_simp
    exact (Below.refl _ _).alloc (Nat.le_refl _) _
  simp only [Act.put, List.setIfInBounds_toArray, List.set_cons_zero, List.set_cons_succ, Grow.addF]
  refine Grow.g_nil fun w3 hw3 hF => ?_
  obtain ⟨g5, rfl, hlt5, hblk⟩ := hF _ (List.Mem.head _)
  clear hF
  have hc5 : w3.cell? ⟨g5, 0, none⟩ = some (.string ⟨#[]⟩) := by unfold World.cell?; rw [show w3.heap[(⟨g5, 0, none⟩ : Addr).block]? = _ from hblk]; rfl
  have hc6 : w3.cell? ⟨g5, 1, none⟩ = some (.string ⟨#[]⟩) := by unfold World.cell?; rw [show w3.heap[(⟨g5, 1, none⟩ : Addr).block]? = _ from hblk]; rfl
  have hf5 : ∀ j, w3.frozen? ⟨g5, j, none⟩ = false := fun j => by unfold World.frozen?; rw [show w3.heap[(⟨g5, j, none⟩ : Addr).block]? = _ from hblk]; rfl
  have HB3 : Hid (Below W.heap.size W w3) := HB0.out.drew.trans (Below.mono hw3 (by have := HB0.out.size; simp))
  have HX3 : Hid (Boxed w3 W.heap.size cs) := HX0.out.below (Below.drew (Below.refl _ _) |>.trans hw3)
  clear hw3
  have c0 : w3.cell? ⟨W.heap.size, 0, none⟩ = some (.int .i64 (k : Int)) := HX3.out 0 _ (HCS.out 0 _ (by decide) rfl)
  have c1 : w3.cell? ⟨W.heap.size, 1, none⟩ = some (.int .i64 v.queue) := HX3.out 1 _ (HCS.out 1 _ (by decide) rfl)
  have c2 : w3.cell? ⟨W.heap.size, 2, none⟩ = some (.int .i64 v.n) := HX3.out 2 _ (HCS.out 2 _ (by decide) rfl)
  have c3 : w3.cell? ⟨W.heap.size, 3, none⟩ = some (.int .i64 v.aat) := HX3.out 3 _ (HCS.out 3 _ (by decide) rfl)
  have c4 : w3.cell? ⟨W.heap.size, 4, none⟩ = some (.int .i64 v.lack) := HX3.out 4 _ (HCS.out 4 _ (by decide) rfl)
  have c5 : w3.cell? ⟨W.heap.size, 5, none⟩ = some (.string (S v.topic)) := HX3.out 5 _ (HCS.out 5 _ (by decide) rfl)
  have c6 : w3.cell? ⟨W.heap.size, 6, none⟩ = some (.string (S v.group)) := HX3.out 6 _ (HCS.out 6 _ (by decide) rfl)
  have c7 : w3.cell? ⟨W.heap.size, 7, none⟩ = some (.string (S v.tag)) := HX3.out 7 _ (HCS.out 7 _ (by decide) rfl)
  have c8 : w3.cell? ⟨W.heap.size, 8, none⟩ = some (.string (S v.key)) := HX3.out 8 _ (HCS.out 8 _ (by decide) rfl)
  have c9 : w3.cell? ⟨W.heap.size, 9, none⟩ = some (.string (S v.body)) := HX3.out 9 _ (HCS.out 9 _ (by decide) rfl)
  have c10 : w3.cell? ⟨W.heap.size, 10, none⟩ = some (.slice s.ka v.keys.length s.kc) := HX3.out 10 _ (HCS.out 10 _ (by decide) rfl)
  have c11 : w3.cell? ⟨W.heap.size, 11, none⟩ = some (.slice s.ta v.tags.length s.tc) := HX3.out 11 _ (HCS.out 11 _ (by decide) rfl)
  have c12 : w3.cell? ⟨W.heap.size, 12, none⟩ = some (.slice s.pa v.keep.length s.pc) := HX3.out 12 _ (HCS.out 12 _ (by decide) rfl)
  have c13 : w3.cell? ⟨W.heap.size, 13, none⟩ = some (.bool v.sync) := HX3.out 13 _ (HCS.out 13 _ (by decide) rfl)
  have HX4 : Hid (Boxed ((w3.setCell ⟨g5, 0, none⟩ (.string (S (verbN k)))).setCell ⟨g5, 1, none⟩ (.string (S (verbL k)))) W.heap.size cs) := fun j x hx => by
    rw [World.cell?_setCell_other _ _ _ _ (fun h => by have := congrArg Addr.block h; simp at this; omega), World.cell?_setCell_other _ _ _ _ (fun h => by have := congrArg Addr.block h; simp at this; omega)]
    exact HX3.out j x hx
  have HB4 : Hid (Below W.heap.size W ((w3.setCell ⟨g5, 0, none⟩ (.string (S (verbN k)))).setCell ⟨g5, 1, none⟩ (.string (S (verbL k))))) := (HB3.out.setCell (p := ⟨g5, 0, none⟩) (by show _ ≤ g5; omega) _).setCell (p := ⟨g5, 1, none⟩) (by show _ ≤ g5; omega) _
  have HV4 : Hid (((w3.setCell ⟨g5, 0, none⟩ (.string (S (verbN k)))).setCell ⟨g5, 1, none⟩ (.string (S (verbL k)))).heap[g5]? = some (.cells #[.string (S (verbN k)), .string (S (verbL k))] 48 (0, 0))) := by
    have h1 := heap_setCell_same w3 g5 0 _ _ (.string (S (verbN k))) hblk
    exact heap_setCell_same _ g5 1 _ _ (.string (S (verbL k))) h1
  have HRT := Lib.hid (fun w h => right_any v s (verbL k) HOK.out w h)
  rw [HVC.out] at HRT
  clear hblk
  go_wp2_with fail
  clear c0 c1 c2 c3 c4 c5 c6 c7 c8 c9 c10 c11 c12 c13 hc5 hc6 hf5 HB3 HX3 HB0 HX0
  generalize ((w3.setCell ⟨g5, 0, none⟩ (.string (S (verbN k)))).setCell ⟨g5, 1, none⟩ (.string (S (verbL k)))) = w4 at *
  refine (HRT.out _ (HIN.out.below HB4.out)).mono ?_
  rintro e w5 ⟨rfl, hb⟩
  have hlt4 : g5 < w4.heap.size := (Array.getElem?_eq_some_iff.1 HV4.out).1
  have HB5 := Lib.hid (HB4.out.trans (hb.mono HB4.out.size))
  have HX5 := Lib.hid (HX4.out.below hb)
  have HV5 := Lib.hid ((hb.block g5 hlt4).trans HV4.out)
  clear hb HRT HB4 HX4 HV4 hlt4 w4 w3
  generalize hrb : rightB v (verbL k) = rb at *
  have HRB := Lib.hid hrb
  clear hrb
  cases rb with
  | false =>
    have HT : Hid (eventL v = []) := HR.out
    clear HR
    go_wp2_with fail
    go_ret
    rw [HT.out]
    exact ⟨rfl, HB5.out⟩
  | true =>
  have c0 : w5.cell? ⟨W.heap.size, 0, none⟩ = some (.int .i64 (k : Int)) := HX5.out 0 _ (HCS.out 0 _ (by decide) rfl)
  have c1 : w5.cell? ⟨W.heap.size, 1, none⟩ = some (.int .i64 v.queue) := HX5.out 1 _ (HCS.out 1 _ (by decide) rfl)
  have c2 : w5.cell? ⟨W.heap.size, 2, none⟩ = some (.int .i64 v.n) := HX5.out 2 _ (HCS.out 2 _ (by decide) rfl)
  have c3 : w5.cell? ⟨W.heap.size, 3, none⟩ = some (.int .i64 v.aat) := HX5.out 3 _ (HCS.out 3 _ (by decide) rfl)
  have c4 : w5.cell? ⟨W.heap.size, 4, none⟩ = some (.int .i64 v.lack) := HX5.out 4 _ (HCS.out 4 _ (by decide) rfl)
  have c5 : w5.cell? ⟨W.heap.size, 5, none⟩ = some (.string (S v.topic)) := HX5.out 5 _ (HCS.out 5 _ (by decide) rfl)
  have c6 : w5.cell? ⟨W.heap.size, 6, none⟩ = some (.string (S v.group)) := HX5.out 6 _ (HCS.out 6 _ (by decide) rfl)
  have c7 : w5.cell? ⟨W.heap.size, 7, none⟩ = some (.string (S v.tag)) := HX5.out 7 _ (HCS.out 7 _ (by decide) rfl)
  have c8 : w5.cell? ⟨W.heap.size, 8, none⟩ = some (.string (S v.key)) := HX5.out 8 _ (HCS.out 8 _ (by decide) rfl)
  have c9 : w5.cell? ⟨W.heap.size, 9, none⟩ = some (.string (S v.body)) := HX5.out 9 _ (HCS.out 9 _ (by decide) rfl)
  have c10 : w5.cell? ⟨W.heap.size, 10, none⟩ = some (.slice s.ka v.keys.length s.kc) := HX5.out 10 _ (HCS.out 10 _ (by decide) rfl)
  have c11 : w5.cell? ⟨W.heap.size, 11, none⟩ = some (.slice s.ta v.tags.length s.tc) := HX5.out 11 _ (HCS.out 11 _ (by decide) rfl)
  have c12 : w5.cell? ⟨W.heap.size, 12, none⟩ = some (.slice s.pa v.keep.length s.pc) := HX5.out 12 _ (HCS.out 12 _ (by decide) rfl)
  have c13 : w5.cell? ⟨W.heap.size, 13, none⟩ = some (.bool v.sync) := HX5.out 13 _ (HCS.out 13 _ (by decide) rfl)
  have hv0 : w5.cell? ⟨g5, 0, none⟩ = some (.string (S (verbN k))) := by unfold World.cell?; rw [show w5.heap[(⟨g5, 0, none⟩ : Addr).block]? = _ from HV5.out]; rfl
  have hv1 : w5.cell? ⟨g5, 1, none⟩ = some (.string (S (verbL k))) := by unfold World.cell?; rw [show w5.heap[(⟨g5, 1, none⟩ : Addr).block]? = _ from HV5.out]; rfl
  have hwo := fun w => without_any (v.cells s) ⟨v, s, rfl⟩ (verbL k) (by have := verbL_len k; omega) (verbL_ascii k) w
  rw [wipe_cells, HVC.out] at hwo
  have HWO := Lib.hid hwo
  clear hwo
  go_wp2_with fail
  clear c0 c1 c2 c3 c4 c5 c6 c7 c8 c9 c10 c11 c12 c13
  refine (HWO.out _).mono ?_
  rintro e w6 ⟨rfl, hb⟩
  have HB6 := Lib.hid (HB5.out.trans (hb.mono HB5.out.size))
  have HX6 := Lib.hid (HX5.out.below hb)
  have HV6 := Lib.hid ((hb.block g5 (Array.getElem?_eq_some_iff.1 HV5.out).1).trans HV5.out)
  have HEM := Lib.hid (fun w => empty_any (wipeV v (verbL k)) (wipeS s (verbL k)) (HI.out.wipe _) (HOK.out.wipe _) w)
  clear hb HWO HB5 HX5 HV5 hv0 hv1 w5
  generalize (wipeV v (verbL k)).cells (wipeS s (verbL k)) = cz at *
  go_wp2_with fail
  refine (HEM.out _).mono ?_
  rintro e w7 ⟨rfl, hb⟩
  have HB7 := Lib.hid (HB6.out.trans (hb.mono HB6.out.size))
  have HX7 := Lib.hid (HX6.out.below hb)
  have HV7 := Lib.hid ((hb.block g5 (Array.getElem?_eq_some_iff.1 HV6.out).1).trans HV6.out)
  clear hb HEM HB6 HX6 HV6 w6
  generalize emptyB (wipeV v (verbL k)) = eb at *
  cases eb with
  | false =>
    have HT : Hid (eventL v = []) := HR.out
    clear HR
    go_wp2_with fail
    go_ret
    rw [HT.out]
    exact ⟨rfl, HB7.out⟩
  | true =>
  have HT : Hid (eventL v = Lib.join (verbN k :: wordsL v k) [32]) := HR.out
  clear HR
  have hlt7 : g5 < w7.heap.size := (Array.getElem?_eq_some_iff.1 HV7.out).1
  have hv0 : w7.cell? ⟨g5, 0, none⟩ = some (.string (S (verbN k))) := by unfold World.cell?; rw [show w7.heap[(⟨g5, 0, none⟩ : Addr).block]? = _ from HV7.out]; rfl
  have hv1 : (w7.alloc (.cells #[.string (S (verbN k))] 9)).cell? ⟨g5, 1, none⟩ = some (.string (S (verbL k))) := by
    rw [World.cell?_of_block (w := w7) (Below.heap_alloc _ _ _ hlt7)]
    unfold World.cell?; rw [show w7.heap[(⟨g5, 1, none⟩ : Addr).block]? = _ from HV7.out]; rfl
  have hsz := S_size (verbL k)
  have hasc := verbL_ascii k
  have HWL : Hid (wordsL v k = ((verbL k).map (wordL v)).filter (fun x => !x.isEmpty)) := rfl
  have hlen := verbL_len k
  have hwl := words_len v HOK.out HI.out k HRB.out
  have HLN := Lib.hid hwl
  clear hwl
  generalize verbL k = letters at *
  generalize hws : wordsL v k = ws at *
  generalize verbN k = nm at *
  clear hws
  have hn0 : TagW.newE v.tags = 0 := (right_parts HRB.out).2.1
  have hJ := right_J HRB.out
  have HWD := Lib.hid (fun c hc w h1 h2 => word_any v s HOK.out HI.out hJ hn0 c hc w h1 h2)
  rw [HVC.out] at HWD
  clear hn0 hJ
  have hs8 : W.heap.size < w7.heap.size := by omega
  go_wp2_with fail
  clear hv0 hv1
  go_loopg [4] letters.length (fun gf v4 wx => ∃ (j : Nat) (l : List (List UInt8)), j + gf = letters.length ∧ l = nm :: ((letters.take j).map (wordL v)).filter (fun x => !x.isEmpty) ∧ wx.heap[w7.heap.size + 1]? = some (.stringIter (S letters) j) ∧ wx.ownsRow w7.heap.size 9 1 v4 l.length (l.map fun x => .string (S x)) ∧ Below w7.heap.size w7 wx)
  case atStart =>
    have hO : (w7.alloc (.cells #[.string (S nm)] 9)).ownsRow w7.heap.size 9 1 (.slice (some ⟨w7.heap.size, 0, none⟩) 1 1) 1 [.string (S nm)] := ⟨rfl, .inr ⟨w7.heap.size, 1, #[.string (S nm)], rfl, Nat.le_refl _, heap_alloc_new w7 _, by omega, by unfold maxLen; omega, rfl, rfl⟩⟩
    have hE : LinW.Ext (w7.alloc (.cells #[.string (S nm)] 9)) ((w7.alloc (.cells #[.string (S nm)] 9)).iter (S letters) 0) := (Below.refl _ _).alloc (Nat.le_refl _) _
    refine ⟨0, [nm], by omega, rfl, ?_, LinW.own_ext hO hE, ((Below.refl _ _).alloc (Nat.le_refl _) _).alloc (by simp) _⟩
    have := World.alloc_heap_new (w7.alloc (.cells #[.string (S nm)] 9)) (.stringIter (S letters) 0)
    rw [World.size_alloc] at this; exact this
  case round =>
    obtain ⟨j, l, hj, hl, hit, hown, hB⟩ := hrel
    by_cases hlt2 : j < letters.length
    · obtain ⟨g', rfl⟩ : ∃ g', gk = g' + 1 := ⟨gk - 1, by omega⟩
      have hnx : ∀ ty, (Instr.next (.pointer (some ⟨w7.heap.size + 1, 0, none⟩)) true ty).run Tryz.prog wr = _ := fun ty => Lib.run_next_any_at wr (w7.heap.size + 1) (S letters) j ty hit (by rw [hsz]; exact hlt2)
      have hasc2 : letters[j].toNat < 128 := hasc _ (List.getElem_mem hlt2)
      rw [NameMath.decode_ascii letters j hlt2 hasc2] at hnx
      simp only [] at hnx
      have hsn : ((letters.take (j + 1)).map (wordL v)).filter (fun x => !x.isEmpty) = ((letters.take j).map (wordL v)).filter (fun x => !x.isEmpty) ++ (if (wordL v letters[j]).isEmpty then [] else [wordL v letters[j]]) := by
        rw [List.take_succ_eq_append_getElem hlt2, List.map_append, List.filter_append]
        congr 1
        cases hh : (wordL v letters[j]).isEmpty <;> simp [hh]
      have hll : l.length ≤ 9 := by
        rw [hl, List.length_cons]
        have := List.length_filter_le (fun x => !List.isEmpty x) ((letters.take j).map (wordL v))
        rw [List.length_map, List.length_take] at this
        omega
      have hWC := HWD.out letters[j] hasc2
      generalize letters[j] = c at *
      have hit2 := Lib.iterAt_heap wr (w7.heap.size + 1) (S letters) j (j + 1) hit
      have hB2 := Lib.below_iterAt hB (k := w7.heap.size + 1) (by omega) (S letters) (j + 1)
      have hown2 : (wr.iterAt (w7.heap.size + 1) (S letters) (j + 1)).ownsRow w7.heap.size 9 1 u4 l.length (l.map fun x => .string (S x)) := by
        refine ⟨hown.1, ?_⟩
        rcases hown.2 with hn | ⟨g, cap, cur, hv, hb, hg, rest⟩
        · exact .inl hn
        · exact .inr ⟨g, cap, cur, hv, hb, (Lib.iterAt_other wr (w7.heap.size + 1) g (S letters) (j + 1) (fun e => by subst e; rw [hit] at hg; cases hg)).trans hg, rest⟩
      have HIT2 := Lib.hid hit2
      have HB2 := Lib.hid hB2
      have HOWN2 := Lib.hid hown2
      have HWC := Lib.hid hWC
      have HSN := Lib.hid hsn
      have HL := Lib.hid hl
      clear hit hB hown hit2 hB2 hown2 hWC hsn hl
      obtain ⟨w2, hw2⟩ : ∃ w2, wr.iterAt (w7.heap.size + 1) (S letters) (j + 1) = w2 := ⟨_, rfl⟩
      rw [hw2] at hnx HIT2 HB2 HOWN2
      clear hw2
      have hX2 := HX7.out.below HB2.out
      have HX2 := Lib.hid hX2
      clear hX2
      have c0 : w2.cell? ⟨W.heap.size, 0, none⟩ = some (.int .i64 (k : Int)) := HX2.out 0 _ (HCS.out 0 _ (by decide) rfl)
      have c1 : w2.cell? ⟨W.heap.size, 1, none⟩ = some (.int .i64 v.queue) := HX2.out 1 _ (HCS.out 1 _ (by decide) rfl)
      have c2 : w2.cell? ⟨W.heap.size, 2, none⟩ = some (.int .i64 v.n) := HX2.out 2 _ (HCS.out 2 _ (by decide) rfl)
      have c3 : w2.cell? ⟨W.heap.size, 3, none⟩ = some (.int .i64 v.aat) := HX2.out 3 _ (HCS.out 3 _ (by decide) rfl)
      have c4 : w2.cell? ⟨W.heap.size, 4, none⟩ = some (.int .i64 v.lack) := HX2.out 4 _ (HCS.out 4 _ (by decide) rfl)
      have c5 : w2.cell? ⟨W.heap.size, 5, none⟩ = some (.string (S v.topic)) := HX2.out 5 _ (HCS.out 5 _ (by decide) rfl)
      have c6 : w2.cell? ⟨W.heap.size, 6, none⟩ = some (.string (S v.group)) := HX2.out 6 _ (HCS.out 6 _ (by decide) rfl)
      have c7 : w2.cell? ⟨W.heap.size, 7, none⟩ = some (.string (S v.tag)) := HX2.out 7 _ (HCS.out 7 _ (by decide) rfl)
      have c8 : w2.cell? ⟨W.heap.size, 8, none⟩ = some (.string (S v.key)) := HX2.out 8 _ (HCS.out 8 _ (by decide) rfl)
      have c9 : w2.cell? ⟨W.heap.size, 9, none⟩ = some (.string (S v.body)) := HX2.out 9 _ (HCS.out 9 _ (by decide) rfl)
      have c10 : w2.cell? ⟨W.heap.size, 10, none⟩ = some (.slice s.ka v.keys.length s.kc) := HX2.out 10 _ (HCS.out 10 _ (by decide) rfl)
      have c11 : w2.cell? ⟨W.heap.size, 11, none⟩ = some (.slice s.ta v.tags.length s.tc) := HX2.out 11 _ (HCS.out 11 _ (by decide) rfl)
      have c12 : w2.cell? ⟨W.heap.size, 12, none⟩ = some (.slice s.pa v.keep.length s.pc) := HX2.out 12 _ (HCS.out 12 _ (by decide) rfl)
      have c13 : w2.cell? ⟨W.heap.size, 13, none⟩ = some (.bool v.sync) := HX2.out 13 _ (HCS.out 13 _ (by decide) rfl)
      go_wp2_with fail
      clear c0 c1 c2 c3 c4 c5 c6 c7 c8 c9 c10 c11 c12 c13
      have HBW2 := Lib.hid (HB7.out.trans (HB2.out.mono HB7.out.size))
      refine (HWC.out w2 (HIN.out.below HBW2.out) (HTB.out.below HBW2.out)).mono ?_
      rintro e w3 ⟨rfl, hb⟩
      have HIT3 := Lib.hid ((hb.block _ (Array.getElem?_eq_some_iff.1 HIT2.out).1).trans HIT2.out)
      have HB3 := Lib.hid (HB2.out.trans (hb.mono HB2.out.size))
      have HOWN3 := Lib.hid (LinW.own_ext HOWN2.out hb)
      have htl := NameW.S_toList (wordL v c)
      clear hb HIT2 HB2 HOWN2 HWC HX2 HBW2 hnx
      generalize wordL v c = d at *
      generalize hde : d.isEmpty = de at *
      cases de with
      | true =>
        go_wp2_with fail
        go_roundg g'
        case measure => omega
        case rel => exact ⟨j + 1, l, by omega, by rw [HSN.out, HL.out]; simp, HIT3.out, HOWN3.out, HB3.out⟩
      | false =>
        have HROW : Hid (Row1 (w3.alloc (.cells #[.string (S d)] 9)) (some ⟨w3.heap.size, 0, none⟩) [.string (S d)]) := fun i hi => ⟨_, 0, rfl, by rw [World.cell?_alloc_new]; match i, hi with | 0, _ => rfl⟩
        have HBA : Hid (Below w7.heap.size w7 (w3.alloc (.cells #[.string (S d)] 9))) := HB3.out.alloc HB3.out.size _
        have HITA : Hid ((w3.alloc (.cells #[.string (S d)] 9)).heap[w7.heap.size + 1]? = some (.stringIter (S letters) (j + 1))) := (Below.heap_alloc _ _ _ (Array.getElem?_eq_some_iff.1 HIT3.out).1).trans HIT3.out
        skip
        go_wp2_with (at_builtin; refine wpList_append_row rfl (.tmp 48) (.tmp 50) 22 rfl w7.heap.size 9 i0 (.string ⟨#[]⟩) 16 Tryz.underlying22 HI0.out HZ0.out HZ1.out HZ2.out rfl u4 l.length _ rfl (HOWN3.out.alloc _) (some ⟨w3.heap.size, 0, none⟩) 1 1 [.string (S d)] rfl rfl HROW.out ?c2 ?c3 ?c4 ?c5 ?_)
        case c2 => intro u hu; simp at hu; subst hu; rfl
        case c3 => unfold maxLen; omega
        case c4 => omega
        case c5 => exact HBA.out.size
        intro v' w4 hown4 hg4
        have HB4 : Hid (Below w7.heap.size w7 w4) := HBA.out.grown hg4 HBA.out.size (ownBlock_of_own HOWN3.out)
        have HIT4 : Hid (w4.heap[w7.heap.size + 1]? = some (.stringIter (S letters) (j + 1))) := by
          refine (hg4.block _ (Array.getElem?_eq_some_iff.1 HITA.out).1 ?_).trans HITA.out
          intro e
          rcases Go.Proofs.ownsRow_ne_a HOWN3.out HIT3.out (fun cur e => by cases e) with h | h
          · rw [h] at e; cases e
          · exact h e.symm
        have HO4 : Hid (w4.ownsRow w7.heap.size 9 1 v' (l ++ [d]).length ((l ++ [d]).map fun x => .string (S x))) := by
          show w4.ownsRow _ _ _ _ _ _
          rw [List.length_append, List.map_append]
          exact hown4
        clear hown4 hg4 HBA HROW HITA
        go_wp2_with fail
        go_roundg g'
        case measure => omega
        case rel => exact ⟨j + 1, l ++ [d], by omega, by rw [HSN.out, HL.out]; simp, HIT4.out, HO4.out, HB4.out⟩
    · have ej : j = letters.length := by omega
      subst ej
      rw [List.take_length, ← HWL.out] at hl
      have hnx : ∀ ty, (Instr.next (.pointer (some ⟨w7.heap.size + 1, 0, none⟩)) true ty).run Tryz.prog wr = _ := fun ty => Lib.run_next_end_at wr (w7.heap.size + 1) (S letters) letters.length ty hit (by rw [hsz]; omega)
      obtain ⟨ad, cp, rfl, hS, hcap⟩ := strs_own hown
      have hln := HLN.out
      rw [← hl] at hln
      have HJ := Lib.hid (join_any ad cp l [32] (by have := hln.1; omega) hcap hln.2 wr hS)
      have HB := Lib.hid hB
      have HL := Lib.hid hl
      clear hS hcap hln hown hit hB hl
      go_wp2_with fail
      refine HJ.out.mono ?_
      rintro e w2 ⟨rfl, hb2⟩
      have HB2 := Lib.hid (HB7.out.trans ((HB.out.mono HB7.out.size).trans (hb2.mono (Nat.le_trans HB7.out.size HB.out.size))))
      clear hb2
      go_wp2_with fail
      go_ret
      rw [HT.out, HL.out]
      exact ⟨rfl, HB2.out⟩
end Go.Proofs.YtadhkeboaapfcaaGreatDoor.EvW
