/- The statement LinesUnlike: unlike events that have lines have unlike ones; unlike texts have unlike words. No condition. -/
import Derived.Test.YtadhkeboaapfcaaGreatDoorAwake
import Derived.Test.YtadhkeboaapfcaaGreatDoorOpenEv
import Derived.Test.YtadhkeboaapfcaaGreatDoorGreat
import Derived.Test.YtadhkeboaapfcaaGreatDoorSame
import Derived.Test.YtadhkeboaapfcaaGreatDoorCards
import Derived.Test.YtadhkeboaapfcaaGreatDoorTie
import Derived.SevenTiedAt
namespace Go.Proofs.YtadhkeboaapfcaaGreatDoor.linesUnlike
open Go.ChangeShapes Go.WideShapes Go.ChangeAt Go.RowKit OctMath HexMath EvW
set_option maxRecDepth 100000
set_option linter.unusedSimpArgs false
set_option linter.unusedVariables false

/-! the plain law -/
theorem line_same (u v : Ev) (hu : eventL u ≠ []) (hv : eventL v ≠ []) : decide (eventL u = eventL v) = sameE u v := by
  rw [Bool.eq_iff_iff, decide_eq_true_eq, same_true]
  exact ⟨fun h => by rw [← read_event u hu, ← read_event v hv, h], fun h => by rw [h]⟩
theorem hex_same (a b : List UInt8) : decide (hexL a = hexL b) = decide (a = b) := by
  rw [decide_eq_decide]
  constructor
  · intro h
    have h1 := unhex_hex a
    have h2 := unhex_hex b
    rw [h] at h1
    exact (Prod.mk.inj (h1.symm.trans h2)).1
  · rintro rfl; rfl

set_option maxHeartbeats 12800000 in
theorem law (W : World) (u v : Ev) (su sv : EvS) (l m : List UInt8) (hiu : EvIn W u su) (hiv : EvIn W v sv) (hu : EvI u) (hv : EvI v) (henv : Env W) :
    Calls Tryz.prog 5 #[.agg (u.cells su), .agg (v.cells sv), .agg #[.string (S l), .string (S m)]] W fun e w' => e = .returned (.bool true) ∧ Below W.heap.size W w' := by
  have HU := Lib.hid hu
  have HV := Lib.hid hv
  have htl := fun t => NameW.S_toList t
  have hsz := S_size
  have hcu : (u.cells su).size = 14 := rfl
  have hcv : (v.cells sv).size = 14 := rfl
  have HB0 : Hid (Below W.heap.size W (((W.alloc (.cells (u.cells su) 25)).alloc (.cells (v.cells sv) 25)).alloc (.cells #[.string (S l), .string (S m)] 39))) := (((Below.refl _ W).alloc (Nat.le_refl _) _).alloc (by simp) _).alloc (by simp; omega) _
  have HXU : Hid (EvW.Boxed (((W.alloc (.cells (u.cells su) 25)).alloc (.cells (v.cells sv) 25)).alloc (.cells #[.string (S l), .string (S m)] 39)) W.heap.size (u.cells su)) := ((EvW.Boxed.new W _ _).below ((Below.refl _ _).alloc (Nat.le_refl _) _)).below ((Below.refl _ _).alloc (Nat.le_refl _) _)
  have HXV : Hid (EvW.Boxed (((W.alloc (.cells (u.cells su) 25)).alloc (.cells (v.cells sv) 25)).alloc (.cells #[.string (S l), .string (S m)] 39)) (W.heap.size + 1) (v.cells sv)) := by
    have := EvW.Boxed.new (W.alloc (.cells (u.cells su) 25)) (v.cells sv) 25
    rw [World.size_alloc] at this
    exact this.below ((Below.refl _ _).alloc (Nat.le_refl _) _)
  have HXP : Hid (EvW.Boxed (((W.alloc (.cells (u.cells su) 25)).alloc (.cells (v.cells sv) 25)).alloc (.cells #[.string (S l), .string (S m)] 39)) (W.heap.size + 1 + 1) #[.string (S l), .string (S m)]) := by
    have := EvW.Boxed.new ((W.alloc (.cells (u.cells su) 25)).alloc (.cells (v.cells sv) 25)) #[.string (S l), .string (S m)] 39
    rw [World.size_alloc, World.size_alloc] at this
    exact this
  have HIU := Lib.hid (hiu.below HB0.out)
  have HIV := Lib.hid (hiv.below HB0.out)
  have HE := Lib.hid (henv.below HB0.out)
  clear hiu hiv hu hv henv
  go_enter Tryz.func5, Tryz.ntmps5
  go_upto_region 1 with fail
  generalize (((W.alloc (.cells (u.cells su) 25)).alloc (.cells (v.cells sv) 25)).alloc (.cells #[.string (S l), .string (S m)] 39)) = w0 at *
  clear hcu hcv
  generalize W.heap.size + 1 + 1 = C at *
  generalize W.heap.size + 1 = B at *
  go_wp2_with fail
  refine (awake_any _ HE.out).mono ?_
  rintro e w1 ⟨rfl, hb⟩
  replace HXU := Lib.hid (HXU.out.below hb)
  replace HXV := Lib.hid (HXV.out.below hb)
  replace HXP := Lib.hid (HXP.out.below hb)
  replace HIU := Lib.hid (HIU.out.below hb)
  replace HIV := Lib.hid (HIV.out.below hb)
  replace HE := Lib.hid (HE.out.below hb)
  replace HB0 := Lib.hid (HB0.out.trans (hb.mono HB0.out.size))
  clear hb
  have c0 : w1.cell? ⟨W.heap.size, 0, none⟩ = some (.int .i64 u.kind) := HXU.out 0 _ rfl
  have c1 : w1.cell? ⟨W.heap.size, 1, none⟩ = some (.int .i64 u.queue) := HXU.out 1 _ rfl
  have c2 : w1.cell? ⟨W.heap.size, 2, none⟩ = some (.int .i64 u.n) := HXU.out 2 _ rfl
  have c3 : w1.cell? ⟨W.heap.size, 3, none⟩ = some (.int .i64 u.aat) := HXU.out 3 _ rfl
  have c4 : w1.cell? ⟨W.heap.size, 4, none⟩ = some (.int .i64 u.lack) := HXU.out 4 _ rfl
  have c5 : w1.cell? ⟨W.heap.size, 5, none⟩ = some (.string (S u.topic)) := HXU.out 5 _ rfl
  have c6 : w1.cell? ⟨W.heap.size, 6, none⟩ = some (.string (S u.group)) := HXU.out 6 _ rfl
  have c7 : w1.cell? ⟨W.heap.size, 7, none⟩ = some (.string (S u.tag)) := HXU.out 7 _ rfl
  have c8 : w1.cell? ⟨W.heap.size, 8, none⟩ = some (.string (S u.key)) := HXU.out 8 _ rfl
  have c9 : w1.cell? ⟨W.heap.size, 9, none⟩ = some (.string (S u.body)) := HXU.out 9 _ rfl
  have c10 : w1.cell? ⟨W.heap.size, 10, none⟩ = some (.slice su.ka u.keys.length su.kc) := HXU.out 10 _ rfl
  have c11 : w1.cell? ⟨W.heap.size, 11, none⟩ = some (.slice su.ta u.tags.length su.tc) := HXU.out 11 _ rfl
  have c12 : w1.cell? ⟨W.heap.size, 12, none⟩ = some (.slice su.pa u.keep.length su.pc) := HXU.out 12 _ rfl
  have c13 : w1.cell? ⟨W.heap.size, 13, none⟩ = some (.bool u.sync) := HXU.out 13 _ rfl
  go_wp2_with fail
  clear c0 c1 c2 c3 c4 c5 c6 c7 c8 c9 c10 c11 c12 c13
  refine (great_any u su _ HIU.out).mono ?_
  rintro e w2 ⟨he, hb⟩
  replace HXU := Lib.hid (HXU.out.below hb)
  replace HXV := Lib.hid (HXV.out.below hb)
  replace HXP := Lib.hid (HXP.out.below hb)
  replace HIU := Lib.hid (HIU.out.below hb)
  replace HIV := Lib.hid (HIV.out.below hb)
  replace HE := Lib.hid (HE.out.below hb)
  replace HB0 := Lib.hid (HB0.out.trans (hb.mono HB0.out.size))
  clear hb
  rcases he with ⟨rfl, hsu⟩ | rfl
  case' inr =>
    go_wp2_with fail
    go_ret
    exact ⟨rfl, HB0.out⟩
  have HSU := Lib.hid hsu
  clear hsu
  have c0 : w2.cell? ⟨B, 0, none⟩ = some (.int .i64 v.kind) := HXV.out 0 _ rfl
  have c1 : w2.cell? ⟨B, 1, none⟩ = some (.int .i64 v.queue) := HXV.out 1 _ rfl
  have c2 : w2.cell? ⟨B, 2, none⟩ = some (.int .i64 v.n) := HXV.out 2 _ rfl
  have c3 : w2.cell? ⟨B, 3, none⟩ = some (.int .i64 v.aat) := HXV.out 3 _ rfl
  have c4 : w2.cell? ⟨B, 4, none⟩ = some (.int .i64 v.lack) := HXV.out 4 _ rfl
  have c5 : w2.cell? ⟨B, 5, none⟩ = some (.string (S v.topic)) := HXV.out 5 _ rfl
  have c6 : w2.cell? ⟨B, 6, none⟩ = some (.string (S v.group)) := HXV.out 6 _ rfl
  have c7 : w2.cell? ⟨B, 7, none⟩ = some (.string (S v.tag)) := HXV.out 7 _ rfl
  have c8 : w2.cell? ⟨B, 8, none⟩ = some (.string (S v.key)) := HXV.out 8 _ rfl
  have c9 : w2.cell? ⟨B, 9, none⟩ = some (.string (S v.body)) := HXV.out 9 _ rfl
  have c10 : w2.cell? ⟨B, 10, none⟩ = some (.slice sv.ka v.keys.length sv.kc) := HXV.out 10 _ rfl
  have c11 : w2.cell? ⟨B, 11, none⟩ = some (.slice sv.ta v.tags.length sv.tc) := HXV.out 11 _ rfl
  have c12 : w2.cell? ⟨B, 12, none⟩ = some (.slice sv.pa v.keep.length sv.pc) := HXV.out 12 _ rfl
  have c13 : w2.cell? ⟨B, 13, none⟩ = some (.bool v.sync) := HXV.out 13 _ rfl
  go_wp2_with fail
  clear c0 c1 c2 c3 c4 c5 c6 c7 c8 c9 c10 c11 c12 c13
  refine (great_any v sv _ HIV.out).mono ?_
  rintro e w3 ⟨he, hb⟩
  replace HXU := Lib.hid (HXU.out.below hb)
  replace HXV := Lib.hid (HXV.out.below hb)
  replace HXP := Lib.hid (HXP.out.below hb)
  replace HIU := Lib.hid (HIU.out.below hb)
  replace HIV := Lib.hid (HIV.out.below hb)
  replace HE := Lib.hid (HE.out.below hb)
  replace HB0 := Lib.hid (HB0.out.trans (hb.mono HB0.out.size))
  clear hb
  rcases he with ⟨rfl, hsv⟩ | rfl
  case' inr =>
    go_wp2_with fail
    go_ret
    exact ⟨rfl, HB0.out⟩
  have HSV := Lib.hid hsv
  clear hsv
  have q0 : w3.cell? ⟨C, 0, none⟩ = some (.string (S l)) := HXP.out 0 _ rfl
  have q1 : w3.cell? ⟨C, 1, none⟩ = some (.string (S m)) := HXP.out 1 _ rfl
  by_cases h1 : 1000 < l.length
  · go_wp2_with fail
    go_ret
    exact ⟨rfl, HB0.out⟩
  by_cases h2 : 1000 < m.length
  · go_wp2_with fail
    go_ret
    exact ⟨rfl, HB0.out⟩
  go_wp2_with fail
  clear q0 q1
  refine Grow.wp_region_g 6 [none, some (.inl (.string (S (eventL u)))), none, some (.inl (.string (S (eventL v)))), none, none] LinW.Ext (by kernel_rfl) (by kernel_rfl) (by kernel_rfl) LinW.Ext.refl (fun _ _ _ => LinW.Ext.trans) ?_ ?_
  · intro K hK Y hY v w w' hR h
    simp only [List.mem_cons, List.not_mem_nil, or_false] at hK
    rcases hK with rfl | rfl | rfl | rfl | rfl | rfl <;> simp only [reduceCtorEq, Option.some.injEq] at hY
  simp only [List.take_succ_cons, List.take_zero, List.drop_succ_cons, List.drop_zero]
  refine Grow.g_det rfl ?_
  apply Exists.intro
  refine ⟨fun w hw hF => ?_, ?_⟩
  · clear hF
    have c0 : w.cell? ⟨W.heap.size, 0, none⟩ = some (.int .i64 u.kind) := (HXU.out.below (LinW.Ext.trans (Below.drew (Below.refl _ _)) hw)) 0 _ rfl
    have c1 : w.cell? ⟨W.heap.size, 1, none⟩ = some (.int .i64 u.queue) := (HXU.out.below (LinW.Ext.trans (Below.drew (Below.refl _ _)) hw)) 1 _ rfl
    have c2 : w.cell? ⟨W.heap.size, 2, none⟩ = some (.int .i64 u.n) := (HXU.out.below (LinW.Ext.trans (Below.drew (Below.refl _ _)) hw)) 2 _ rfl
    have c3 : w.cell? ⟨W.heap.size, 3, none⟩ = some (.int .i64 u.aat) := (HXU.out.below (LinW.Ext.trans (Below.drew (Below.refl _ _)) hw)) 3 _ rfl
    have c4 : w.cell? ⟨W.heap.size, 4, none⟩ = some (.int .i64 u.lack) := (HXU.out.below (LinW.Ext.trans (Below.drew (Below.refl _ _)) hw)) 4 _ rfl
    have c5 : w.cell? ⟨W.heap.size, 5, none⟩ = some (.string (S u.topic)) := (HXU.out.below (LinW.Ext.trans (Below.drew (Below.refl _ _)) hw)) 5 _ rfl
    have c6 : w.cell? ⟨W.heap.size, 6, none⟩ = some (.string (S u.group)) := (HXU.out.below (LinW.Ext.trans (Below.drew (Below.refl _ _)) hw)) 6 _ rfl
    have c7 : w.cell? ⟨W.heap.size, 7, none⟩ = some (.string (S u.tag)) := (HXU.out.below (LinW.Ext.trans (Below.drew (Below.refl _ _)) hw)) 7 _ rfl
    have c8 : w.cell? ⟨W.heap.size, 8, none⟩ = some (.string (S u.key)) := (HXU.out.below (LinW.Ext.trans (Below.drew (Below.refl _ _)) hw)) 8 _ rfl
    have c9 : w.cell? ⟨W.heap.size, 9, none⟩ = some (.string (S u.body)) := (HXU.out.below (LinW.Ext.trans (Below.drew (Below.refl _ _)) hw)) 9 _ rfl
    have c10 : w.cell? ⟨W.heap.size, 10, none⟩ = some (.slice su.ka u.keys.length su.kc) := (HXU.out.below (LinW.Ext.trans (Below.drew (Below.refl _ _)) hw)) 10 _ rfl
    have c11 : w.cell? ⟨W.heap.size, 11, none⟩ = some (.slice su.ta u.tags.length su.tc) := (HXU.out.below (LinW.Ext.trans (Below.drew (Below.refl _ _)) hw)) 11 _ rfl
    have c12 : w.cell? ⟨W.heap.size, 12, none⟩ = some (.slice su.pa u.keep.length su.pc) := (HXU.out.below (LinW.Ext.trans (Below.drew (Below.refl _ _)) hw)) 12 _ rfl
    have c13 : w.cell? ⟨W.heap.size, 13, none⟩ = some (.bool u.sync) := (HXU.out.below (LinW.Ext.trans (Below.drew (Below.refl _ _)) hw)) 13 _ rfl
    go_simp
    exact ⟨rfl, LinW.Ext.refl _⟩
  simp only [Act.put, List.setIfInBounds_toArray, List.set_cons_zero, List.set_cons_succ]
  refine Grow.g_con rfl (fun w hw hF => ?_) ?_
  · clear hF
    have hc := event_any u su HSU.out.ok HU.out w (HIU.out.below (LinW.Ext.trans (Below.drew (Below.refl _ _)) hw)) (HE.out.below (LinW.Ext.trans (Below.drew (Below.refl _ _)) hw)).tab
    go_simp
    refine hc.mono ?_
    rintro e w' ⟨rfl, hb⟩
    exact ⟨_, rfl, rfl, hb⟩
  simp only [Act.put, List.setIfInBounds_toArray, List.set_cons_zero, List.set_cons_succ]
  refine Grow.g_det rfl ?_
  apply Exists.intro
  refine ⟨fun w hw hF => ?_, ?_⟩
  · clear hF
    have c0 : w.cell? ⟨B, 0, none⟩ = some (.int .i64 v.kind) := (HXV.out.below (LinW.Ext.trans (Below.drew (Below.refl _ _)) hw)) 0 _ rfl
    have c1 : w.cell? ⟨B, 1, none⟩ = some (.int .i64 v.queue) := (HXV.out.below (LinW.Ext.trans (Below.drew (Below.refl _ _)) hw)) 1 _ rfl
    have c2 : w.cell? ⟨B, 2, none⟩ = some (.int .i64 v.n) := (HXV.out.below (LinW.Ext.trans (Below.drew (Below.refl _ _)) hw)) 2 _ rfl
    have c3 : w.cell? ⟨B, 3, none⟩ = some (.int .i64 v.aat) := (HXV.out.below (LinW.Ext.trans (Below.drew (Below.refl _ _)) hw)) 3 _ rfl
    have c4 : w.cell? ⟨B, 4, none⟩ = some (.int .i64 v.lack) := (HXV.out.below (LinW.Ext.trans (Below.drew (Below.refl _ _)) hw)) 4 _ rfl
    have c5 : w.cell? ⟨B, 5, none⟩ = some (.string (S v.topic)) := (HXV.out.below (LinW.Ext.trans (Below.drew (Below.refl _ _)) hw)) 5 _ rfl
    have c6 : w.cell? ⟨B, 6, none⟩ = some (.string (S v.group)) := (HXV.out.below (LinW.Ext.trans (Below.drew (Below.refl _ _)) hw)) 6 _ rfl
    have c7 : w.cell? ⟨B, 7, none⟩ = some (.string (S v.tag)) := (HXV.out.below (LinW.Ext.trans (Below.drew (Below.refl _ _)) hw)) 7 _ rfl
    have c8 : w.cell? ⟨B, 8, none⟩ = some (.string (S v.key)) := (HXV.out.below (LinW.Ext.trans (Below.drew (Below.refl _ _)) hw)) 8 _ rfl
    have c9 : w.cell? ⟨B, 9, none⟩ = some (.string (S v.body)) := (HXV.out.below (LinW.Ext.trans (Below.drew (Below.refl _ _)) hw)) 9 _ rfl
    have c10 : w.cell? ⟨B, 10, none⟩ = some (.slice sv.ka v.keys.length sv.kc) := (HXV.out.below (LinW.Ext.trans (Below.drew (Below.refl _ _)) hw)) 10 _ rfl
    have c11 : w.cell? ⟨B, 11, none⟩ = some (.slice sv.ta v.tags.length sv.tc) := (HXV.out.below (LinW.Ext.trans (Below.drew (Below.refl _ _)) hw)) 11 _ rfl
    have c12 : w.cell? ⟨B, 12, none⟩ = some (.slice sv.pa v.keep.length sv.pc) := (HXV.out.below (LinW.Ext.trans (Below.drew (Below.refl _ _)) hw)) 12 _ rfl
    have c13 : w.cell? ⟨B, 13, none⟩ = some (.bool v.sync) := (HXV.out.below (LinW.Ext.trans (Below.drew (Below.refl _ _)) hw)) 13 _ rfl
    go_simp
    exact ⟨rfl, LinW.Ext.refl _⟩
  simp only [Act.put, List.setIfInBounds_toArray, List.set_cons_zero, List.set_cons_succ]
  refine Grow.g_con rfl (fun w hw hF => ?_) ?_
  · clear hF
    have hc := event_any v sv HSV.out.ok HV.out w (HIV.out.below (LinW.Ext.trans (Below.drew (Below.refl _ _)) hw)) (HE.out.below (LinW.Ext.trans (Below.drew (Below.refl _ _)) hw)).tab
    go_simp
    refine hc.mono ?_
    rintro e w' ⟨rfl, hb⟩
    exact ⟨_, rfl, rfl, hb⟩
  simp only [Act.put, List.setIfInBounds_toArray, List.set_cons_zero, List.set_cons_succ]
  refine Grow.g_det rfl ?_
  apply Exists.intro
  refine ⟨fun w hw hF => ?_, ?_⟩
  · clear hF
    go_simp
    exact ⟨rfl, LinW.Ext.refl _⟩
  simp only [Act.put, List.setIfInBounds_toArray, List.set_cons_zero, List.set_cons_succ]
  refine Grow.g_det rfl ?_
  apply Exists.intro
  refine ⟨fun w hw hF => ?_, ?_⟩
  · clear hF
    go_simp
    exact ⟨rfl, LinW.Ext.refl _⟩
  simp only [Act.put, List.setIfInBounds_toArray, List.set_cons_zero, List.set_cons_succ]
  refine Grow.g_nil fun w4 hw4 hF => ?_
  clear hF
  have hb : Below w3.heap.size w3 w4 := LinW.Ext.trans (Below.drew (Below.refl _ _)) hw4
  clear hw4
  replace HXU := Lib.hid (HXU.out.below hb)
  replace HXV := Lib.hid (HXV.out.below hb)
  replace HXP := Lib.hid (HXP.out.below hb)
  replace HIU := Lib.hid (HIU.out.below hb)
  replace HIV := Lib.hid (HIV.out.below hb)
  replace HE := Lib.hid (HE.out.below hb)
  replace HB0 := Lib.hid (HB0.out.trans (hb.mono HB0.out.size))
  clear hb
  have HLS := Lib.hid (line_same u v)
  generalize eventL u = xl at *
  generalize eventL v = yl at *
  have hhs := hex_same l m
  have HSC := Lib.hid (fun w h1 h2 => ev_same u v su sv HSU.out.ok HSV.out.ok w h1 h2)
  generalize sameE u v = sb at *
  have HH1 := Lib.hid (fun w => LinW.hex_any l (by omega) w)
  have HH2 := Lib.hid (fun w => LinW.hex_any m (by omega) w)
  have hhb : ∀ b : Bool, (b == b) = true := fun b => by cases b <;> rfl
  generalize hexL l = hl at *
  generalize hexL m = hm at *
  generalize hdm : decide (l = m) = dm at *
  have heq1 : (hl == hm) = dm := by rw [← hhs]; by_cases h : hl = hm <;> simp [h]
  have heq2 : (l == m) = dm := by rw [← hdm]; by_cases h : l = m <;> simp [h]
  have HQ1 := Lib.hid heq1
  have HQ2 := Lib.hid heq2
  clear hhs hdm heq1 heq2
  go_wp2_with fail
  by_cases hx : xl = []
  · subst hx
    clear HLS
    refine Grow.wp_region_g 31 [none, some (.inl (.bool true)), none, none, some (.inl (.bool false)), some (.inl (.bool true)), none, none, none, some (.inl (.bool sb)), none, none, some (.inl (.bool sb)), some (.inl (.bool true)), some (.inl (.bool true)), none, none, none, some (.inl (.string (S hl))), none, none, some (.inl (.string (S hm))), some (.inl (.bool dm)), none, none, none, none, some (.inl (.bool dm)), some (.inl (.bool true)), some (.inl (.bool true)), none] LinW.Ext (by kernel_rfl) (by kernel_rfl) (by kernel_rfl) LinW.Ext.refl (fun _ _ _ => LinW.Ext.trans) ?_ ?_
    · intro K hK Y hY v w w' hR h
      simp only [List.mem_cons, List.not_mem_nil, or_false] at hK
      rcases hK with rfl | rfl | rfl | rfl | rfl | rfl | rfl | rfl | rfl | rfl | rfl | rfl | rfl | rfl | rfl | rfl | rfl | rfl | rfl | rfl | rfl | rfl | rfl | rfl | rfl | rfl | rfl | rfl | rfl | rfl | rfl <;> simp only [reduceCtorEq, Option.some.injEq] at hY
    simp only [List.take_succ_cons, List.take_zero, List.drop_succ_cons, List.drop_zero]
    refine Grow.g_det rfl ?_
    apply Exists.intro
    refine ⟨fun w hw hF => ?_, ?_⟩
    · clear hF
      go_simp
      exact ⟨rfl, LinW.Ext.refl _⟩
    simp only [Act.put, List.setIfInBounds_toArray, List.set_cons_zero, List.set_cons_succ]
    refine Grow.g_con rfl (fun w hw hF => ?_) ?_
    · clear hF
      go_simp
      exact LinW.Ext.refl _
    simp only [Act.put, List.setIfInBounds_toArray, List.set_cons_zero, List.set_cons_succ]
    refine Grow.g_det rfl ?_
    apply Exists.intro
    refine ⟨fun w hw hF => ?_, ?_⟩
    · clear hF
      go_simp
      exact ⟨rfl, LinW.Ext.refl _⟩
    simp only [Act.put, List.setIfInBounds_toArray, List.set_cons_zero, List.set_cons_succ]
    refine Grow.g_skip rfl ?_
    simp only [Act.put, List.setIfInBounds_toArray, List.set_cons_zero, List.set_cons_succ]
    refine Grow.g_skip rfl ?_
    simp only [Act.put, List.setIfInBounds_toArray, List.set_cons_zero, List.set_cons_succ]
    refine Grow.g_con rfl (fun w hw hF => ?_) ?_
    · clear hF
      go_simp
      exact LinW.Ext.refl _
    simp only [Act.put, List.setIfInBounds_toArray, List.set_cons_zero, List.set_cons_succ]
    refine Grow.g_det rfl ?_
    apply Exists.intro
    refine ⟨fun w hw hF => ?_, ?_⟩
    · clear hF
      go_simp
      exact ⟨rfl, LinW.Ext.refl _⟩
    simp only [Act.put, List.setIfInBounds_toArray, List.set_cons_zero, List.set_cons_succ]
    refine Grow.g_skip rfl ?_
    simp only [Act.put, List.setIfInBounds_toArray, List.set_cons_zero, List.set_cons_succ]
    refine Grow.g_skip rfl ?_
    simp only [Act.put, List.setIfInBounds_toArray, List.set_cons_zero, List.set_cons_succ]
    refine Grow.g_skip rfl ?_
    simp only [Act.put, List.setIfInBounds_toArray, List.set_cons_zero, List.set_cons_succ]
    refine Grow.g_skip rfl ?_
    simp only [Act.put, List.setIfInBounds_toArray, List.set_cons_zero, List.set_cons_succ]
    refine Grow.g_skip rfl ?_
    simp only [Act.put, List.setIfInBounds_toArray, List.set_cons_zero, List.set_cons_succ]
    refine Grow.g_skip rfl ?_
    simp only [Act.put, List.setIfInBounds_toArray, List.set_cons_zero, List.set_cons_succ]
    refine Grow.g_skip rfl ?_
    simp only [Act.put, List.setIfInBounds_toArray, List.set_cons_zero, List.set_cons_succ]
    refine Grow.g_con rfl (fun w hw hF => ?_) ?_
    · clear hF
      go_simp
      exact LinW.Ext.refl _
    simp only [Act.put, List.setIfInBounds_toArray, List.set_cons_zero, List.set_cons_succ]
    refine Grow.g_det rfl ?_
    apply Exists.intro
    refine ⟨fun w hw hF => ?_, ?_⟩
    · clear hF
      go_simp
      exact ⟨rfl, LinW.Ext.refl _⟩
    simp only [Act.put, List.setIfInBounds_toArray, List.set_cons_zero, List.set_cons_succ]
    refine Grow.g_det rfl ?_
    apply Exists.intro
    refine ⟨fun w hw hF => ?_, ?_⟩
    · clear hF
      go_simp
      exact ⟨rfl, LinW.Ext.refl _⟩
    simp only [Act.put, List.setIfInBounds_toArray, List.set_cons_zero, List.set_cons_succ]
    refine Grow.g_det rfl ?_
    apply Exists.intro
    refine ⟨fun w hw hF => ?_, ?_⟩
    · clear hF
      have q0 : w.cell? ⟨C, 0, none⟩ = some (.string (S l)) := (HXP.out.below (LinW.Ext.trans (Below.drew (Below.refl _ _)) hw)) 0 _ rfl
      go_simp
      exact ⟨rfl, LinW.Ext.refl _⟩
    simp only [Act.put, List.setIfInBounds_toArray, List.set_cons_zero, List.set_cons_succ]
    refine Grow.g_con rfl (fun w hw hF => ?_) ?_
    · clear hF
      have hc := HH1.out w
      go_simp
      refine hc.mono ?_
      rintro e w' ⟨rfl, hb⟩
      exact ⟨_, rfl, rfl, hb⟩
    simp only [Act.put, List.setIfInBounds_toArray, List.set_cons_zero, List.set_cons_succ]
    refine Grow.g_det rfl ?_
    apply Exists.intro
    refine ⟨fun w hw hF => ?_, ?_⟩
    · clear hF
      go_simp
      exact ⟨rfl, LinW.Ext.refl _⟩
    simp only [Act.put, List.setIfInBounds_toArray, List.set_cons_zero, List.set_cons_succ]
    refine Grow.g_det rfl ?_
    apply Exists.intro
    refine ⟨fun w hw hF => ?_, ?_⟩
    · clear hF
      have q1 : w.cell? ⟨C, 1, none⟩ = some (.string (S m)) := (HXP.out.below (LinW.Ext.trans (Below.drew (Below.refl _ _)) hw)) 1 _ rfl
      go_simp
      exact ⟨rfl, LinW.Ext.refl _⟩
    simp only [Act.put, List.setIfInBounds_toArray, List.set_cons_zero, List.set_cons_succ]
    refine Grow.g_con rfl (fun w hw hF => ?_) ?_
    · clear hF
      have hc := HH2.out w
      go_simp
      refine hc.mono ?_
      rintro e w' ⟨rfl, hb⟩
      exact ⟨_, rfl, rfl, hb⟩
    simp only [Act.put, List.setIfInBounds_toArray, List.set_cons_zero, List.set_cons_succ]
    refine Grow.g_con rfl (fun w hw hF => ?_) ?_
    · clear hF
      have hq := HQ1.out
      go_simp
      exact LinW.Ext.refl _
    simp only [Act.put, List.setIfInBounds_toArray, List.set_cons_zero, List.set_cons_succ]
    refine Grow.g_det rfl ?_
    apply Exists.intro
    refine ⟨fun w hw hF => ?_, ?_⟩
    · clear hF
      go_simp
      exact ⟨rfl, LinW.Ext.refl _⟩
    simp only [Act.put, List.setIfInBounds_toArray, List.set_cons_zero, List.set_cons_succ]
    refine Grow.g_det rfl ?_
    apply Exists.intro
    refine ⟨fun w hw hF => ?_, ?_⟩
    · clear hF
      have q0 : w.cell? ⟨C, 0, none⟩ = some (.string (S l)) := (HXP.out.below (LinW.Ext.trans (Below.drew (Below.refl _ _)) hw)) 0 _ rfl
      go_simp
      exact ⟨rfl, LinW.Ext.refl _⟩
    simp only [Act.put, List.setIfInBounds_toArray, List.set_cons_zero, List.set_cons_succ]
    refine Grow.g_det rfl ?_
    apply Exists.intro
    refine ⟨fun w hw hF => ?_, ?_⟩
    · clear hF
      go_simp
      exact ⟨rfl, LinW.Ext.refl _⟩
    simp only [Act.put, List.setIfInBounds_toArray, List.set_cons_zero, List.set_cons_succ]
    refine Grow.g_det rfl ?_
    apply Exists.intro
    refine ⟨fun w hw hF => ?_, ?_⟩
    · clear hF
      have q1 : w.cell? ⟨C, 1, none⟩ = some (.string (S m)) := (HXP.out.below (LinW.Ext.trans (Below.drew (Below.refl _ _)) hw)) 1 _ rfl
      go_simp
      exact ⟨rfl, LinW.Ext.refl _⟩
    simp only [Act.put, List.setIfInBounds_toArray, List.set_cons_zero, List.set_cons_succ]
    refine Grow.g_con rfl (fun w hw hF => ?_) ?_
    · clear hF
      have hq := HQ2.out
      go_simp
      exact LinW.Ext.refl _
    simp only [Act.put, List.setIfInBounds_toArray, List.set_cons_zero, List.set_cons_succ]
    refine Grow.g_con rfl (fun w hw hF => ?_) ?_
    · clear hF
      have hbb := hhb dm
      go_simp
      exact LinW.Ext.refl _
    simp only [Act.put, List.setIfInBounds_toArray, List.set_cons_zero, List.set_cons_succ]
    refine Grow.g_con rfl (fun w hw hF => ?_) ?_
    · clear hF
      go_simp
      exact LinW.Ext.refl _
    simp only [Act.put, List.setIfInBounds_toArray, List.set_cons_zero, List.set_cons_succ]
    refine Grow.g_det rfl ?_
    apply Exists.intro
    refine ⟨fun w hw hF => ?_, ?_⟩
    · clear hF
      go_simp
      exact ⟨rfl, LinW.Ext.refl _⟩
    simp only [Act.put, List.setIfInBounds_toArray, List.set_cons_zero, List.set_cons_succ]
    refine Grow.g_nil fun w5 hw5 hF => ?_
    clear hF
    have hb : Below w4.heap.size w4 w5 := LinW.Ext.trans (Below.drew (Below.refl _ _)) hw5
    replace HB0 := Lib.hid (HB0.out.trans (hb.mono HB0.out.size))
    clear hb
    go_wp2_with fail
    go_ret
    exact ⟨rfl, HB0.out⟩
  have hxe : (xl == []) = false := by simp [hx]
  by_cases hy : yl = []
  · subst hy
    clear HLS
    refine Grow.wp_region_g 31 [none, some (.inl (.bool false)), none, none, some (.inl (.bool true)), some (.inl (.bool true)), none, none, none, some (.inl (.bool sb)), none, none, some (.inl (.bool sb)), some (.inl (.bool true)), some (.inl (.bool true)), none, none, none, some (.inl (.string (S hl))), none, none, some (.inl (.string (S hm))), some (.inl (.bool dm)), none, none, none, none, some (.inl (.bool dm)), some (.inl (.bool true)), some (.inl (.bool true)), none] LinW.Ext (by kernel_rfl) (by kernel_rfl) (by kernel_rfl) LinW.Ext.refl (fun _ _ _ => LinW.Ext.trans) ?_ ?_
    · intro K hK Y hY v w w' hR h
      simp only [List.mem_cons, List.not_mem_nil, or_false] at hK
      rcases hK with rfl | rfl | rfl | rfl | rfl | rfl | rfl | rfl | rfl | rfl | rfl | rfl | rfl | rfl | rfl | rfl | rfl | rfl | rfl | rfl | rfl | rfl | rfl | rfl | rfl | rfl | rfl | rfl | rfl | rfl | rfl <;> simp only [reduceCtorEq, Option.some.injEq] at hY
    simp only [List.take_succ_cons, List.take_zero, List.drop_succ_cons, List.drop_zero]
    refine Grow.g_det rfl ?_
    apply Exists.intro
    refine ⟨fun w hw hF => ?_, ?_⟩
    · clear hF
      go_simp
      exact ⟨rfl, LinW.Ext.refl _⟩
    simp only [Act.put, List.setIfInBounds_toArray, List.set_cons_zero, List.set_cons_succ]
    refine Grow.g_con rfl (fun w hw hF => ?_) ?_
    · clear hF
      go_simp
      exact LinW.Ext.refl _
    simp only [Act.put, List.setIfInBounds_toArray, List.set_cons_zero, List.set_cons_succ]
    refine Grow.g_det rfl ?_
    apply Exists.intro
    refine ⟨fun w hw hF => ?_, ?_⟩
    · clear hF
      go_simp
      exact ⟨rfl, LinW.Ext.refl _⟩
    simp only [Act.put, List.setIfInBounds_toArray, List.set_cons_zero, List.set_cons_succ]
    refine Grow.g_det rfl ?_
    apply Exists.intro
    refine ⟨fun w hw hF => ?_, ?_⟩
    · clear hF
      go_simp
      exact ⟨rfl, LinW.Ext.refl _⟩
    simp only [Act.put, List.setIfInBounds_toArray, List.set_cons_zero, List.set_cons_succ]
    refine Grow.g_con rfl (fun w hw hF => ?_) ?_
    · clear hF
      go_simp
      exact LinW.Ext.refl _
    simp only [Act.put, List.setIfInBounds_toArray, List.set_cons_zero, List.set_cons_succ]
    refine Grow.g_con rfl (fun w hw hF => ?_) ?_
    · clear hF
      go_simp
      exact LinW.Ext.refl _
    simp only [Act.put, List.setIfInBounds_toArray, List.set_cons_zero, List.set_cons_succ]
    refine Grow.g_det rfl ?_
    apply Exists.intro
    refine ⟨fun w hw hF => ?_, ?_⟩
    · clear hF
      go_simp
      exact ⟨rfl, LinW.Ext.refl _⟩
    simp only [Act.put, List.setIfInBounds_toArray, List.set_cons_zero, List.set_cons_succ]
    refine Grow.g_skip rfl ?_
    simp only [Act.put, List.setIfInBounds_toArray, List.set_cons_zero, List.set_cons_succ]
    refine Grow.g_skip rfl ?_
    simp only [Act.put, List.setIfInBounds_toArray, List.set_cons_zero, List.set_cons_succ]
    refine Grow.g_skip rfl ?_
    simp only [Act.put, List.setIfInBounds_toArray, List.set_cons_zero, List.set_cons_succ]
    refine Grow.g_skip rfl ?_
    simp only [Act.put, List.setIfInBounds_toArray, List.set_cons_zero, List.set_cons_succ]
    refine Grow.g_skip rfl ?_
    simp only [Act.put, List.setIfInBounds_toArray, List.set_cons_zero, List.set_cons_succ]
    refine Grow.g_skip rfl ?_
    simp only [Act.put, List.setIfInBounds_toArray, List.set_cons_zero, List.set_cons_succ]
    refine Grow.g_skip rfl ?_
    simp only [Act.put, List.setIfInBounds_toArray, List.set_cons_zero, List.set_cons_succ]
    refine Grow.g_con rfl (fun w hw hF => ?_) ?_
    · clear hF
      go_simp
      exact LinW.Ext.refl _
    simp only [Act.put, List.setIfInBounds_toArray, List.set_cons_zero, List.set_cons_succ]
    refine Grow.g_det rfl ?_
    apply Exists.intro
    refine ⟨fun w hw hF => ?_, ?_⟩
    · clear hF
      go_simp
      exact ⟨rfl, LinW.Ext.refl _⟩
    simp only [Act.put, List.setIfInBounds_toArray, List.set_cons_zero, List.set_cons_succ]
    refine Grow.g_det rfl ?_
    apply Exists.intro
    refine ⟨fun w hw hF => ?_, ?_⟩
    · clear hF
      go_simp
      exact ⟨rfl, LinW.Ext.refl _⟩
    simp only [Act.put, List.setIfInBounds_toArray, List.set_cons_zero, List.set_cons_succ]
    refine Grow.g_det rfl ?_
    apply Exists.intro
    refine ⟨fun w hw hF => ?_, ?_⟩
    · clear hF
      have q0 : w.cell? ⟨C, 0, none⟩ = some (.string (S l)) := (HXP.out.below (LinW.Ext.trans (Below.drew (Below.refl _ _)) hw)) 0 _ rfl
      go_simp
      exact ⟨rfl, LinW.Ext.refl _⟩
    simp only [Act.put, List.setIfInBounds_toArray, List.set_cons_zero, List.set_cons_succ]
    refine Grow.g_con rfl (fun w hw hF => ?_) ?_
    · clear hF
      have hc := HH1.out w
      go_simp
      refine hc.mono ?_
      rintro e w' ⟨rfl, hb⟩
      exact ⟨_, rfl, rfl, hb⟩
    simp only [Act.put, List.setIfInBounds_toArray, List.set_cons_zero, List.set_cons_succ]
    refine Grow.g_det rfl ?_
    apply Exists.intro
    refine ⟨fun w hw hF => ?_, ?_⟩
    · clear hF
      go_simp
      exact ⟨rfl, LinW.Ext.refl _⟩
    simp only [Act.put, List.setIfInBounds_toArray, List.set_cons_zero, List.set_cons_succ]
    refine Grow.g_det rfl ?_
    apply Exists.intro
    refine ⟨fun w hw hF => ?_, ?_⟩
    · clear hF
      have q1 : w.cell? ⟨C, 1, none⟩ = some (.string (S m)) := (HXP.out.below (LinW.Ext.trans (Below.drew (Below.refl _ _)) hw)) 1 _ rfl
      go_simp
      exact ⟨rfl, LinW.Ext.refl _⟩
    simp only [Act.put, List.setIfInBounds_toArray, List.set_cons_zero, List.set_cons_succ]
    refine Grow.g_con rfl (fun w hw hF => ?_) ?_
    · clear hF
      have hc := HH2.out w
      go_simp
      refine hc.mono ?_
      rintro e w' ⟨rfl, hb⟩
      exact ⟨_, rfl, rfl, hb⟩
    simp only [Act.put, List.setIfInBounds_toArray, List.set_cons_zero, List.set_cons_succ]
    refine Grow.g_con rfl (fun w hw hF => ?_) ?_
    · clear hF
      have hq := HQ1.out
      go_simp
      exact LinW.Ext.refl _
    simp only [Act.put, List.setIfInBounds_toArray, List.set_cons_zero, List.set_cons_succ]
    refine Grow.g_det rfl ?_
    apply Exists.intro
    refine ⟨fun w hw hF => ?_, ?_⟩
    · clear hF
      go_simp
      exact ⟨rfl, LinW.Ext.refl _⟩
    simp only [Act.put, List.setIfInBounds_toArray, List.set_cons_zero, List.set_cons_succ]
    refine Grow.g_det rfl ?_
    apply Exists.intro
    refine ⟨fun w hw hF => ?_, ?_⟩
    · clear hF
      have q0 : w.cell? ⟨C, 0, none⟩ = some (.string (S l)) := (HXP.out.below (LinW.Ext.trans (Below.drew (Below.refl _ _)) hw)) 0 _ rfl
      go_simp
      exact ⟨rfl, LinW.Ext.refl _⟩
    simp only [Act.put, List.setIfInBounds_toArray, List.set_cons_zero, List.set_cons_succ]
    refine Grow.g_det rfl ?_
    apply Exists.intro
    refine ⟨fun w hw hF => ?_, ?_⟩
    · clear hF
      go_simp
      exact ⟨rfl, LinW.Ext.refl _⟩
    simp only [Act.put, List.setIfInBounds_toArray, List.set_cons_zero, List.set_cons_succ]
    refine Grow.g_det rfl ?_
    apply Exists.intro
    refine ⟨fun w hw hF => ?_, ?_⟩
    · clear hF
      have q1 : w.cell? ⟨C, 1, none⟩ = some (.string (S m)) := (HXP.out.below (LinW.Ext.trans (Below.drew (Below.refl _ _)) hw)) 1 _ rfl
      go_simp
      exact ⟨rfl, LinW.Ext.refl _⟩
    simp only [Act.put, List.setIfInBounds_toArray, List.set_cons_zero, List.set_cons_succ]
    refine Grow.g_con rfl (fun w hw hF => ?_) ?_
    · clear hF
      have hq := HQ2.out
      go_simp
      exact LinW.Ext.refl _
    simp only [Act.put, List.setIfInBounds_toArray, List.set_cons_zero, List.set_cons_succ]
    refine Grow.g_con rfl (fun w hw hF => ?_) ?_
    · clear hF
      have hbb := hhb dm
      go_simp
      exact LinW.Ext.refl _
    simp only [Act.put, List.setIfInBounds_toArray, List.set_cons_zero, List.set_cons_succ]
    refine Grow.g_con rfl (fun w hw hF => ?_) ?_
    · clear hF
      go_simp
      exact LinW.Ext.refl _
    simp only [Act.put, List.setIfInBounds_toArray, List.set_cons_zero, List.set_cons_succ]
    refine Grow.g_det rfl ?_
    apply Exists.intro
    refine ⟨fun w hw hF => ?_, ?_⟩
    · clear hF
      go_simp
      exact ⟨rfl, LinW.Ext.refl _⟩
    simp only [Act.put, List.setIfInBounds_toArray, List.set_cons_zero, List.set_cons_succ]
    refine Grow.g_nil fun w5 hw5 hF => ?_
    clear hF
    have hb : Below w4.heap.size w4 w5 := LinW.Ext.trans (Below.drew (Below.refl _ _)) hw5
    replace HB0 := Lib.hid (HB0.out.trans (hb.mono HB0.out.size))
    clear hb
    go_wp2_with fail
    go_ret
    exact ⟨rfl, HB0.out⟩
  have hye : (yl == []) = false := by simp [hy]
  have hxy : (xl == yl) = sb := by rw [← HLS.out hx hy]; by_cases h : xl = yl <;> simp [h]
  clear HLS hx hy
  refine Grow.wp_region_g 31 [none, some (.inl (.bool false)), none, none, some (.inl (.bool false)), some (.inl (.bool false)), none, none, none, some (.inl (.bool sb)), none, none, some (.inl (.bool sb)), some (.inl (.bool true)), some (.inl (.bool true)), none, none, none, some (.inl (.string (S hl))), none, none, some (.inl (.string (S hm))), some (.inl (.bool dm)), none, none, none, none, some (.inl (.bool dm)), some (.inl (.bool true)), some (.inl (.bool true)), none] LinW.Ext (by kernel_rfl) (by kernel_rfl) (by kernel_rfl) LinW.Ext.refl (fun _ _ _ => LinW.Ext.trans) ?_ ?_
  · intro K hK Y hY v w w' hR h
    simp only [List.mem_cons, List.not_mem_nil, or_false] at hK
    rcases hK with rfl | rfl | rfl | rfl | rfl | rfl | rfl | rfl | rfl | rfl | rfl | rfl | rfl | rfl | rfl | rfl | rfl | rfl | rfl | rfl | rfl | rfl | rfl | rfl | rfl | rfl | rfl | rfl | rfl | rfl | rfl <;> simp only [reduceCtorEq, Option.some.injEq] at hY
  simp only [List.take_succ_cons, List.take_zero, List.drop_succ_cons, List.drop_zero]
  refine Grow.g_det rfl ?_
  apply Exists.intro
  refine ⟨fun w hw hF => ?_, ?_⟩
  · clear hF
    go_simp
    exact ⟨rfl, LinW.Ext.refl _⟩
  simp only [Act.put, List.setIfInBounds_toArray, List.set_cons_zero, List.set_cons_succ]
  refine Grow.g_con rfl (fun w hw hF => ?_) ?_
  · clear hF
    go_simp
    exact LinW.Ext.refl _
  simp only [Act.put, List.setIfInBounds_toArray, List.set_cons_zero, List.set_cons_succ]
  refine Grow.g_det rfl ?_
  apply Exists.intro
  refine ⟨fun w hw hF => ?_, ?_⟩
  · clear hF
    go_simp
    exact ⟨rfl, LinW.Ext.refl _⟩
  simp only [Act.put, List.setIfInBounds_toArray, List.set_cons_zero, List.set_cons_succ]
  refine Grow.g_det rfl ?_
  apply Exists.intro
  refine ⟨fun w hw hF => ?_, ?_⟩
  · clear hF
    go_simp
    exact ⟨rfl, LinW.Ext.refl _⟩
  simp only [Act.put, List.setIfInBounds_toArray, List.set_cons_zero, List.set_cons_succ]
  refine Grow.g_con rfl (fun w hw hF => ?_) ?_
  · clear hF
    go_simp
    exact LinW.Ext.refl _
  simp only [Act.put, List.setIfInBounds_toArray, List.set_cons_zero, List.set_cons_succ]
  refine Grow.g_con rfl (fun w hw hF => ?_) ?_
  · clear hF
    go_simp
    exact LinW.Ext.refl _
  simp only [Act.put, List.setIfInBounds_toArray, List.set_cons_zero, List.set_cons_succ]
  refine Grow.g_det rfl ?_
  apply Exists.intro
  refine ⟨fun w hw hF => ?_, ?_⟩
  · clear hF
    go_simp
    exact ⟨rfl, LinW.Ext.refl _⟩
  simp only [Act.put, List.setIfInBounds_toArray, List.set_cons_zero, List.set_cons_succ]
  refine Grow.g_det rfl ?_
  apply Exists.intro
  refine ⟨fun w hw hF => ?_, ?_⟩
  · clear hF
    go_simp
    exact ⟨rfl, LinW.Ext.refl _⟩
  simp only [Act.put, List.setIfInBounds_toArray, List.set_cons_zero, List.set_cons_succ]
  refine Grow.g_det rfl ?_
  apply Exists.intro
  refine ⟨fun w hw hF => ?_, ?_⟩
  · clear hF
    go_simp
    exact ⟨rfl, LinW.Ext.refl _⟩
  simp only [Act.put, List.setIfInBounds_toArray, List.set_cons_zero, List.set_cons_succ]
  refine Grow.g_con rfl (fun w hw hF => ?_) ?_
  · clear hF
    go_simp
    exact LinW.Ext.refl _
  simp only [Act.put, List.setIfInBounds_toArray, List.set_cons_zero, List.set_cons_succ]
  refine Grow.g_det rfl ?_
  apply Exists.intro
  refine ⟨fun w hw hF => ?_, ?_⟩
  · clear hF
    have c0 : w.cell? ⟨W.heap.size, 0, none⟩ = some (.int .i64 u.kind) := (HXU.out.below (LinW.Ext.trans (Below.drew (Below.refl _ _)) hw)) 0 _ rfl
    have c1 : w.cell? ⟨W.heap.size, 1, none⟩ = some (.int .i64 u.queue) := (HXU.out.below (LinW.Ext.trans (Below.drew (Below.refl _ _)) hw)) 1 _ rfl
    have c2 : w.cell? ⟨W.heap.size, 2, none⟩ = some (.int .i64 u.n) := (HXU.out.below (LinW.Ext.trans (Below.drew (Below.refl _ _)) hw)) 2 _ rfl
    have c3 : w.cell? ⟨W.heap.size, 3, none⟩ = some (.int .i64 u.aat) := (HXU.out.below (LinW.Ext.trans (Below.drew (Below.refl _ _)) hw)) 3 _ rfl
    have c4 : w.cell? ⟨W.heap.size, 4, none⟩ = some (.int .i64 u.lack) := (HXU.out.below (LinW.Ext.trans (Below.drew (Below.refl _ _)) hw)) 4 _ rfl
    have c5 : w.cell? ⟨W.heap.size, 5, none⟩ = some (.string (S u.topic)) := (HXU.out.below (LinW.Ext.trans (Below.drew (Below.refl _ _)) hw)) 5 _ rfl
    have c6 : w.cell? ⟨W.heap.size, 6, none⟩ = some (.string (S u.group)) := (HXU.out.below (LinW.Ext.trans (Below.drew (Below.refl _ _)) hw)) 6 _ rfl
    have c7 : w.cell? ⟨W.heap.size, 7, none⟩ = some (.string (S u.tag)) := (HXU.out.below (LinW.Ext.trans (Below.drew (Below.refl _ _)) hw)) 7 _ rfl
    have c8 : w.cell? ⟨W.heap.size, 8, none⟩ = some (.string (S u.key)) := (HXU.out.below (LinW.Ext.trans (Below.drew (Below.refl _ _)) hw)) 8 _ rfl
    have c9 : w.cell? ⟨W.heap.size, 9, none⟩ = some (.string (S u.body)) := (HXU.out.below (LinW.Ext.trans (Below.drew (Below.refl _ _)) hw)) 9 _ rfl
    have c10 : w.cell? ⟨W.heap.size, 10, none⟩ = some (.slice su.ka u.keys.length su.kc) := (HXU.out.below (LinW.Ext.trans (Below.drew (Below.refl _ _)) hw)) 10 _ rfl
    have c11 : w.cell? ⟨W.heap.size, 11, none⟩ = some (.slice su.ta u.tags.length su.tc) := (HXU.out.below (LinW.Ext.trans (Below.drew (Below.refl _ _)) hw)) 11 _ rfl
    have c12 : w.cell? ⟨W.heap.size, 12, none⟩ = some (.slice su.pa u.keep.length su.pc) := (HXU.out.below (LinW.Ext.trans (Below.drew (Below.refl _ _)) hw)) 12 _ rfl
    have c13 : w.cell? ⟨W.heap.size, 13, none⟩ = some (.bool u.sync) := (HXU.out.below (LinW.Ext.trans (Below.drew (Below.refl _ _)) hw)) 13 _ rfl
    go_simp
    exact ⟨rfl, LinW.Ext.refl _⟩
  simp only [Act.put, List.setIfInBounds_toArray, List.set_cons_zero, List.set_cons_succ]
  refine Grow.g_det rfl ?_
  apply Exists.intro
  refine ⟨fun w hw hF => ?_, ?_⟩
  · clear hF
    have c0 : w.cell? ⟨B, 0, none⟩ = some (.int .i64 v.kind) := (HXV.out.below (LinW.Ext.trans (Below.drew (Below.refl _ _)) hw)) 0 _ rfl
    have c1 : w.cell? ⟨B, 1, none⟩ = some (.int .i64 v.queue) := (HXV.out.below (LinW.Ext.trans (Below.drew (Below.refl _ _)) hw)) 1 _ rfl
    have c2 : w.cell? ⟨B, 2, none⟩ = some (.int .i64 v.n) := (HXV.out.below (LinW.Ext.trans (Below.drew (Below.refl _ _)) hw)) 2 _ rfl
    have c3 : w.cell? ⟨B, 3, none⟩ = some (.int .i64 v.aat) := (HXV.out.below (LinW.Ext.trans (Below.drew (Below.refl _ _)) hw)) 3 _ rfl
    have c4 : w.cell? ⟨B, 4, none⟩ = some (.int .i64 v.lack) := (HXV.out.below (LinW.Ext.trans (Below.drew (Below.refl _ _)) hw)) 4 _ rfl
    have c5 : w.cell? ⟨B, 5, none⟩ = some (.string (S v.topic)) := (HXV.out.below (LinW.Ext.trans (Below.drew (Below.refl _ _)) hw)) 5 _ rfl
    have c6 : w.cell? ⟨B, 6, none⟩ = some (.string (S v.group)) := (HXV.out.below (LinW.Ext.trans (Below.drew (Below.refl _ _)) hw)) 6 _ rfl
    have c7 : w.cell? ⟨B, 7, none⟩ = some (.string (S v.tag)) := (HXV.out.below (LinW.Ext.trans (Below.drew (Below.refl _ _)) hw)) 7 _ rfl
    have c8 : w.cell? ⟨B, 8, none⟩ = some (.string (S v.key)) := (HXV.out.below (LinW.Ext.trans (Below.drew (Below.refl _ _)) hw)) 8 _ rfl
    have c9 : w.cell? ⟨B, 9, none⟩ = some (.string (S v.body)) := (HXV.out.below (LinW.Ext.trans (Below.drew (Below.refl _ _)) hw)) 9 _ rfl
    have c10 : w.cell? ⟨B, 10, none⟩ = some (.slice sv.ka v.keys.length sv.kc) := (HXV.out.below (LinW.Ext.trans (Below.drew (Below.refl _ _)) hw)) 10 _ rfl
    have c11 : w.cell? ⟨B, 11, none⟩ = some (.slice sv.ta v.tags.length sv.tc) := (HXV.out.below (LinW.Ext.trans (Below.drew (Below.refl _ _)) hw)) 11 _ rfl
    have c12 : w.cell? ⟨B, 12, none⟩ = some (.slice sv.pa v.keep.length sv.pc) := (HXV.out.below (LinW.Ext.trans (Below.drew (Below.refl _ _)) hw)) 12 _ rfl
    have c13 : w.cell? ⟨B, 13, none⟩ = some (.bool v.sync) := (HXV.out.below (LinW.Ext.trans (Below.drew (Below.refl _ _)) hw)) 13 _ rfl
    go_simp
    exact ⟨rfl, LinW.Ext.refl _⟩
  simp only [Act.put, List.setIfInBounds_toArray, List.set_cons_zero, List.set_cons_succ]
  refine Grow.g_con rfl (fun w hw hF => ?_) ?_
  · clear hF
    have hc := HSC.out w (HIU.out.below (LinW.Ext.trans (Below.drew (Below.refl _ _)) hw)) (HIV.out.below (LinW.Ext.trans (Below.drew (Below.refl _ _)) hw))
    go_simp
    refine hc.mono ?_
    rintro e w' ⟨rfl, hb⟩
    exact ⟨_, rfl, rfl, hb⟩
  simp only [Act.put, List.setIfInBounds_toArray, List.set_cons_zero, List.set_cons_succ]
  refine Grow.g_con rfl (fun w hw hF => ?_) ?_
  · clear hF
    have hbb := hhb sb
    go_simp
    exact LinW.Ext.refl _
  simp only [Act.put, List.setIfInBounds_toArray, List.set_cons_zero, List.set_cons_succ]
  refine Grow.g_con rfl (fun w hw hF => ?_) ?_
  · clear hF
    go_simp
    exact LinW.Ext.refl _
  simp only [Act.put, List.setIfInBounds_toArray, List.set_cons_zero, List.set_cons_succ]
  refine Grow.g_det rfl ?_
  apply Exists.intro
  refine ⟨fun w hw hF => ?_, ?_⟩
  · clear hF
    go_simp
    exact ⟨rfl, LinW.Ext.refl _⟩
  simp only [Act.put, List.setIfInBounds_toArray, List.set_cons_zero, List.set_cons_succ]
  refine Grow.g_det rfl ?_
  apply Exists.intro
  refine ⟨fun w hw hF => ?_, ?_⟩
  · clear hF
    go_simp
    exact ⟨rfl, LinW.Ext.refl _⟩
  simp only [Act.put, List.setIfInBounds_toArray, List.set_cons_zero, List.set_cons_succ]
  refine Grow.g_det rfl ?_
  apply Exists.intro
  refine ⟨fun w hw hF => ?_, ?_⟩
  · clear hF
    have q0 : w.cell? ⟨C, 0, none⟩ = some (.string (S l)) := (HXP.out.below (LinW.Ext.trans (Below.drew (Below.refl _ _)) hw)) 0 _ rfl
    go_simp
    exact ⟨rfl, LinW.Ext.refl _⟩
  simp only [Act.put, List.setIfInBounds_toArray, List.set_cons_zero, List.set_cons_succ]
  refine Grow.g_con rfl (fun w hw hF => ?_) ?_
  · clear hF
    have hc := HH1.out w
    go_simp
    refine hc.mono ?_
    rintro e w' ⟨rfl, hb⟩
    exact ⟨_, rfl, rfl, hb⟩
  simp only [Act.put, List.setIfInBounds_toArray, List.set_cons_zero, List.set_cons_succ]
  refine Grow.g_det rfl ?_
  apply Exists.intro
  refine ⟨fun w hw hF => ?_, ?_⟩
  · clear hF
    go_simp
    exact ⟨rfl, LinW.Ext.refl _⟩
  simp only [Act.put, List.setIfInBounds_toArray, List.set_cons_zero, List.set_cons_succ]
  refine Grow.g_det rfl ?_
  apply Exists.intro
  refine ⟨fun w hw hF => ?_, ?_⟩
  · clear hF
    have q1 : w.cell? ⟨C, 1, none⟩ = some (.string (S m)) := (HXP.out.below (LinW.Ext.trans (Below.drew (Below.refl _ _)) hw)) 1 _ rfl
    go_simp
    exact ⟨rfl, LinW.Ext.refl _⟩
  simp only [Act.put, List.setIfInBounds_toArray, List.set_cons_zero, List.set_cons_succ]
  refine Grow.g_con rfl (fun w hw hF => ?_) ?_
  · clear hF
    have hc := HH2.out w
    go_simp
    refine hc.mono ?_
    rintro e w' ⟨rfl, hb⟩
    exact ⟨_, rfl, rfl, hb⟩
  simp only [Act.put, List.setIfInBounds_toArray, List.set_cons_zero, List.set_cons_succ]
  refine Grow.g_con rfl (fun w hw hF => ?_) ?_
  · clear hF
    have hq := HQ1.out
    go_simp
    exact LinW.Ext.refl _
  simp only [Act.put, List.setIfInBounds_toArray, List.set_cons_zero, List.set_cons_succ]
  refine Grow.g_det rfl ?_
  apply Exists.intro
  refine ⟨fun w hw hF => ?_, ?_⟩
  · clear hF
    go_simp
    exact ⟨rfl, LinW.Ext.refl _⟩
  simp only [Act.put, List.setIfInBounds_toArray, List.set_cons_zero, List.set_cons_succ]
  refine Grow.g_det rfl ?_
  apply Exists.intro
  refine ⟨fun w hw hF => ?_, ?_⟩
  · clear hF
    have q0 : w.cell? ⟨C, 0, none⟩ = some (.string (S l)) := (HXP.out.below (LinW.Ext.trans (Below.drew (Below.refl _ _)) hw)) 0 _ rfl
    go_simp
    exact ⟨rfl, LinW.Ext.refl _⟩
  simp only [Act.put, List.setIfInBounds_toArray, List.set_cons_zero, List.set_cons_succ]
  refine Grow.g_det rfl ?_
  apply Exists.intro
  refine ⟨fun w hw hF => ?_, ?_⟩
  · clear hF
    go_simp
    exact ⟨rfl, LinW.Ext.refl _⟩
  simp only [Act.put, List.setIfInBounds_toArray, List.set_cons_zero, List.set_cons_succ]
  refine Grow.g_det rfl ?_
  apply Exists.intro
  refine ⟨fun w hw hF => ?_, ?_⟩
  · clear hF
    have q1 : w.cell? ⟨C, 1, none⟩ = some (.string (S m)) := (HXP.out.below (LinW.Ext.trans (Below.drew (Below.refl _ _)) hw)) 1 _ rfl
    go_simp
    exact ⟨rfl, LinW.Ext.refl _⟩
  simp only [Act.put, List.setIfInBounds_toArray, List.set_cons_zero, List.set_cons_succ]
  refine Grow.g_con rfl (fun w hw hF => ?_) ?_
  · clear hF
    have hq := HQ2.out
    go_simp
    exact LinW.Ext.refl _
  simp only [Act.put, List.setIfInBounds_toArray, List.set_cons_zero, List.set_cons_succ]
  refine Grow.g_con rfl (fun w hw hF => ?_) ?_
  · clear hF
    have hbb := hhb dm
    go_simp
    exact LinW.Ext.refl _
  simp only [Act.put, List.setIfInBounds_toArray, List.set_cons_zero, List.set_cons_succ]
  refine Grow.g_con rfl (fun w hw hF => ?_) ?_
  · clear hF
    go_simp
    exact LinW.Ext.refl _
  simp only [Act.put, List.setIfInBounds_toArray, List.set_cons_zero, List.set_cons_succ]
  refine Grow.g_det rfl ?_
  apply Exists.intro
  refine ⟨fun w hw hF => ?_, ?_⟩
  · clear hF
    go_simp
    exact ⟨rfl, LinW.Ext.refl _⟩
  simp only [Act.put, List.setIfInBounds_toArray, List.set_cons_zero, List.set_cons_succ]
  refine Grow.g_nil fun w5 hw5 hF => ?_
  clear hF
  have hb : Below w4.heap.size w4 w5 := LinW.Ext.trans (Below.drew (Below.refl _ _)) hw5
  replace HB0 := Lib.hid (HB0.out.trans (hb.mono HB0.out.size))
  clear hb
  go_wp2_with fail
  go_ret
  exact ⟨rfl, HB0.out⟩

theorem open_pair {H : Type} {enc : TypeId × Value → H} {W : World} {base : Nat} {v : Value} {d : DataW H} {p : List MemPlace} (hval : Value.okWide Tryz.prog W .any base 39 v) (hd : DataW.Trod enc Tryz.prog W 0 (fun _ => true) true 39 v d p) :
    ∃ l m, v = .agg #[.string (S l), .string (S m)] := by
  have ht := Tryz.underlying39
  obtain ⟨cs, rfl, hcs⟩ : ∃ cs, v = .agg cs ∧ cs.size = 2 := by
    simp only [Value.okWide, ht] at hval
    obtain ⟨cs, h1, h2, _⟩ := hval
    exact ⟨cs, h1, h2.trans (by kernel_rfl)⟩
  obtain ⟨c0, c1, rfl⟩ : ∃ c0 c1, cs = #[c0, c1] := by
    obtain ⟨l⟩ := cs
    match l, hcs with
    | [c0, c1], _ => exact ⟨c0, c1, rfl⟩
  obtain ⟨fuel, hf⟩ := hd
  obtain ⟨xs, n, _, hx, hl, hlen, hel⟩ := DataW.trod_array ht hf
  have e0 := hel 0 (by omega)
  have e1 := hel 1 (by omega)
  have hce : Tryz.prog.cellsOf 9 = 1 := by kernel_rfl
  rw [hce] at e0 e1
  match xs, hlen with
  | [x0, x1], _ =>
    obtain ⟨s0, h0, _, _⟩ := DataW.trod_string Tryz.underlying9 (show DataW.trod enc Tryz.prog W 0 (fun _ => true) true n 9 [c0] = some x0 from e0)
    obtain ⟨s1, h1, _, _⟩ := DataW.trod_string Tryz.underlying9 (show DataW.trod enc Tryz.prog W 0 (fun _ => true) true n 9 [c1] = some x1 from e1)
    obtain rfl := List.singleton_inj.1 h0
    obtain rfl := List.singleton_inj.1 h1
    exact ⟨s0.data.toList, s1.data.toList, by rw [S_of, S_of]⟩

theorem lifted (os : Os) (started : os.Started) (H : Type) (enc : TypeId × Value → H) :
    ReturnsInHanded {} Tryz.checked os 5 .any (fun w args => (Rows.linesUnlikeSpec.pre enc Tryz.prog Tryz.f5 [] false w args ∧ laidMetH Tryz.prog laidL w) ∧ sizedMet enc Tryz.prog Tryz.f5 (OpenSpec.ofChange Rows.linesUnlikeSpec) false w args) (Rows.linesUnlikeSpec.post enc Tryz.prog Tryz.f5 false true false false) := by
  refine returns_laid started (by kernel_rfl) Tryz.func5
    (ChangeSpec.witness_shaped (enc := enc) (C := Tryz.checked) (os := os) (X := fun w _ => laidMetH Tryz.prog laidL w) false (World.laidAll Tryz.prog os laidL) #[.agg ((ev0 0).cells evs0), .agg ((ev0 0).cells evs0), .agg #[.string ⟨#[]⟩, .string ⟨#[]⟩]] 8 (World.laidAll_os _ _ _)
      (laid_shaped _ _) (by kernel_rfl) (by kernel_rfl) (by kernel_rfl) (laid_met os _)) ?_
  intro W base args ds gs before hval0 hW hsz0 henv
  have hval : ∀ (j : Nat) t v, Tryz.f5.params[j]? = some t → args[j]? = some v → Value.okWide Tryz.prog W .any base t v := hval0
  have hW' := hW
  obtain ⟨p, q, hA0, hV, rfl, hfz, hnd⟩ := hW
  have hA : DataW.TrodAll enc Tryz.prog W 0 (fun _ => true) true Tryz.f5.params.toList args.toList ds p := hA0
  rw [Tryz.params5] at hA hval
  obtain ⟨v0, vs0, d0, ds0, p0, q0, e1, rfl, rfl, h0, hr0⟩ := trodAll_cons hA
  obtain ⟨v1, vs1, d1, ds1, p1, q1, rfl, rfl, rfl, h1, hr1⟩ := trodAll_cons hr0
  obtain ⟨v2, vs2, d2, ds2, p2, q2, rfl, rfl, rfl, h2, hr2⟩ := trodAll_cons hr1
  obtain ⟨rfl, rfl, rfl⟩ := trodAll_nil hr2
  obtain rfl : args = #[v0, v1, v2] := Array.ext' e1
  obtain ⟨rfl, rfl⟩ := trodVars_none hV
  obtain ⟨u, su, rfl, hu, hui⟩ := open_event (hval 0 25 v0 rfl rfl) h0
  obtain ⟨v, sv, rfl, hv, hvi⟩ := open_event (hval 1 25 v1 rfl rfl) h1
  obtain ⟨l, m, rfl⟩ := open_pair (hval 2 39 v2 rfl rfl) h2
  clear hA0 hval0
  refine (law W u v su sv l m hu hv hui hvi henv).mono fun e W' ⟨he, hb⟩ => ?_
  subst he
  refine ⟨_, rfl, law_post hW' ?_ (tb := 4) (by kernel_rfl) Tryz.underlying4 rfl ⟨rfl, rfl, rfl⟩ hb⟩
  rw [Tryz.params5]
  intro t ht
  have : t = 25 ∨ t = 39 := by simpa using ht
  rcases this with rfl | rfl <;> exact ⟨by kernel_rfl, of_decide_eq_true (by kernel_rfl)⟩

theorem said : Rows.LinesUnlikeSaid :=
  OpenClaim.holds_of_wide 5 Tryz.f5 rfl rfl rfl rfl rfl rfl rfl ⟨rfl, rfl, rfl, rfl, rfl⟩ rfl rfl rfl rfl rfl (by kernel_rfl) Tryz.func5 (by kernel_rfl)
    (of_decide_eq_true (by kernel_rfl)) (by unfold Func.isWrapper; first | (rw [if_pos (by decide +kernel)]; kernel_rfl) | (rw [if_neg (by decide +kernel)]; exact ⟨rfl, rfl⟩))
    (fun os started H enc _ => lifted os started H enc)
theorem proved : Rows.LinesUnlikeCardSaid :=
  Claim7.holds_tied_plain_at .later [] [.data, .data, .data, .data, .sentinel, .sentinel, .pinned] true (true, "782409fd5045ed57317292997b71c8142b395dc0847e11fe0ede1823ea1308cd") true
    said (fun _ h => by cases h) (by kernel_rfl) (fun _ h => by cases h) linesUnlike_row_tie rfl ⟨rfl, rfl⟩ (by kernel_rfl) rfl
    (fun f fn hf hfn => by
      obtain rfl : f = 5 := Option.some.inj ((show Tryz.prog.funcNamed "reveille/reveillelaw30.LinesUnlike" = some 5 by kernel_rfl).symm.trans hf) |>.symm
      obtain rfl : fn = Tryz.f5 := (Option.some.inj (Tryz.func5.symm.trans hfn)).symm
      exact ⟨by kernel_rfl, fun j t ht => by
        rw [Tryz.params5] at ht
        have hm : t ∈ [25, 25, 39] := by simpa using Array.mem_of_getElem? ht
        have hall : ([25, 25, 39].all fun u => !Tryz.prog.wantsStandIn u) = true := by kernel_rfl
        exact (show Tryz.prog.wantsStandIn t = false by simpa using List.all_eq_true.1 hall t hm)⟩)
    (by kernel_rfl)
end Go.Proofs.YtadhkeboaapfcaaGreatDoor.linesUnlike
