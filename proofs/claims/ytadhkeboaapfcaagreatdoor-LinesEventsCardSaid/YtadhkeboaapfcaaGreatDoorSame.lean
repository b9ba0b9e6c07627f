/- reveillelaw30.same: two events are one; reveilleref01.Same. -/
import Derived.Test.YtadhkeboaapfcaaGreatDoorEvM
import Derived.Deep.DeepCutAuto
namespace Go.Proofs.YtadhkeboaapfcaaGreatDoor.EvW
open Go.RowKit OctMath NameMath
set_option linter.unusedVariables false
set_option linter.unusedSimpArgs false
set_option maxRecDepth 100000

theorem bytes_beqS (x y : ByteArray) : (x.toList == y.toList) = decide (x = y) := by
  have h1 : ∀ z : ByteArray, z.toList = z.data.toList := fun z => by
    have := NameW.S_toList z.data.toList
    rwa [S_of] at this
  rw [h1, h1, Bool.eq_iff_iff]
  simp only [beq_iff_eq, decide_eq_true_eq]
  exact ⟨fun h => by rw [← S_of x, ← S_of y, h], fun h => by rw [h]⟩
set_option maxHeartbeats 800000 in
theorem same_any (a b : Option Addr) (c1 c2 : Nat) (xs ys : List ByteArray) (hx : xs.length ≤ 1048576) (hy : ys.length ≤ 1048576) (W : World) (h : Strs W a xs) (h2 : Strs W b ys) :
    Calls Tryz.prog 35 #[.slice a xs.length c1, .slice b ys.length c2] W fun e w' => e = .returned (.bool (decide (xs = ys))) ∧ Drawn W w' := by
  have HX := Lib.hid h; clear h
  have HY := Lib.hid h2; clear h2
  go_enter Tryz.func35, Tryz.ntmps35
  by_cases hl : xs.length = ys.length
  · go_wp2_with fail
    go_loopw [5] (fun i wr => ∃ k : Nat, k ≤ xs.length ∧ i = .int .i64 k ∧ Hid (Drawn W wr) ∧ Hid (xs.take k = ys.take k)) (fun i _ => xs.length - (intOf i).toNat)
    case atStart => exact ⟨0, by omega, rfl, Drawn.refl _, rfl⟩
    case round =>
      obtain ⟨k, hk, rfl, HD, HS⟩ := hrel
      by_cases hlt : k < xs.length
      · have hlt2 : k < ys.length := by omega
        obtain ⟨b1, o1, rfl, hc1⟩ := HX.out k hlt
        obtain ⟨b2, o2, rfl, hc2⟩ := HY.out k hlt2
        rw [← HD.out.cell] at hc1 hc2
        have hs : Hid (xs[k] = ys[k] → xs.take (k + 1) = ys.take (k + 1)) := fun h => by
          rw [List.take_succ_eq_append_getElem hlt, List.take_succ_eq_append_getElem hlt2, HS.out, h]
        have hs2 : Hid (¬ xs[k] = ys[k] → xs ≠ ys) := fun h e => h (by subst e; rfl)
        generalize xs[k] = x at *
        generalize ys[k] = y at *
        go_wp2_with fail
        go_region
        rw [bytes_beqS]
        have HD2 : Hid (Drawn W wr.drew) := HD.out.drew
        clear hc1 hc2 HD
        by_cases hxy : x = y
        · rw [decide_eq_true hxy]
          have HT := Lib.hid (hs.out hxy)
          clear hs hs2 HS hxy
          go_wp2_with fail
          go_roundw
          case rel => exact ⟨k + 1, by omega, by go_num, HD2, HT⟩
          case measure => simp [intOf]; omega
        · rw [decide_eq_false hxy]
          have HT := Lib.hid (hs2.out hxy)
          clear hs hs2 HS hxy
          go_wp2_with fail
          go_ret
          exact ⟨ret_bool (decide_eq_false HT.out).symm, HD2.out⟩
      · have ek : k = xs.length := by omega
        subst ek
        have heq : Hid (xs = ys) := by
          have := HS.out
          rw [List.take_length, hl, List.take_length] at this; exact this
        go_wp2_with fail
        go_ret
        exact ⟨ret_bool (decide_eq_true heq.out).symm, HD.out⟩
  · have hne : Hid (xs ≠ ys) := fun e => hl (by rw [e])
    have hb : ((xs.length : Int) != (ys.length : Int)) = true := bne_iff_ne.2 (by omega)
    go_wp2_with fail
    go_ret
    exact ⟨ret_bool (decide_eq_false hne.out).symm, Drawn.refl _⟩

/-- are two events one? -/
def sameE (u v : Ev) : Bool := decide (u.keep = v.keep) && (decide (u.kind = v.kind) && decide (u.queue = v.queue) && decide (u.n = v.n) && decide (u.aat = v.aat) && decide (u.lack = v.lack) && decide (u.topic = v.topic) && decide (u.group = v.group) && decide (u.tag = v.tag) && decide (u.key = v.key) && decide (u.body = v.body) && decide (u.keys = v.keys) && decide (u.tags = v.tags) && (u.sync == v.sync))
theorem same_true (u v : Ev) : sameE u v = true ↔ u = v := by
  unfold sameE
  simp only [Bool.and_eq_true, decide_eq_true_eq, beq_iff_eq]
  constructor
  · rintro ⟨h0, ⟨⟨⟨⟨⟨⟨⟨⟨⟨⟨⟨⟨h1, h2⟩, h3⟩, h4⟩, h5⟩, h6⟩, h7⟩, h8⟩, h9⟩, h10⟩, h11⟩, h12⟩, h13⟩⟩
    cases u; cases v; simp only at *; subst h0 h1 h2 h3 h4 h5 h6 h7 h8 h9 h10 h11 h12 h13; rfl
  · rintro rfl; simp
theorem map_S_inj {a b : List (List UInt8)} : a.map S = b.map S ↔ a = b := by
  constructor
  · intro h
    have := congrArg (List.map fun x : ByteArray => x.data.toList) h
    rw [List.map_map, List.map_map] at this
    have e : ((fun x : ByteArray => x.data.toList) ∘ S) = id := by funext x; exact S_list x
    rwa [e, List.map_id, List.map_id] at this
  · rintro rfl; rfl
set_option maxHeartbeats 6400000 in
theorem ev_same (u v : Ev) (su sv : EvS) (hu : EvOk u) (hv : EvOk v) (W : World) (hiu : EvIn W u su) (hiv : EvIn W v sv) :
    Calls Tryz.prog 12 #[.agg (u.cells su), .agg (v.cells sv)] W fun e w' => e = .returned (.bool (sameE u v)) ∧ Below W.heap.size W w' := by
  have HSD : Hid (sameE u v = (decide (u.keep = v.keep) && (decide (u.kind = v.kind) && decide (u.queue = v.queue) && decide (u.n = v.n) && decide (u.aat = v.aat) && decide (u.lack = v.lack) && decide (u.topic = v.topic) && decide (u.group = v.group) && decide (u.tag = v.tag) && decide (u.key = v.key) && decide (u.body = v.body) && decide (u.keys = v.keys) && decide (u.tags = v.tags) && (u.sync == v.sync)))) := rfl
  have HU := Lib.hid hu
  have HV := Lib.hid hv
  have HB0 : Hid (Below W.heap.size W ((W.alloc (.cells (u.cells su) 25)).alloc (.cells (v.cells sv) 25))) := ((Below.refl _ W).alloc (Nat.le_refl _) _).alloc (by simp) _
  have HIU := Lib.hid (hiu.below HB0.out)
  have HIV := Lib.hid (hiv.below HB0.out)
  have HXU : Hid (Boxed ((W.alloc (.cells (u.cells su) 25)).alloc (.cells (v.cells sv) 25)) W.heap.size (u.cells su)) := (Boxed.new W _ _).below ((Below.refl _ _).alloc (Nat.le_refl _) _)
  have HXV : Hid (Boxed ((W.alloc (.cells (u.cells su) 25)).alloc (.cells (v.cells sv) 25)) (W.heap.size + 1) (v.cells sv)) := by
    have := Boxed.new (W.alloc (.cells (u.cells su) 25)) (v.cells sv) 25
    rw [World.size_alloc] at this; exact this
  have hkl1 := hu.keep
  have hkl2 := hv.keep
  clear hu hv hiu hiv
  have hcu : (u.cells su).size = 14 := rfl
  have hcv : (v.cells sv).size = 14 := rfl
  go_enter Tryz.func12, Tryz.ntmps12
  go_upto_region 1 with fail
  generalize ((W.alloc (.cells (u.cells su) 25)).alloc (.cells (v.cells sv) 25)) = w1 at *
  clear hcu hcv
  generalize W.heap.size + 1 = B at *
  obtain ⟨A, hA⟩ : ∃ A, W.heap.size = A := ⟨_, rfl⟩
  rw [hA] at HXU ⊢ HB0
  have k12 : w1.cell? ⟨A, 12, none⟩ = some (.slice su.pa u.keep.length su.pc) := HXU.out 12 _ rfl
  have l12 : w1.cell? ⟨B, 12, none⟩ = some (.slice sv.pa v.keep.length sv.pc) := HXV.out 12 _ rfl
  by_cases hkl : u.keep.length = v.keep.length
  · go_wp2_with fail
    go_loopw [16] (fun i wr => ∃ k : Nat, k ≤ u.keep.length ∧ i = .int .i64 (k : Int) ∧ Hid (Drawn w1 wr) ∧ Hid (u.keep.take k = v.keep.take k)) (fun i _ => u.keep.length + 1 - (intOf i).toNat)
    case atStart => exact ⟨0, by omega, rfl, Drawn.refl _, rfl⟩
    case round =>
      obtain ⟨k, hk, rfl, HD, HS⟩ := hrel
      by_cases hlt : k < u.keep.length
      · have hlt2 : k < v.keep.length := by omega
        obtain ⟨b1, o1, hb1, hc1⟩ := HIU.out.keep k (by rw [List.length_map]; exact hlt)
        obtain ⟨b2, o2, hb2, hc2⟩ := HIV.out.keep k (by rw [List.length_map]; exact hlt2)
        rw [← HD.out.cell, List.getElem_map] at hc1 hc2
        have k12' : wr.cell? ⟨A, 12, none⟩ = some (.slice su.pa u.keep.length su.pc) := (HD.out.cell _).trans k12
        have l12' : wr.cell? ⟨B, 12, none⟩ = some (.slice sv.pa v.keep.length sv.pc) := (HD.out.cell _).trans l12
        have hs : Hid (u.keep[k] = v.keep[k] → u.keep.take (k + 1) = v.keep.take (k + 1)) := fun h => by
          rw [List.take_succ_eq_append_getElem hlt, List.take_succ_eq_append_getElem hlt2, HS.out, h]
        have hs2 : Hid (¬ u.keep[k] = v.keep[k] → u.keep ≠ v.keep) := fun h e => h (by simp only [e])
        generalize u.keep[k] = x at *
        generalize v.keep[k] = y at *
        rw [hb1] at k12'
        rw [hb2] at l12'
        go_wp2_with fail
        go_region
        have HD2 : Hid (Drawn w1 wr.drew) := HD.out.drew
        clear hc1 hc2 HD k12' l12'
        by_cases hxy : x = y
        · have HT := Lib.hid (hs.out hxy)
          clear hs hs2 HS
          subst hxy
          cases x
          all_goals
            go_wp2_with fail
            go_roundw
            case rel => exact ⟨k + 1, by omega, by go_num, HD2, HT⟩
            case measure => simp [intOf]; omega
        · have HT : Hid (sameE u v = false) := by show _ = _; rw [HSD.out, decide_eq_false (hs2.out hxy), Bool.false_and]
          clear hs hs2 HS
          cases x
          all_goals cases y
          all_goals first
          | exact absurd rfl hxy
          | (go_wp2_with fail
             go_ret
             rw [HT.out, hA]
             exact ⟨rfl, HB0.out.trans (HD2.out.below _)⟩)
      · have ek : k = u.keep.length := by omega
        have heq : u.keep = v.keep := by
          have := HS.out
          rw [ek, List.take_length, hkl, List.take_length] at this; exact this
        have HB1 := Lib.hid (HB0.out.trans (HD.out.below _))
        have HXU1 := Lib.hid (HXU.out.below (HD.out.below _))
        have HXV1 := Lib.hid (HXV.out.below (HD.out.below _))
        have HIU1 := Lib.hid (HIU.out.below (HD.out.below _))
        have HIV1 := Lib.hid (HIV.out.below (HD.out.below _))
        have HSE : Hid (sameE u v = (decide (u.kind = v.kind) && decide (u.queue = v.queue) && decide (u.n = v.n) && decide (u.aat = v.aat) && decide (u.lack = v.lack) && decide (u.topic = v.topic) && decide (u.group = v.group) && decide (u.tag = v.tag) && decide (u.key = v.key) && decide (u.body = v.body) && decide (u.keys = v.keys) && decide (u.tags = v.tags) && (u.sync == v.sync))) := by
          show _ = _; rw [HSD.out, decide_eq_true heq, Bool.true_and]
        clear HD HS HSD HXU HXV HIU HIV HB0 k12 l12 heq
        have c0 : wr.cell? ⟨A, 0, none⟩ = some (.int .i64 u.kind) := HXU1.out 0 _ rfl
        have c1 : wr.cell? ⟨A, 1, none⟩ = some (.int .i64 u.queue) := HXU1.out 1 _ rfl
        have c2 : wr.cell? ⟨A, 2, none⟩ = some (.int .i64 u.n) := HXU1.out 2 _ rfl
        have c3 : wr.cell? ⟨A, 3, none⟩ = some (.int .i64 u.aat) := HXU1.out 3 _ rfl
        have c4 : wr.cell? ⟨A, 4, none⟩ = some (.int .i64 u.lack) := HXU1.out 4 _ rfl
        have c5 : wr.cell? ⟨A, 5, none⟩ = some (.string (S u.topic)) := HXU1.out 5 _ rfl
        have c6 : wr.cell? ⟨A, 6, none⟩ = some (.string (S u.group)) := HXU1.out 6 _ rfl
        have c7 : wr.cell? ⟨A, 7, none⟩ = some (.string (S u.tag)) := HXU1.out 7 _ rfl
        have c8 : wr.cell? ⟨A, 8, none⟩ = some (.string (S u.key)) := HXU1.out 8 _ rfl
        have c9 : wr.cell? ⟨A, 9, none⟩ = some (.string (S u.body)) := HXU1.out 9 _ rfl
        have c10 : wr.cell? ⟨A, 10, none⟩ = some (.slice su.ka u.keys.length su.kc) := HXU1.out 10 _ rfl
        have c11 : wr.cell? ⟨A, 11, none⟩ = some (.slice su.ta u.tags.length su.tc) := HXU1.out 11 _ rfl
        have c13 : wr.cell? ⟨A, 13, none⟩ = some (.bool u.sync) := HXU1.out 13 _ rfl
        have d0 : wr.cell? ⟨B, 0, none⟩ = some (.int .i64 v.kind) := HXV1.out 0 _ rfl
        have d1 : wr.cell? ⟨B, 1, none⟩ = some (.int .i64 v.queue) := HXV1.out 1 _ rfl
        have d2 : wr.cell? ⟨B, 2, none⟩ = some (.int .i64 v.n) := HXV1.out 2 _ rfl
        have d3 : wr.cell? ⟨B, 3, none⟩ = some (.int .i64 v.aat) := HXV1.out 3 _ rfl
        have d4 : wr.cell? ⟨B, 4, none⟩ = some (.int .i64 v.lack) := HXV1.out 4 _ rfl
        have d5 : wr.cell? ⟨B, 5, none⟩ = some (.string (S v.topic)) := HXV1.out 5 _ rfl
        have d6 : wr.cell? ⟨B, 6, none⟩ = some (.string (S v.group)) := HXV1.out 6 _ rfl
        have d7 : wr.cell? ⟨B, 7, none⟩ = some (.string (S v.tag)) := HXV1.out 7 _ rfl
        have d8 : wr.cell? ⟨B, 8, none⟩ = some (.string (S v.key)) := HXV1.out 8 _ rfl
        have d9 : wr.cell? ⟨B, 9, none⟩ = some (.string (S v.body)) := HXV1.out 9 _ rfl
        have d10 : wr.cell? ⟨B, 10, none⟩ = some (.slice sv.ka v.keys.length sv.kc) := HXV1.out 10 _ rfl
        have d11 : wr.cell? ⟨B, 11, none⟩ = some (.slice sv.ta v.tags.length sv.tc) := HXV1.out 11 _ rfl
        have d13 : wr.cell? ⟨B, 13, none⟩ = some (.bool v.sync) := HXV1.out 13 _ rfl
        have htl := fun t => NameW.S_toList t
        have HKE := Lib.hid (fun w h1 h2 => same_any su.ka sv.ka su.kc sv.kc (u.keys.map S) (v.keys.map S) (by rw [List.length_map]; exact HU.out.keys) (by rw [List.length_map]; exact HV.out.keys) w h1 h2)
        have HTG := Lib.hid (fun w h1 h2 => same_any su.ta sv.ta su.tc sv.tc (u.tags.map S) (v.tags.map S) (by rw [List.length_map]; exact HU.out.tags) (by rw [List.length_map]; exact HV.out.tags) w h1 h2)
        rw [List.length_map, List.length_map] at HKE HTG
        go_wp2_with fail
        · have e0 : u.kind = v.kind := by assumption
          have e1 : u.queue = v.queue := by assumption
          have e2 : u.n = v.n := by assumption
          have e3 : u.aat = v.aat := by assumption
          have e4 : u.lack = v.lack := by assumption
          have e5 : u.topic = v.topic := by assumption
          have e6 : u.group = v.group := by assumption
          have e7 : u.tag = v.tag := by assumption
          have e8 : u.key = v.key := by assumption
          have e9 : u.body = v.body := by assumption
          have HS2 : Hid (sameE u v = (decide (u.keys = v.keys) && decide (u.tags = v.tags) && (u.sync == v.sync))) := by
            show _ = _; rw [HSE.out, decide_eq_true e0, decide_eq_true e1, decide_eq_true e2, decide_eq_true e3, decide_eq_true e4, decide_eq_true e5, decide_eq_true e6, decide_eq_true e7, decide_eq_true e8, decide_eq_true e9]; simp
          clear HSE e0 e1 e2 e3 e4 e5 e6 e7 e8 e9 c0 c1 c2 c3 c4 c5 c6 c7 c8 c9 c10 d0 d1 d2 d3 d4 d5 d6 d7 d8 d9 d10 c11 d11 c13 d13
          refine (HKE.out wr HIU1.out.keys HIV1.out.keys).mono ?_
          rintro e w2 ⟨rfl, hd⟩
          have hbb := hd.below wr.heap.size
          have c11 : w2.cell? ⟨A, 11, none⟩ = some (.slice su.ta u.tags.length su.tc) := (HXU1.out.below hbb) 11 _ rfl
          have d11 : w2.cell? ⟨B, 11, none⟩ = some (.slice sv.ta v.tags.length sv.tc) := (HXV1.out.below hbb) 11 _ rfl
          have HB2 := Lib.hid (HB1.out.trans (hd.below _))
          have HXU2 := Lib.hid (HXU1.out.below hbb)
          have HXV2 := Lib.hid (HXV1.out.below hbb)
          have HIU2 := Lib.hid (HIU1.out.below hbb)
          have HIV2 := Lib.hid (HIV1.out.below hbb)
          clear hd hbb HB1 HXU1 HXV1 HIU1 HIV1 HKE
          by_cases hke : u.keys = v.keys
          · have hd1 : decide (u.keys.map S = v.keys.map S) = true := decide_eq_true (by rw [hke])
            rw [hd1]
            have HS3 : Hid (sameE u v = (decide (u.tags = v.tags) && (u.sync == v.sync))) := by show _ = _; rw [HS2.out, decide_eq_true hke, Bool.true_and]
            clear HS2 hd1
            go_wp2_with fail
            refine (HTG.out w2 HIU2.out.tags HIV2.out.tags).mono ?_
            rintro e w3 ⟨rfl, hd⟩
            have hbb := hd.below w2.heap.size
            have c13 : w3.cell? ⟨A, 13, none⟩ = some (.bool u.sync) := (HXU2.out.below hbb) 13 _ rfl
            have d13 : w3.cell? ⟨B, 13, none⟩ = some (.bool v.sync) := (HXV2.out.below hbb) 13 _ rfl
            have HB3 := Lib.hid (HB2.out.trans (hd.below _))
            clear hd hbb HB2 HXU2 HXV2 HIU2 HIV2 HTG c11 d11
            by_cases hte : u.tags = v.tags
            · have hd1 : decide (u.tags.map S = v.tags.map S) = true := decide_eq_true (by rw [hte])
              rw [hd1]
              have HS4 : Hid (sameE u v = (u.sync == v.sync)) := by show _ = _; rw [HS3.out, decide_eq_true hte, Bool.true_and]
              clear HS3 hd1
              go_wp2_with fail
              go_ret
              rw [HS4.out, hA]
              exact ⟨rfl, HB3.out⟩
            · have hd1 : decide (u.tags.map S = v.tags.map S) = false := decide_eq_false (fun h => hte (map_S_inj.1 h))
              rw [hd1]
              have HS4 : Hid (sameE u v = false) := by show _ = _; rw [HS3.out, decide_eq_false hte, Bool.false_and]
              clear HS3 hd1
              go_wp2_with fail
              go_ret
              rw [HS4.out, hA]
              exact ⟨rfl, HB3.out⟩
          · have hd1 : decide (u.keys.map S = v.keys.map S) = false := decide_eq_false (fun h => hke (map_S_inj.1 h))
            rw [hd1]
            have HS3 : Hid (sameE u v = false) := by show _ = _; rw [HS2.out, decide_eq_false hke]; rfl
            clear HS2 hd1
            go_wp2_with fail
            go_ret
            rw [HS3.out, hA]
            exact ⟨rfl, HB2.out⟩
        all_goals
          clear c0 c1 c2 c3 c4 c5 c6 c7 c8 c9 c10 d0 d1 d2 d3 d4 d5 d6 d7 d8 d9 d10 c11 d11 c13 d13
          go_ret
          refine ⟨?_, by rw [hA]; exact HB1.out⟩
          rw [HSE.out]
          simp [*]
  · have HT : Hid (sameE u v = false) := by show _ = _; rw [HSD.out, decide_eq_false (fun e => hkl (by rw [e])), Bool.false_and]
    clear HSD
    go_wp2_with fail
    go_ret
    rw [HT.out]
    rw [hA]
    exact ⟨rfl, HB0.out⟩
end Go.Proofs.YtadhkeboaapfcaaGreatDoor.EvW
