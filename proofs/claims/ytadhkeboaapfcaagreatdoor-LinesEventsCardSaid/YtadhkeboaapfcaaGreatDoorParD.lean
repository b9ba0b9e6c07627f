/- lines.set. -/
import Derived.Test.YtadhkeboaapfcaaGreatDoorParC
namespace Go.Proofs.YtadhkeboaapfcaaGreatDoor.EvW
open Go.RowKit OctMath NameMath HexMath
set_option linter.unusedVariables false
set_option linter.unusedSimpArgs false
set_option maxRecDepth 100000

set_option maxHeartbeats 6400000 in
theorem set_any (B : Nat) (v : Ev) (s : EvS) (c : UInt8) (hc : c.toNat < 128) (l : List UInt8) (hl : l.length ≤ 1048576) (W : World) (henv : Env W) (h : EvAt B W v s) :
    Calls Tryz.prog 60 #[.pointer (some ⟨B, 0, none⟩), .int .i32 (c.toNat : Int), .string (S l)] W fun e w' => e = .returned (.tuple #[]) ∧ ∃ s', EvAt B w' (set1 v c l) s' ∧ (s'.tc = s.tc ∧ (set1 v c l).tags = v.tags) ∧ Mod (fun k => k = B) W w' := by
  have HA := Lib.hid (atoi_any l (by omega) W henv)
  have HE := Lib.hid henv
  have HV := Lib.hid h
  clear henv h
  generalize hav : atoiV l = av at *
  have HAV := Lib.hid hav
  clear hav
  by_cases hc84 : c = 84
  · subst hc84
    have HS1 : Hid (set1 v 84 l = { v with topic := l }) := rfl
    go_enter Tryz.func60, Tryz.ntmps60
    go_wp2_with fail
    refine HA.out.mono ?_
    rintro e w1 ⟨x, rfl, hb⟩
    have HV1 := Lib.hid (HV.out.below hb)
    have HM1 := Lib.hid (Mod.of_below (M := fun k => k = B) hb)
    have HE1 := Lib.hid (HE.out.below hb)
    clear hb HA HV HE
    have hcel : w1.cell? ⟨B, 5, none⟩ = some (.string (S v.topic)) := HV1.out.boxed 5 _ rfl
    have hfro : w1.frozen? ⟨B, 5, none⟩ = false := by unfold World.frozen?; rw [show w1.heap[(⟨B, 5, none⟩ : Addr).block]? = _ from HV1.out.cells]; rfl
    have HV9 := Lib.hid (HV1.out.put 5 (.string (S l)) { v with topic := l } rfl rfl rfl rfl)
    have HM9 := Lib.hid (HM1.out.setCell (a := ⟨B, 5, none⟩) (.inl rfl) (.string (S l)))
    go_wp2_with fail
    go_end0
    rw [HS1.out]
    exact ⟨rfl, _, HV9.out, ⟨rfl, rfl⟩, HM9.out⟩
  have b84 : ((c.toNat : Int) == 84) = false := beq_eq_false_iff_ne.2 (fun h => hc84 (by apply UInt8.toNat_inj.1; show c.toNat = 84; omega))
  by_cases hc71 : c = 71
  · subst hc71
    have HS1 : Hid (set1 v 71 l = { v with group := l }) := rfl
    go_enter Tryz.func60, Tryz.ntmps60
    go_wp2_with fail
    refine HA.out.mono ?_
    rintro e w1 ⟨x, rfl, hb⟩
    have HV1 := Lib.hid (HV.out.below hb)
    have HM1 := Lib.hid (Mod.of_below (M := fun k => k = B) hb)
    have HE1 := Lib.hid (HE.out.below hb)
    clear hb HA HV HE
    have hcel : w1.cell? ⟨B, 6, none⟩ = some (.string (S v.group)) := HV1.out.boxed 6 _ rfl
    have hfro : w1.frozen? ⟨B, 6, none⟩ = false := by unfold World.frozen?; rw [show w1.heap[(⟨B, 6, none⟩ : Addr).block]? = _ from HV1.out.cells]; rfl
    have HV9 := Lib.hid (HV1.out.put 6 (.string (S l)) { v with group := l } rfl rfl rfl rfl)
    have HM9 := Lib.hid (HM1.out.setCell (a := ⟨B, 6, none⟩) (.inl rfl) (.string (S l)))
    go_wp2_with fail
    go_end0
    rw [HS1.out]
    exact ⟨rfl, _, HV9.out, ⟨rfl, rfl⟩, HM9.out⟩
  have b71 : ((c.toNat : Int) == 71) = false := beq_eq_false_iff_ne.2 (fun h => hc71 (by apply UInt8.toNat_inj.1; show c.toNat = 71; omega))
  by_cases hc81 : c = 81
  · subst hc81
    have HS1 : Hid (set1 v 81 l = { v with queue := atoiV l }) := rfl
    go_enter Tryz.func60, Tryz.ntmps60
    go_wp2_with fail
    refine HA.out.mono ?_
    rintro e w1 ⟨x, rfl, hb⟩
    have HV1 := Lib.hid (HV.out.below hb)
    have HM1 := Lib.hid (Mod.of_below (M := fun k => k = B) hb)
    have HE1 := Lib.hid (HE.out.below hb)
    clear hb HA HV HE
    have hcel : w1.cell? ⟨B, 1, none⟩ = some (.int .i64 v.queue) := HV1.out.boxed 1 _ rfl
    have hfro : w1.frozen? ⟨B, 1, none⟩ = false := by unfold World.frozen?; rw [show w1.heap[(⟨B, 1, none⟩ : Addr).block]? = _ from HV1.out.cells]; rfl
    have HV9 := Lib.hid (HV1.out.put 1 (.int .i64 av) { v with queue := av } rfl rfl rfl rfl)
    have HM9 := Lib.hid (HM1.out.setCell (a := ⟨B, 1, none⟩) (.inl rfl) (.int .i64 av))
    go_wp2_with fail
    go_end0
    rw [HS1.out, HAV.out]
    exact ⟨rfl, _, HV9.out, ⟨rfl, rfl⟩, HM9.out⟩
  have b81 : ((c.toNat : Int) == 81) = false := beq_eq_false_iff_ne.2 (fun h => hc81 (by apply UInt8.toNat_inj.1; show c.toNat = 81; omega))
  by_cases hc78 : c = 78
  · subst hc78
    have HS1 : Hid (set1 v 78 l = { v with n := atoiV l }) := rfl
    go_enter Tryz.func60, Tryz.ntmps60
    go_wp2_with fail
    refine HA.out.mono ?_
    rintro e w1 ⟨x, rfl, hb⟩
    have HV1 := Lib.hid (HV.out.below hb)
    have HM1 := Lib.hid (Mod.of_below (M := fun k => k = B) hb)
    have HE1 := Lib.hid (HE.out.below hb)
    clear hb HA HV HE
    have hcel : w1.cell? ⟨B, 2, none⟩ = some (.int .i64 v.n) := HV1.out.boxed 2 _ rfl
    have hfro : w1.frozen? ⟨B, 2, none⟩ = false := by unfold World.frozen?; rw [show w1.heap[(⟨B, 2, none⟩ : Addr).block]? = _ from HV1.out.cells]; rfl
    have HV9 := Lib.hid (HV1.out.put 2 (.int .i64 av) { v with n := av } rfl rfl rfl rfl)
    have HM9 := Lib.hid (HM1.out.setCell (a := ⟨B, 2, none⟩) (.inl rfl) (.int .i64 av))
    go_wp2_with fail
    go_end0
    rw [HS1.out, HAV.out]
    exact ⟨rfl, _, HV9.out, ⟨rfl, rfl⟩, HM9.out⟩
  have b78 : ((c.toNat : Int) == 78) = false := beq_eq_false_iff_ne.2 (fun h => hc78 (by apply UInt8.toNat_inj.1; show c.toNat = 78; omega))
  by_cases hc65 : c = 65
  · subst hc65
    have HS1 : Hid (set1 v 65 l = { v with aat := atoiV l }) := rfl
    go_enter Tryz.func60, Tryz.ntmps60
    go_wp2_with fail
    refine HA.out.mono ?_
    rintro e w1 ⟨x, rfl, hb⟩
    have HV1 := Lib.hid (HV.out.below hb)
    have HM1 := Lib.hid (Mod.of_below (M := fun k => k = B) hb)
    have HE1 := Lib.hid (HE.out.below hb)
    clear hb HA HV HE
    have hcel : w1.cell? ⟨B, 3, none⟩ = some (.int .i64 v.aat) := HV1.out.boxed 3 _ rfl
    have hfro : w1.frozen? ⟨B, 3, none⟩ = false := by unfold World.frozen?; rw [show w1.heap[(⟨B, 3, none⟩ : Addr).block]? = _ from HV1.out.cells]; rfl
    have HV9 := Lib.hid (HV1.out.put 3 (.int .i64 av) { v with aat := av } rfl rfl rfl rfl)
    have HM9 := Lib.hid (HM1.out.setCell (a := ⟨B, 3, none⟩) (.inl rfl) (.int .i64 av))
    go_wp2_with fail
    go_end0
    rw [HS1.out, HAV.out]
    exact ⟨rfl, _, HV9.out, ⟨rfl, rfl⟩, HM9.out⟩
  have b65 : ((c.toNat : Int) == 65) = false := beq_eq_false_iff_ne.2 (fun h => hc65 (by apply UInt8.toNat_inj.1; show c.toNat = 65; omega))
  by_cases hc76 : c = 76
  · subst hc76
    have HS1 : Hid (set1 v 76 l = { v with lack := atoiV l }) := rfl
    go_enter Tryz.func60, Tryz.ntmps60
    go_wp2_with fail
    refine HA.out.mono ?_
    rintro e w1 ⟨x, rfl, hb⟩
    have HV1 := Lib.hid (HV.out.below hb)
    have HM1 := Lib.hid (Mod.of_below (M := fun k => k = B) hb)
    have HE1 := Lib.hid (HE.out.below hb)
    clear hb HA HV HE
    have hcel : w1.cell? ⟨B, 4, none⟩ = some (.int .i64 v.lack) := HV1.out.boxed 4 _ rfl
    have hfro : w1.frozen? ⟨B, 4, none⟩ = false := by unfold World.frozen?; rw [show w1.heap[(⟨B, 4, none⟩ : Addr).block]? = _ from HV1.out.cells]; rfl
    have HV9 := Lib.hid (HV1.out.put 4 (.int .i64 av) { v with lack := av } rfl rfl rfl rfl)
    have HM9 := Lib.hid (HM1.out.setCell (a := ⟨B, 4, none⟩) (.inl rfl) (.int .i64 av))
    go_wp2_with fail
    go_end0
    rw [HS1.out, HAV.out]
    exact ⟨rfl, _, HV9.out, ⟨rfl, rfl⟩, HM9.out⟩
  have b76 : ((c.toNat : Int) == 76) = false := beq_eq_false_iff_ne.2 (fun h => hc76 (by apply UInt8.toNat_inj.1; show c.toNat = 76; omega))
  by_cases hc116 : c = 116
  · subst hc116
    have HS1 : Hid (set1 v 116 l = { v with tag := if l = [46] then [] else l }) := rfl
    go_enter Tryz.func60, Tryz.ntmps60
    go_wp2_with fail
    refine HA.out.mono ?_
    rintro e w1 ⟨x, rfl, hb⟩
    have HV1 := Lib.hid (HV.out.below hb)
    have HM1 := Lib.hid (Mod.of_below (M := fun k => k = B) hb)
    have HE1 := Lib.hid (HE.out.below hb)
    clear hb HA HV HE
    go_wp2_with fail
    refine (untag_any l _).mono ?_
    rintro e w2 ⟨rfl, rfl⟩
    have HV2 := HV1
    have HM2 := HM1
    generalize (if l = [46] then [] else l) = val at *
    have hcel : w2.cell? ⟨B, 7, none⟩ = some (.string (S v.tag)) := HV2.out.boxed 7 _ rfl
    have hfro : w2.frozen? ⟨B, 7, none⟩ = false := by unfold World.frozen?; rw [show w2.heap[(⟨B, 7, none⟩ : Addr).block]? = _ from HV2.out.cells]; rfl
    have HV9 := Lib.hid (HV2.out.put 7 (.string (S val)) { v with tag := val } rfl rfl rfl rfl)
    have HM9 := Lib.hid (HM2.out.setCell (a := ⟨B, 7, none⟩) (.inl rfl) (.string (S val)))
    go_wp2_with fail
    go_end0
    rw [HS1.out]
    exact ⟨rfl, _, HV9.out, ⟨rfl, rfl⟩, HM9.out⟩
  have b116 : ((c.toNat : Int) == 116) = false := beq_eq_false_iff_ne.2 (fun h => hc116 (by apply UInt8.toNat_inj.1; show c.toNat = 116; omega))
  by_cases hc107 : c = 107
  · subst hc107
    have HS1 : Hid (set1 v 107 l = { v with keys := unkeysL l }) := rfl
    go_enter Tryz.func60, Tryz.ntmps60
    go_wp2_with fail
    refine HA.out.mono ?_
    rintro e w1 ⟨x, rfl, hb⟩
    have HV1 := Lib.hid (HV.out.below hb)
    have HM1 := Lib.hid (Mod.of_below (M := fun k => k = B) hb)
    have HE1 := Lib.hid (HE.out.below hb)
    clear hb HA HV HE
    go_wp2_with fail
    refine (unkeys_any l hl _ HE1.out).mono ?_
    rintro e w2 ⟨_, rfl, ⟨a, cp, rfl, hN, hS⟩, hb⟩
    have HNE : Hid (∀ ad, a = some ad → B < ad.block) := fun ad ha => by have := hN ad ha; have := HV1.out.lt; omega
    have HSS := Lib.hid hS
    have HV2 := Lib.hid (HV1.out.below hb)
    have HM2 := Lib.hid (HM1.out.trans ((Mod.of_below (M := fun k => k = B) hb)))
    clear hb HV1 HM1 hN hS
    generalize unkeysL l = val at *
    have hcel : w2.cell? ⟨B, 10, none⟩ = some (.slice s.ka v.keys.length s.kc) := HV2.out.boxed 10 _ rfl
    have hfro : w2.frozen? ⟨B, 10, none⟩ = false := by unfold World.frozen?; rw [show w2.heap[(⟨B, 10, none⟩ : Addr).block]? = _ from HV2.out.cells]; rfl
    have HV9 := Lib.hid (HV2.out.putKeys a cp val HNE.out HSS.out)
    have HM9 := Lib.hid (HM2.out.setCell (a := ⟨B, 10, none⟩) (.inl rfl) (.slice a val.length cp))
    go_wp2_with fail
    go_end0
    rw [HS1.out]
    exact ⟨rfl, _, HV9.out, ⟨rfl, rfl⟩, HM9.out⟩
  have b107 : ((c.toNat : Int) == 107) = false := beq_eq_false_iff_ne.2 (fun h => hc107 (by apply UInt8.toNat_inj.1; show c.toNat = 107; omega))
  by_cases hc98 : c = 98
  · subst hc98
    have HS1 : Hid (set1 v 98 l = { v with body := (unhexL l).1 }) := rfl
    go_enter Tryz.func60, Tryz.ntmps60
    go_wp2_with fail
    refine HA.out.mono ?_
    rintro e w1 ⟨x, rfl, hb⟩
    have HV1 := Lib.hid (HV.out.below hb)
    have HM1 := Lib.hid (Mod.of_below (M := fun k => k = B) hb)
    have HE1 := Lib.hid (HE.out.below hb)
    clear hb HA HV HE
    go_wp2_with fail
    refine (LinW.unhex_any l (by omega) _).mono ?_
    rintro e w2 ⟨rfl, hb⟩
    have HV2 := Lib.hid (HV1.out.below hb)
    have HM2 := Lib.hid (HM1.out.trans ((Mod.of_below (M := fun k => k = B) hb)))
    clear hb HV1 HM1
    generalize unhexL l = dd at *
    obtain ⟨val, vok⟩ := dd
    have hcel : w2.cell? ⟨B, 9, none⟩ = some (.string (S v.body)) := HV2.out.boxed 9 _ rfl
    have hfro : w2.frozen? ⟨B, 9, none⟩ = false := by unfold World.frozen?; rw [show w2.heap[(⟨B, 9, none⟩ : Addr).block]? = _ from HV2.out.cells]; rfl
    have HV9 := Lib.hid (HV2.out.put 9 (.string (S val)) { v with body := val } rfl rfl rfl rfl)
    have HM9 := Lib.hid (HM2.out.setCell (a := ⟨B, 9, none⟩) (.inl rfl) (.string (S val)))
    go_wp2_with fail
    go_end0
    rw [HS1.out]
    exact ⟨rfl, _, HV9.out, ⟨rfl, rfl⟩, HM9.out⟩
  have b98 : ((c.toNat : Int) == 98) = false := beq_eq_false_iff_ne.2 (fun h => hc98 (by apply UInt8.toNat_inj.1; show c.toNat = 98; omega))
  by_cases hc120 : c = 120
  · subst hc120
    have HS1 : Hid (set1 v 120 l = { v with key := (unhexL l).1 }) := rfl
    go_enter Tryz.func60, Tryz.ntmps60
    go_wp2_with fail
    refine HA.out.mono ?_
    rintro e w1 ⟨x, rfl, hb⟩
    have HV1 := Lib.hid (HV.out.below hb)
    have HM1 := Lib.hid (Mod.of_below (M := fun k => k = B) hb)
    have HE1 := Lib.hid (HE.out.below hb)
    clear hb HA HV HE
    go_wp2_with fail
    refine (LinW.unhex_any l (by omega) _).mono ?_
    rintro e w2 ⟨rfl, hb⟩
    have HV2 := Lib.hid (HV1.out.below hb)
    have HM2 := Lib.hid (HM1.out.trans ((Mod.of_below (M := fun k => k = B) hb)))
    clear hb HV1 HM1
    generalize unhexL l = dd at *
    obtain ⟨val, vok⟩ := dd
    have hcel : w2.cell? ⟨B, 8, none⟩ = some (.string (S v.key)) := HV2.out.boxed 8 _ rfl
    have hfro : w2.frozen? ⟨B, 8, none⟩ = false := by unfold World.frozen?; rw [show w2.heap[(⟨B, 8, none⟩ : Addr).block]? = _ from HV2.out.cells]; rfl
    have HV9 := Lib.hid (HV2.out.put 8 (.string (S val)) { v with key := val } rfl rfl rfl rfl)
    have HM9 := Lib.hid (HM2.out.setCell (a := ⟨B, 8, none⟩) (.inl rfl) (.string (S val)))
    go_wp2_with fail
    go_end0
    rw [HS1.out]
    exact ⟨rfl, _, HV9.out, ⟨rfl, rfl⟩, HM9.out⟩
  have b120 : ((c.toNat : Int) == 120) = false := beq_eq_false_iff_ne.2 (fun h => hc120 (by apply UInt8.toNat_inj.1; show c.toNat = 120; omega))
  by_cases hc112 : c = 112
  · subst hc112
    have HS1 : Hid (set1 v 112 l = { v with keep := truthsL l }) := rfl
    go_enter Tryz.func60, Tryz.ntmps60
    go_wp2_with fail
    refine HA.out.mono ?_
    rintro e w1 ⟨x, rfl, hb⟩
    have HV1 := Lib.hid (HV.out.below hb)
    have HM1 := Lib.hid (Mod.of_below (M := fun k => k = B) hb)
    have HE1 := Lib.hid (HE.out.below hb)
    clear hb HA HV HE
    go_wp2_with fail
    refine (truths_any l hl _).mono ?_
    rintro e w2 ⟨_, rfl, ⟨a, cp, rfl, hN, hS⟩, hb⟩
    have HNE : Hid (∀ ad, a = some ad → B < ad.block) := fun ad ha => by have := hN ad ha; have := HV1.out.lt; omega
    have HSS := Lib.hid hS
    have HV2 := Lib.hid (HV1.out.below hb)
    have HM2 := Lib.hid (HM1.out.trans ((Mod.of_below (M := fun k => k = B) hb)))
    clear hb HV1 HM1 hN hS
    generalize truthsL l = val at *
    have hcel : w2.cell? ⟨B, 12, none⟩ = some (.slice s.pa v.keep.length s.pc) := HV2.out.boxed 12 _ rfl
    have hfro : w2.frozen? ⟨B, 12, none⟩ = false := by unfold World.frozen?; rw [show w2.heap[(⟨B, 12, none⟩ : Addr).block]? = _ from HV2.out.cells]; rfl
    have HV9 := Lib.hid (HV2.out.putKeep a cp val HNE.out HSS.out)
    have HM9 := Lib.hid (HM2.out.setCell (a := ⟨B, 12, none⟩) (.inl rfl) (.slice a val.length cp))
    go_wp2_with fail
    go_end0
    rw [HS1.out]
    exact ⟨rfl, _, HV9.out, ⟨rfl, rfl⟩, HM9.out⟩
  have b112 : ((c.toNat : Int) == 112) = false := beq_eq_false_iff_ne.2 (fun h => hc112 (by apply UInt8.toNat_inj.1; show c.toNat = 112; omega))
  by_cases hc115 : c = 115
  · subst hc115
    have HS1 : Hid (set1 v 115 l = { v with sync := true }) := rfl
    go_enter Tryz.func60, Tryz.ntmps60
    go_wp2_with fail
    refine HA.out.mono ?_
    rintro e w1 ⟨x, rfl, hb⟩
    have HV1 := Lib.hid (HV.out.below hb)
    have HM1 := Lib.hid (Mod.of_below (M := fun k => k = B) hb)
    have HE1 := Lib.hid (HE.out.below hb)
    clear hb HA HV HE
    have hcel : w1.cell? ⟨B, 13, none⟩ = some (.bool v.sync) := HV1.out.boxed 13 _ rfl
    have hfro : w1.frozen? ⟨B, 13, none⟩ = false := by unfold World.frozen?; rw [show w1.heap[(⟨B, 13, none⟩ : Addr).block]? = _ from HV1.out.cells]; rfl
    have HV9 := Lib.hid (HV1.out.put 13 (.bool true) { v with sync := true } rfl rfl rfl rfl)
    have HM9 := Lib.hid (HM1.out.setCell (a := ⟨B, 13, none⟩) (.inl rfl) (.bool true))
    go_wp2_with fail
    go_end0
    rw [HS1.out]
    exact ⟨rfl, _, HV9.out, ⟨rfl, rfl⟩, HM9.out⟩
  have b115 : ((c.toNat : Int) == 115) = false := beq_eq_false_iff_ne.2 (fun h => hc115 (by apply UInt8.toNat_inj.1; show c.toNat = 115; omega))
  have HS1 : Hid (set1 v c l = v) := by show _ = _; unfold set1; rw [if_neg hc84, if_neg hc71, if_neg hc81, if_neg hc78, if_neg hc65, if_neg hc76, if_neg hc116, if_neg hc107, if_neg hc98, if_neg hc120, if_neg hc112, if_neg hc115]
  clear hc84 hc71 hc81 hc78 hc65 hc76 hc116 hc107 hc98 hc120 hc112 hc115
  go_enter Tryz.func60, Tryz.ntmps60
  go_wp2_with fail
  refine HA.out.mono ?_
  rintro e w1 ⟨x, rfl, hb⟩
  have HV1 := Lib.hid (HV.out.below hb)
  have HM1 := Lib.hid (Mod.of_below (M := fun k => k = B) hb)
  clear hb HA HV HE
  go_wp2_with fail
  go_end0
  rw [HS1.out]
  exact ⟨rfl, _, HV1.out, ⟨rfl, rfl⟩, HM1.out⟩
end Go.Proofs.YtadhkeboaapfcaaGreatDoor.EvW
