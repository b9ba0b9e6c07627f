/- reveillelaw30.line at kind 1. -/
import Derived.Test.YtadhkeboaapfcaaGreatDoorLineH
import Derived.Deep.DeepCutAuto
import Derived.BigRegion
import Derived.BigQuiet
namespace Go.Proofs.YtadhkeboaapfcaaGreatDoor.EvW
open Go.RowKit OctMath NameMath HexMath
set_option linter.unusedVariables false
set_option linter.unusedSimpArgs false
set_option maxRecDepth 100000


set_option maxHeartbeats 12800000 in
theorem line_1 (v : Ev) (s : EvS) (hsm : EvOk v) (hi : EvI v) (W : World) (hin : EvIn W v s) (hcap : v.tags.length ≤ s.tc) (hk : v.kind = 1) (hg : guardB v = true) (hbk : v.keys.any badK = false) :
    Calls Tryz.prog 10 #[.agg (v.cells s)] W fun e w' => e = .returned (.string (S (if condB v 1 then lineS v 1 else []))) ∧ Below W.heap.size W w' := by
  generalize hRR : (if condB v 1 then lineS v 1 else []) = RR
  have HRR := Lib.hid hRR
  clear hRR
  have HP := Lib.hid (guard_parts hg)
  have HK := Lib.hid hbk
  have HG := Lib.hid hg
  have HSM := Lib.hid hsm
  have HI := Lib.hid hi
  have HB : Hid (Below W.heap.size W (W.alloc (.cells (v.cells s) 25))) := (Below.refl _ W).alloc (Nat.le_refl _) _
  have HIN := Lib.hid (hin.below HB.out)
  have HX : Hid (Boxed (W.alloc (.cells (v.cells s) 25)) W.heap.size (v.cells s)) := Boxed.new W _ _
  have hcv : (v.cells s).size = 14 := rfl
  have hsz := S_size
  clear hsm hi hin hg hbk
  go_enter Tryz.func10, Tryz.ntmps10
  go_upto_region 1 with fail
  generalize (W.alloc (.cells (v.cells s) 25)) = w1 at *
  clear hcv
  have c0 : w1.cell? ⟨W.heap.size, 0, none⟩ = some (.int .i64 v.kind) := HX.out 0 _ rfl
  have c1 : w1.cell? ⟨W.heap.size, 1, none⟩ = some (.int .i64 v.queue) := HX.out 1 _ rfl
  have c2 : w1.cell? ⟨W.heap.size, 2, none⟩ = some (.int .i64 v.n) := HX.out 2 _ rfl
  have c3 : w1.cell? ⟨W.heap.size, 3, none⟩ = some (.int .i64 v.aat) := HX.out 3 _ rfl
  have c4 : w1.cell? ⟨W.heap.size, 4, none⟩ = some (.int .i64 v.lack) := HX.out 4 _ rfl
  rw [hk] at c0
  have HNB := Lib.hid (small_any (some ⟨w1.heap.size, 0, none⟩) 4 [v.queue, v.n, v.aat, v.lack] (by simp))
  rw [HP.out.1] at HNB
  go_wp2_with fail
  refine (HNB.out _ ?nrow).mono ?_
  case nrow => exact fun i hi => ⟨_, 0, rfl, by rw [World.cell?_alloc_new]; match i, hi with | 0, _ => rfl | 1, _ => rfl | 2, _ => rfl | 3, _ => rfl⟩
  rintro e w2 ⟨rfl, hd⟩
  have hb : Below w1.heap.size w1 w2 := ((Below.refl _ w1).alloc (Nat.le_refl _) _).trans (hd.below _)
  clear hd c0 c1 c2 c3 c4 HNB
  replace HX := Lib.hid (HX.out.below hb)
  replace HIN := Lib.hid (HIN.out.below hb)
  replace HB := Lib.hid (HB.out.trans (hb.mono HB.out.size))
  clear hb
  have c7 : w2.cell? ⟨W.heap.size, 7, none⟩ = some (.string (S v.tag)) := HX.out 7 _ rfl
  have HTG := Lib.hid (fun w => NameW.rtag_any v.tag (by have := HSM.out.tag; omega) w)
  rw [HP.out.2.1] at HTG
  go_wp2_with fail
  refine (HTG.out _).mono ?_
  rintro e w3 ⟨rfl, hd⟩
  have hb := hd.below w2.heap.size
  clear hd c7 HTG
  replace HX := Lib.hid (HX.out.below hb)
  replace HIN := Lib.hid (HIN.out.below hb)
  replace HB := Lib.hid (HB.out.trans (hb.mono HB.out.size))
  clear hb
  have c8 : w3.cell? ⟨W.heap.size, 8, none⟩ = some (.string (S v.key)) := HX.out 8 _ rfl
  have c9 : w3.cell? ⟨W.heap.size, 9, none⟩ = some (.string (S v.body)) := HX.out 9 _ rfl
  have c10 : w3.cell? ⟨W.heap.size, 10, none⟩ = some (.slice s.ka v.keys.length s.kc) := HX.out 10 _ rfl
  have c11 : w3.cell? ⟨W.heap.size, 11, none⟩ = some (.slice s.ta v.tags.length s.tc) := HX.out 11 _ rfl
  have c12 : w3.cell? ⟨W.heap.size, 12, none⟩ = some (.slice s.pa v.keep.length s.pc) := HX.out 12 _ rfl
  have HFL := Lib.hid (fun w h => lfilter_any s.ta s.tc v.tags (by have := HSM.out.tags; omega) hcap HSM.out.tagsz w h)
  rw [HP.out.2.2.1] at HFL
  go_wp2_with fail
  refine (HFL.out _ HIN.out.tags).mono ?_
  rintro e w4 ⟨rfl, hd⟩
  have hb := hd.below w3.heap.size
  clear hd c8 c9 c10 c11 c12 HFL
  replace HX := Lib.hid (HX.out.below hb)
  replace HIN := Lib.hid (HIN.out.below hb)
  replace HB := Lib.hid (HB.out.trans (hb.mono HB.out.size))
  clear hb
  have c8 : w4.cell? ⟨W.heap.size, 8, none⟩ = some (.string (S v.key)) := HX.out 8 _ rfl
  have c9 : w4.cell? ⟨W.heap.size, 9, none⟩ = some (.string (S v.body)) := HX.out 9 _ rfl
  have c10 : w4.cell? ⟨W.heap.size, 10, none⟩ = some (.slice s.ka v.keys.length s.kc) := HX.out 10 _ rfl
  have c12 : w4.cell? ⟨W.heap.size, 12, none⟩ = some (.slice s.pa v.keep.length s.pc) := HX.out 12 _ rfl
  have hp1 := HP.out.2.2.2.1
  have hp2 := HP.out.2.2.2.2.1
  have hp3 := HP.out.2.2.2.2.2.1
  have hp4 := HP.out.2.2.2.2.2.2
  have g1 : decide (300 < (v.body.length : Int)) = false := decide_eq_false (by omega)
  have g2 : decide (300 < (v.key.length : Int)) = false := decide_eq_false (by omega)
  have g3 : decide (10 < (v.keys.length : Int)) = false := decide_eq_false (by omega)
  have g4 : decide (100 < (v.keep.length : Int)) = false := decide_eq_false (by omega)
  go_wp2_with fail
  clear g1 g2 g3 g4
  have HKL : Hid (Row1 w4 s.ka (v.keys.map fun x => .string (S x))) := row_strs HIN.out.keys
  have htl := NameW.S_toList
  go_loopw [74] (fun i wr => ∃ k : Nat, k ≤ v.keys.length ∧ i = .int .i64 (k : Int) ∧ wr = w4) (fun i _ => v.keys.length + 1 - (intOf i).toNat)
  case atStart => exact ⟨0, by omega, rfl, rfl⟩
  case round =>
    obtain ⟨k, hkk, rfl, rfl⟩ := hrel
    by_cases hlt : k < v.keys.length
    · obtain ⟨b, off, hbo, hcell⟩ := HKL.out k (by rw [List.length_map]; exact hlt)
      rw [List.getElem_map] at hcell
      have hgood := key_good HK.out (List.getElem_mem hlt)
      generalize v.keys[k] = x at *
      have hxe : (x == []) = false := by simp [hgood.1]
      have hx3 := hgood.2
      clear hgood c8 c9 c10 c12
      rw [hbo] at *
      go_wp2_with fail
      go_roundw
      case rel => exact ⟨k + 1, by omega, by go_num, trivial⟩
      case measure => simp [intOf]; omega
    · obtain rfl : k = v.keys.length := by omega
      clear HKL c8 c9 c10 c12 hlt hkk
      have c0 : wr.cell? ⟨W.heap.size, 0, none⟩ = some (.int .i64 v.kind) := HX.out 0 _ rfl
      have c1 : wr.cell? ⟨W.heap.size, 1, none⟩ = some (.int .i64 v.queue) := HX.out 1 _ rfl
      have c2 : wr.cell? ⟨W.heap.size, 2, none⟩ = some (.int .i64 v.n) := HX.out 2 _ rfl
      have c3 : wr.cell? ⟨W.heap.size, 3, none⟩ = some (.int .i64 v.aat) := HX.out 3 _ rfl
      have c4 : wr.cell? ⟨W.heap.size, 4, none⟩ = some (.int .i64 v.lack) := HX.out 4 _ rfl
      have c5 : wr.cell? ⟨W.heap.size, 5, none⟩ = some (.string (S v.topic)) := HX.out 5 _ rfl
      have c6 : wr.cell? ⟨W.heap.size, 6, none⟩ = some (.string (S v.group)) := HX.out 6 _ rfl
      have c7 : wr.cell? ⟨W.heap.size, 7, none⟩ = some (.string (S v.tag)) := HX.out 7 _ rfl
      have c8 : wr.cell? ⟨W.heap.size, 8, none⟩ = some (.string (S v.key)) := HX.out 8 _ rfl
      have c9 : wr.cell? ⟨W.heap.size, 9, none⟩ = some (.string (S v.body)) := HX.out 9 _ rfl
      have c10 : wr.cell? ⟨W.heap.size, 10, none⟩ = some (.slice s.ka v.keys.length s.kc) := HX.out 10 _ rfl
      have c11 : wr.cell? ⟨W.heap.size, 11, none⟩ = some (.slice s.ta v.tags.length s.tc) := HX.out 11 _ rfl
      have c12 : wr.cell? ⟨W.heap.size, 12, none⟩ = some (.slice s.pa v.keep.length s.pc) := HX.out 12 _ rfl
      have c13 : wr.cell? ⟨W.heap.size, 13, none⟩ = some (.bool v.sync) := HX.out 13 _ rfl
      rw [hk] at c0
      have hdq : ∀ (x : Int), (-9223372036854775808 ≤ x ∧ x ≤ 9223372036854775807) → ∀ (w : World) (n : Nat), Calls Tryz.prog 17 #[.int .i64 x] (w.drewN n) fun e w'' => e = .returned (.string (S (Lib.itoa x))) ∧ ∃ m, w'' = w.drewN m := fun x hx w n => (digits_any x hx.1 hx.2 _).mono fun _ _ h => ⟨h.1, n, h.2⟩
      have HDQ1 := Lib.hid (hdq v.queue HI.out.queue)
      have HDQ2 := Lib.hid (hdq v.n HI.out.n)
      have HDQ3 := Lib.hid (hdq v.aat HI.out.aat)
      have HDQ4 := Lib.hid (hdq v.lack HI.out.lack)
      clear hdq
      have hz := part_sizes HSM.out HI.out HG.out HK.out
      have hz1 := hz.1
      have hz2 := hz.2.1
      have hz3 := hz.2.2.1
      have hz4 := hz.2.2.2.1
      have hz5 := hz.2.2.2.2.1
      have hz6 := hz.2.2.2.2.2.1
      have hz7 := hz.2.2.2.2.2.2.1
      have hz8 := hz.2.2.2.2.2.2.2.1
      have hz9 := hz.2.2.2.2.2.2.2.2
      clear hz
      have HKS : Hid (∀ (n : Nat), Calls Tryz.prog 29 #[.slice s.ka v.keys.length s.kc] (wr.drewN n) fun e w'' => e = .returned (.string (S (keysL v.keys))) ∧ ∃ m, w'' = wr.drewN m) := fun n => quiet_drawn (keys30_any s.ka s.kc v.keys (by have := HP.out.2.2.2.2.2.1; omega) (fun t ht => by have := (key_good HK.out ht).2; omega) _ (HIN.out.keys.below (Drawn.below ⟨n, rfl⟩ _)))
      have HTS : Hid (∀ (w : World) (n : Nat), Calls Tryz.prog 28 #[.string (S v.tag)] (w.drewN n) fun e w'' => e = .returned (.string (S (tagW v))) ∧ ∃ m, w'' = w.drewN m) := fun w n => (tag30_any v.tag _).mono fun _ _ h => ⟨h.1, n, h.2⟩
      have HHB : Hid (∀ (w : World) (n : Nat), Calls Tryz.prog 15 #[.string (S v.body)] (w.drewN n) fun e w'' => e = .returned (.string (S (hexL v.body))) ∧ ∃ m, w'' = w.drewN m) := fun w n => quiet_drawn (LinW.rhex_any v.body (by have := HP.out.2.2.2.1; omega) _)
      clear hsz htl hp1 hp2 hp3 hp4
      generalize hsy0 : v.sync = sy at c13
      cases sy
      all_goals
        go_wp2_with fail
        go_quiet (first | (go_at_call_of 17 (Value.int .i64 v.queue); exact HDQ1.out _ _) | (go_at_call_of 17 (Value.int .i64 v.n); exact HDQ2.out _ _) | (go_at_call_of 17 (Value.int .i64 v.aat); exact HDQ3.out _ _) | (go_at_call_of 17 (Value.int .i64 v.lack); exact HDQ4.out _ _) | (go_at_call 28; exact HTS.out _ _) | (go_at_call 29; exact HKS.out _) | (go_at_call 15; exact HHB.out _ _))
        obtain ⟨wq, hwq⟩ : ∃ wz, wr.drewN nq = wz := ⟨_, rfl⟩
        rw [hwq]
        have hd : Drawn wr wq := ⟨nq, hwq.symm⟩
        have hb := hd.below wr.heap.size
        clear hwq hd c0 c1 c2 c3 c4 c5 c6 c7 c8 c9 c10 c11 c12 c13
        replace HX := Lib.hid (HX.out.below hb)
        replace HIN := Lib.hid (HIN.out.below hb)
        replace HB := Lib.hid (HB.out.trans (hb.mono HB.out.size))
        clear hb
        first
        | rw [send_f hsy0]
        | rw [send_t hsy0]
        have c0 : wq.cell? ⟨W.heap.size, 0, none⟩ = some (.int .i64 v.kind) := HX.out 0 _ rfl
        have c1 : wq.cell? ⟨W.heap.size, 1, none⟩ = some (.int .i64 v.queue) := HX.out 1 _ rfl
        have c3 : wq.cell? ⟨W.heap.size, 3, none⟩ = some (.int .i64 v.aat) := HX.out 3 _ rfl
        have c5 : wq.cell? ⟨W.heap.size, 5, none⟩ = some (.string (S v.topic)) := HX.out 5 _ rfl
        have c6 : wq.cell? ⟨W.heap.size, 6, none⟩ = some (.string (S v.group)) := HX.out 6 _ rfl
        rw [hk] at c0
        go_wp2_with fail
        go_quiet (first | (go_at_call_of 17 (Value.int .i64 v.queue); exact HDQ1.out _ _) | (go_at_call_of 17 (Value.int .i64 v.n); exact HDQ2.out _ _) | (go_at_call_of 17 (Value.int .i64 v.aat); exact HDQ3.out _ _) | (go_at_call_of 17 (Value.int .i64 v.lack); exact HDQ4.out _ _) | (go_at_call 28; exact HTS.out _ _) | (go_at_call 29; exact HKS.out _) | (go_at_call 15; exact HHB.out _ _))
        obtain ⟨wq2, hwq⟩ : ∃ wz, wq.drewN nq = wz := ⟨_, rfl⟩
        rw [hwq]
        have hd : Drawn wq wq2 := ⟨nq, hwq.symm⟩
        have hb := hd.below wq.heap.size
        clear hwq hd c0 c1 c3 c5 c6
        replace HX := Lib.hid (HX.out.below hb)
        replace HIN := Lib.hid (HIN.out.below hb)
        replace HB := Lib.hid (HB.out.trans (hb.mono HB.out.size))
        clear hb
        rw [group_eq v]
        have c0 : wq2.cell? ⟨W.heap.size, 0, none⟩ = some (.int .i64 v.kind) := HX.out 0 _ rfl
        rw [hk] at c0
        go_upto_region 17 with fail
        clear c0
        have HT10 : Hid ((wq2.alloc (.cells #[.int .i64 1, .int .i64 0, .int .i64 0, .int .i64 0, .int .i64 0, .string ⟨#[]⟩, .string ⟨#[]⟩, .string ⟨#[]⟩, .string ⟨#[]⟩, .string ⟨#[]⟩, .slice none 0 0, .slice none 0 0, .slice none 0 0, .bool false] 25)).heap[wq2.heap.size]? = some (.cells ((ev0 1).cells evs0) 25 (0, 0))) := World.alloc_heap_new _ _
        have hb : Below wq2.heap.size wq2 (wq2.alloc (.cells #[.int .i64 1, .int .i64 0, .int .i64 0, .int .i64 0, .int .i64 0, .string ⟨#[]⟩, .string ⟨#[]⟩, .string ⟨#[]⟩, .string ⟨#[]⟩, .string ⟨#[]⟩, .slice none 0 0, .slice none 0 0, .slice none 0 0, .bool false] 25)) := (Below.refl _ _).alloc (Nat.le_refl _) _
        have hB10 : W.heap.size < wq2.heap.size := by have := HX.out 0 _ rfl; exact cell_lt this
        obtain ⟨wA, hwA⟩ : ∃ wA, (wq2.alloc (.cells #[.int .i64 1, .int .i64 0, .int .i64 0, .int .i64 0, .int .i64 0, .string ⟨#[]⟩, .string ⟨#[]⟩, .string ⟨#[]⟩, .string ⟨#[]⟩, .string ⟨#[]⟩, .slice none 0 0, .slice none 0 0, .slice none 0 0, .bool false] 25)) = wA := ⟨_, rfl⟩
        rw [hwA] at HT10 hb ⊢
        generalize hB10e : wq2.heap.size = B10 at HT10 hb hB10 ⊢
        clear hwA
        have HBL := Lib.hid hb
        have HXq := HX
        have HINq := HIN
        have HBq := HB
        have HBE := Lib.hid hB10e
        replace HX := Lib.hid (HX.out.below (hB10e ▸ hb))
        replace HIN := Lib.hid (HIN.out.below (hB10e ▸ hb))
        replace HB := Lib.hid (HB.out.trans (hb.mono (by omega)))
        clear hb hB10e
        have c0 : wA.cell? ⟨W.heap.size, 0, none⟩ = some (.int .i64 v.kind) := HX.out 0 _ rfl
        rw [hk] at c0
        go_upto_region 20 with fail
        clear c0
        have c2 : wA.cell? ⟨W.heap.size, 2, none⟩ = some (.int .i64 v.n) := HX.out 2 _ rfl
        have c5 : wA.cell? ⟨W.heap.size, 5, none⟩ = some (.string (S v.topic)) := HX.out 5 _ rfl
        have hz9 := HT10.out
        have d2 : wA.cell? ⟨B10, 2, none⟩ = some (.int .i64 0) := by unfold World.cell?; rw [show wA.heap[(⟨B10, 2, none⟩ : Addr).block]? = _ from hz9]; rfl
        have d5 : wA.cell? ⟨B10, 5, none⟩ = some (.string (S [])) := by unfold World.cell?; rw [show wA.heap[(⟨B10, 5, none⟩ : Addr).block]? = _ from hz9]; rfl
        have hfr : ∀ j, wA.frozen? ⟨B10, j, none⟩ = false := fun j => by unfold World.frozen?; rw [show wA.heap[(⟨B10, j, none⟩ : Addr).block]? = _ from hz9]; rfl
        clear hz9
        go_region
        obtain ⟨wN, hwwN⟩ : ∃ wz, ((wA.setCell ⟨B10, 5, none⟩ (.string (S v.topic))).setCell ⟨B10, 2, none⟩ (.int .i64 v.n)).drew = wz := ⟨_, rfl⟩
        rw [hwwN]
        have HTwN : Hid (wN.heap[B10]? = some (.cells #[.int .i64 1, .int .i64 0, .int .i64 v.n, .int .i64 0, .int .i64 0, .string (S v.topic), .string (S []), .string (S []), .string (S []), .string (S []), .slice none 0 0, .slice none 0 0, .slice none 0 0, .bool false] 25 (0, 0))) := by
          have h0 : wA.heap[B10]? = some (.cells #[.int .i64 1, .int .i64 0, .int .i64 0, .int .i64 0, .int .i64 0, .string (S []), .string (S []), .string (S []), .string (S []), .string (S []), .slice none 0 0, .slice none 0 0, .slice none 0 0, .bool false] 25 (0, 0)) := HT10.out
          have h1 := heap_setCell_same _ B10 5 _ _ (.string (S v.topic)) h0
          simp only [List.setIfInBounds_toArray, List.set_cons_zero, List.set_cons_succ] at h1
          have h2 := heap_setCell_same _ B10 2 _ _ (.int .i64 v.n) h1
          simp only [List.setIfInBounds_toArray, List.set_cons_zero, List.set_cons_succ] at h2
          show wN.heap[B10]? = _
          rw [← hwwN]
          exact h2
        have hb : Below B10 wq2 wN := by rw [← hwwN]; exact ((HBL.out.setCell (p := ⟨B10, 5, none⟩) (Nat.le_refl _) _).setCell (p := ⟨B10, 2, none⟩) (Nat.le_refl _) _).drew
        clear hwwN
        replace HX := Lib.hid (HXq.out.below (HBE.out ▸ hb))
        replace HIN := Lib.hid (HINq.out.below (HBE.out ▸ hb))
        replace HB := Lib.hid (HBq.out.trans (hb.mono (Nat.le_of_lt hB10)))
        have HBN := Lib.hid hb
        clear hb HT10 HBL c2 c5 d2 d5 hfr wA
        have c0 : wN.cell? ⟨W.heap.size, 0, none⟩ = some (.int .i64 v.kind) := HX.out 0 _ rfl
        have c2 : wN.cell? ⟨W.heap.size, 2, none⟩ = some (.int .i64 v.n) := HX.out 2 _ rfl
        have c5 : wN.cell? ⟨W.heap.size, 5, none⟩ = some (.string (S v.topic)) := HX.out 5 _ rfl
        rw [hk] at c0
        go_wp2_with fail
        go_quiet (first | (go_at_call_of 17 (Value.int .i64 v.n); exact HDQ2.out _ _))
        have HTN2 : Hid ((wN.drewN nq).heap[B10]? = _) := HTwN.out
        obtain ⟨wA, hwq⟩ : ∃ wz, wN.drewN nq = wz := ⟨_, rfl⟩
        rw [hwq] at HTN2 ⊢
        have hd : Drawn wN wA := ⟨nq, hwq.symm⟩
        have hb := hd.below wN.heap.size
        clear hwq hd c0 c2 c5 HTwN
        replace HX := Lib.hid (HX.out.below hb)
        replace HIN := Lib.hid (HIN.out.below hb)
        replace HB := Lib.hid (HB.out.trans (hb.mono HB.out.size))
        clear hb
        have HTW := HTN2
        clear HTN2
        clear HXq HINq HBq HBN
        have c0 : wA.cell? ⟨W.heap.size, 0, none⟩ = some (.int .i64 v.kind) := HX.out 0 _ rfl
        rw [hk] at c0
        go_upto_region 56 with fail
        clear c0
        have c0 : wA.cell? ⟨W.heap.size, 0, none⟩ = some (.int .i64 v.kind) := HX.out 0 _ rfl
        have c1 : wA.cell? ⟨W.heap.size, 1, none⟩ = some (.int .i64 v.queue) := HX.out 1 _ rfl
        have c2 : wA.cell? ⟨W.heap.size, 2, none⟩ = some (.int .i64 v.n) := HX.out 2 _ rfl
        have c3 : wA.cell? ⟨W.heap.size, 3, none⟩ = some (.int .i64 v.aat) := HX.out 3 _ rfl
        have c4 : wA.cell? ⟨W.heap.size, 4, none⟩ = some (.int .i64 v.lack) := HX.out 4 _ rfl
        have c5 : wA.cell? ⟨W.heap.size, 5, none⟩ = some (.string (S v.topic)) := HX.out 5 _ rfl
        have c6 : wA.cell? ⟨W.heap.size, 6, none⟩ = some (.string (S v.group)) := HX.out 6 _ rfl
        have c7 : wA.cell? ⟨W.heap.size, 7, none⟩ = some (.string (S v.tag)) := HX.out 7 _ rfl
        have c8 : wA.cell? ⟨W.heap.size, 8, none⟩ = some (.string (S v.key)) := HX.out 8 _ rfl
        have c9 : wA.cell? ⟨W.heap.size, 9, none⟩ = some (.string (S v.body)) := HX.out 9 _ rfl
        have c10 : wA.cell? ⟨W.heap.size, 10, none⟩ = some (.slice s.ka v.keys.length s.kc) := HX.out 10 _ rfl
        have c11 : wA.cell? ⟨W.heap.size, 11, none⟩ = some (.slice s.ta v.tags.length s.tc) := HX.out 11 _ rfl
        have c12 : wA.cell? ⟨W.heap.size, 12, none⟩ = some (.slice s.pa v.keep.length s.pc) := HX.out 12 _ rfl
        have c13 : wA.cell? ⟨W.heap.size, 13, none⟩ = some (.bool v.sync) := HX.out 13 _ rfl
        rw [hk] at c0
        have hz9 := HTW.out
        have d0 : wA.cell? ⟨B10, 0, none⟩ = some (.int .i64 1) := by unfold World.cell?; rw [show wA.heap[(⟨B10, 0, none⟩ : Addr).block]? = _ from hz9]; rfl
        have d1 : wA.cell? ⟨B10, 1, none⟩ = some (.int .i64 0) := by unfold World.cell?; rw [show wA.heap[(⟨B10, 1, none⟩ : Addr).block]? = _ from hz9]; rfl
        have d2 : wA.cell? ⟨B10, 2, none⟩ = some (.int .i64 v.n) := by unfold World.cell?; rw [show wA.heap[(⟨B10, 2, none⟩ : Addr).block]? = _ from hz9]; rfl
        have d3 : wA.cell? ⟨B10, 3, none⟩ = some (.int .i64 0) := by unfold World.cell?; rw [show wA.heap[(⟨B10, 3, none⟩ : Addr).block]? = _ from hz9]; rfl
        have d4 : wA.cell? ⟨B10, 4, none⟩ = some (.int .i64 0) := by unfold World.cell?; rw [show wA.heap[(⟨B10, 4, none⟩ : Addr).block]? = _ from hz9]; rfl
        have d5 : wA.cell? ⟨B10, 5, none⟩ = some (.string (S v.topic)) := by unfold World.cell?; rw [show wA.heap[(⟨B10, 5, none⟩ : Addr).block]? = _ from hz9]; rfl
        have d6 : wA.cell? ⟨B10, 6, none⟩ = some (.string (S [])) := by unfold World.cell?; rw [show wA.heap[(⟨B10, 6, none⟩ : Addr).block]? = _ from hz9]; rfl
        have d7 : wA.cell? ⟨B10, 7, none⟩ = some (.string (S [])) := by unfold World.cell?; rw [show wA.heap[(⟨B10, 7, none⟩ : Addr).block]? = _ from hz9]; rfl
        have d8 : wA.cell? ⟨B10, 8, none⟩ = some (.string (S [])) := by unfold World.cell?; rw [show wA.heap[(⟨B10, 8, none⟩ : Addr).block]? = _ from hz9]; rfl
        have d9 : wA.cell? ⟨B10, 9, none⟩ = some (.string (S [])) := by unfold World.cell?; rw [show wA.heap[(⟨B10, 9, none⟩ : Addr).block]? = _ from hz9]; rfl
        have d10 : wA.cell? ⟨B10, 10, none⟩ = some (.slice none 0 0) := by unfold World.cell?; rw [show wA.heap[(⟨B10, 10, none⟩ : Addr).block]? = _ from hz9]; rfl
        have d11 : wA.cell? ⟨B10, 11, none⟩ = some (.slice none 0 0) := by unfold World.cell?; rw [show wA.heap[(⟨B10, 11, none⟩ : Addr).block]? = _ from hz9]; rfl
        have d12 : wA.cell? ⟨B10, 12, none⟩ = some (.slice none 0 0) := by unfold World.cell?; rw [show wA.heap[(⟨B10, 12, none⟩ : Addr).block]? = _ from hz9]; rfl
        have d13 : wA.cell? ⟨B10, 13, none⟩ = some (.bool false) := by unfold World.cell?; rw [show wA.heap[(⟨B10, 13, none⟩ : Addr).block]? = _ from hz9]; rfl
        clear hz9
        have hwo : EvOk (wantE v 1) := ⟨HSM.out.topic, Nat.zero_le _, Nat.zero_le _, Nat.zero_le _, Nat.zero_le _, Nat.zero_le _, Nat.zero_le _, Nat.zero_le _, fun t ht => (by cases ht), fun t ht => (by cases ht)⟩
        have hwi : EvIn wA (wantE v 1) ⟨none, 0, none, 0, none, 0⟩ := ⟨fun i hi => absurd hi (Nat.not_lt_zero _), fun i hi => absurd hi (Nat.not_lt_zero _), fun i hi => absurd hi (Nat.not_lt_zero _)⟩
        have HSC := Lib.hid (ev_same v (wantE v 1) s ⟨none, 0, none, 0, none, 0⟩ HSM.out hwo wA HIN.out hwi)
        rw [show v.cells s = #[.int .i64 1, .int .i64 v.queue, .int .i64 v.n, .int .i64 v.aat, .int .i64 v.lack, .string (S v.topic), .string (S v.group), .string (S v.tag), .string (S v.key), .string (S v.body), .slice s.ka v.keys.length s.kc, .slice s.ta v.tags.length s.tc, .slice s.pa v.keep.length s.pc, .bool v.sync] from by unfold Ev.cells; rw [hk], show Ev.cells (wantE v 1) ⟨none, 0, none, 0, none, 0⟩ = #[.int .i64 1, .int .i64 0, .int .i64 v.n, .int .i64 0, .int .i64 0, .string (S v.topic), .string (S []), .string (S []), .string (S []), .string (S []), .slice none 0 0, .slice none 0 0, .slice none 0 0, .bool false] from rfl] at HSC
        rw [hsy0] at HSC
        clear hwo hwi
        go_wp2_with fail
        refine HSC.out.mono ?_
        rintro e wB ⟨rfl, hb⟩
        clear c0 c1 c2 c3 c4 c5 c6 c7 c8 c9 c10 c11 c12 c13 d0 d1 d2 d3 d4 d5 d6 d7 d8 d9 d10 d11 d12 d13 HSC HTW
        replace HX := Lib.hid (HX.out.below hb)
        replace HIN := Lib.hid (HIN.out.below hb)
        replace HB := Lib.hid (HB.out.trans (hb.mono HB.out.size))
        clear hb
        have HC : Hid (condB v 1 = (sameE v (wantE v 1) && topicL v.topic && true)) := by show _ = _; unfold condB; rfl
        generalize sameE v (wantE v 1) = sb at *
        cases sb with
        | false =>
          have HT : Hid (RR = []) := by show _ = _; rw [← HRR.out, HC.out]; rfl
          have c0 : wB.cell? ⟨W.heap.size, 0, none⟩ = some (.int .i64 v.kind) := HX.out 0 _ rfl
          have c5 : wB.cell? ⟨W.heap.size, 5, none⟩ = some (.string (S v.topic)) := HX.out 5 _ rfl
          have c6 : wB.cell? ⟨W.heap.size, 6, none⟩ = some (.string (S v.group)) := HX.out 6 _ rfl
          rw [hk] at c0
          go_wp2_with fail
          go_ret
          rw [HT.out]
          exact ⟨rfl, HB.out⟩
        | true =>
          have c0 : wB.cell? ⟨W.heap.size, 0, none⟩ = some (.int .i64 v.kind) := HX.out 0 _ rfl
          have c5 : wB.cell? ⟨W.heap.size, 5, none⟩ = some (.string (S v.topic)) := HX.out 5 _ rfl
          have c6 : wB.cell? ⟨W.heap.size, 6, none⟩ = some (.string (S v.group)) := HX.out 6 _ rfl
          rw [hk] at c0
          have HTP := Lib.hid (fun w => NameW.rtopic_any v.topic (by have := HSM.out.topic; omega) w)
          generalize topicL v.topic = tb at *
          go_wp2_with fail
          refine (HTP.out _).mono ?_
          rintro e wC ⟨rfl, hd⟩
          have hb := hd.below wB.heap.size
          clear hd c0 c5 c6 HTP
          replace HX := Lib.hid (HX.out.below hb)
          replace HIN := Lib.hid (HIN.out.below hb)
          replace HB := Lib.hid (HB.out.trans (hb.mono HB.out.size))
          clear hb
          have c0 : wC.cell? ⟨W.heap.size, 0, none⟩ = some (.int .i64 v.kind) := HX.out 0 _ rfl
          have c5 : wC.cell? ⟨W.heap.size, 5, none⟩ = some (.string (S v.topic)) := HX.out 5 _ rfl
          have c6 : wC.cell? ⟨W.heap.size, 6, none⟩ = some (.string (S v.group)) := HX.out 6 _ rfl
          rw [hk] at c0
          cases tb with
          | false =>
            have HT : Hid (RR = []) := by show _ = _; rw [← HRR.out, HC.out]; rfl
            go_wp2_with fail
            go_ret
            rw [HT.out]
            exact ⟨rfl, HB.out⟩
          | true =>
            have HT : Hid (S RR = S (lineS v 1)) := by show _ = _; rw [← HRR.out, HC.out]; rfl
            go_wp2_with fail
            go_ret
            rw [HT.out]
            exact ⟨rfl, HB.out⟩

        skip
end Go.Proofs.YtadhkeboaapfcaaGreatDoor.EvW
namespace Go.Proofs.YtadhkeboaapfcaaGreatDoor.EvW
open Go.RowKit OctMath NameMath HexMath
set_option linter.unusedVariables false
set_option linter.unusedSimpArgs false
set_option maxRecDepth 100000


set_option maxHeartbeats 12800000 in
theorem line_9 (v : Ev) (s : EvS) (hsm : EvOk v) (hi : EvI v) (W : World) (hin : EvIn W v s) (hcap : v.tags.length ≤ s.tc) (hk : v.kind = 9) (hg : guardB v = true) (hbk : v.keys.any badK = false) :
    Calls Tryz.prog 10 #[.agg (v.cells s)] W fun e w' => e = .returned (.string (S (if condB v 9 then lineS v 9 else []))) ∧ Below W.heap.size W w' := by
  generalize hRR : (if condB v 9 then lineS v 9 else []) = RR
  have HRR := Lib.hid hRR
  clear hRR
  have HP := Lib.hid (guard_parts hg)
  have HK := Lib.hid hbk
  have HG := Lib.hid hg
  have HSM := Lib.hid hsm
  have HI := Lib.hid hi
  have HB : Hid (Below W.heap.size W (W.alloc (.cells (v.cells s) 25))) := (Below.refl _ W).alloc (Nat.le_refl _) _
  have HIN := Lib.hid (hin.below HB.out)
  have HX : Hid (Boxed (W.alloc (.cells (v.cells s) 25)) W.heap.size (v.cells s)) := Boxed.new W _ _
  have hcv : (v.cells s).size = 14 := rfl
  have hsz := S_size
  clear hsm hi hin hg hbk
  go_enter Tryz.func10, Tryz.ntmps10
  go_upto_region 1 with fail
  generalize (W.alloc (.cells (v.cells s) 25)) = w1 at *
  clear hcv
  have c0 : w1.cell? ⟨W.heap.size, 0, none⟩ = some (.int .i64 v.kind) := HX.out 0 _ rfl
  have c1 : w1.cell? ⟨W.heap.size, 1, none⟩ = some (.int .i64 v.queue) := HX.out 1 _ rfl
  have c2 : w1.cell? ⟨W.heap.size, 2, none⟩ = some (.int .i64 v.n) := HX.out 2 _ rfl
  have c3 : w1.cell? ⟨W.heap.size, 3, none⟩ = some (.int .i64 v.aat) := HX.out 3 _ rfl
  have c4 : w1.cell? ⟨W.heap.size, 4, none⟩ = some (.int .i64 v.lack) := HX.out 4 _ rfl
  rw [hk] at c0
  have HNB := Lib.hid (small_any (some ⟨w1.heap.size, 0, none⟩) 4 [v.queue, v.n, v.aat, v.lack] (by simp))
  rw [HP.out.1] at HNB
  go_wp2_with fail
  refine (HNB.out _ ?nrow).mono ?_
  case nrow => exact fun i hi => ⟨_, 0, rfl, by rw [World.cell?_alloc_new]; match i, hi with | 0, _ => rfl | 1, _ => rfl | 2, _ => rfl | 3, _ => rfl⟩
  rintro e w2 ⟨rfl, hd⟩
  have hb : Below w1.heap.size w1 w2 := ((Below.refl _ w1).alloc (Nat.le_refl _) _).trans (hd.below _)
  clear hd c0 c1 c2 c3 c4 HNB
  replace HX := Lib.hid (HX.out.below hb)
  replace HIN := Lib.hid (HIN.out.below hb)
  replace HB := Lib.hid (HB.out.trans (hb.mono HB.out.size))
  clear hb
  have c7 : w2.cell? ⟨W.heap.size, 7, none⟩ = some (.string (S v.tag)) := HX.out 7 _ rfl
  have HTG := Lib.hid (fun w => NameW.rtag_any v.tag (by have := HSM.out.tag; omega) w)
  rw [HP.out.2.1] at HTG
  go_wp2_with fail
  refine (HTG.out _).mono ?_
  rintro e w3 ⟨rfl, hd⟩
  have hb := hd.below w2.heap.size
  clear hd c7 HTG
  replace HX := Lib.hid (HX.out.below hb)
  replace HIN := Lib.hid (HIN.out.below hb)
  replace HB := Lib.hid (HB.out.trans (hb.mono HB.out.size))
  clear hb
  have c8 : w3.cell? ⟨W.heap.size, 8, none⟩ = some (.string (S v.key)) := HX.out 8 _ rfl
  have c9 : w3.cell? ⟨W.heap.size, 9, none⟩ = some (.string (S v.body)) := HX.out 9 _ rfl
  have c10 : w3.cell? ⟨W.heap.size, 10, none⟩ = some (.slice s.ka v.keys.length s.kc) := HX.out 10 _ rfl
  have c11 : w3.cell? ⟨W.heap.size, 11, none⟩ = some (.slice s.ta v.tags.length s.tc) := HX.out 11 _ rfl
  have c12 : w3.cell? ⟨W.heap.size, 12, none⟩ = some (.slice s.pa v.keep.length s.pc) := HX.out 12 _ rfl
  have HFL := Lib.hid (fun w h => lfilter_any s.ta s.tc v.tags (by have := HSM.out.tags; omega) hcap HSM.out.tagsz w h)
  rw [HP.out.2.2.1] at HFL
  go_wp2_with fail
  refine (HFL.out _ HIN.out.tags).mono ?_
  rintro e w4 ⟨rfl, hd⟩
  have hb := hd.below w3.heap.size
  clear hd c8 c9 c10 c11 c12 HFL
  replace HX := Lib.hid (HX.out.below hb)
  replace HIN := Lib.hid (HIN.out.below hb)
  replace HB := Lib.hid (HB.out.trans (hb.mono HB.out.size))
  clear hb
  have c8 : w4.cell? ⟨W.heap.size, 8, none⟩ = some (.string (S v.key)) := HX.out 8 _ rfl
  have c9 : w4.cell? ⟨W.heap.size, 9, none⟩ = some (.string (S v.body)) := HX.out 9 _ rfl
  have c10 : w4.cell? ⟨W.heap.size, 10, none⟩ = some (.slice s.ka v.keys.length s.kc) := HX.out 10 _ rfl
  have c12 : w4.cell? ⟨W.heap.size, 12, none⟩ = some (.slice s.pa v.keep.length s.pc) := HX.out 12 _ rfl
  have hp1 := HP.out.2.2.2.1
  have hp2 := HP.out.2.2.2.2.1
  have hp3 := HP.out.2.2.2.2.2.1
  have hp4 := HP.out.2.2.2.2.2.2
  have g1 : decide (300 < (v.body.length : Int)) = false := decide_eq_false (by omega)
  have g2 : decide (300 < (v.key.length : Int)) = false := decide_eq_false (by omega)
  have g3 : decide (10 < (v.keys.length : Int)) = false := decide_eq_false (by omega)
  have g4 : decide (100 < (v.keep.length : Int)) = false := decide_eq_false (by omega)
  go_wp2_with fail
  clear g1 g2 g3 g4
  have HKL : Hid (Row1 w4 s.ka (v.keys.map fun x => .string (S x))) := row_strs HIN.out.keys
  have htl := NameW.S_toList
  go_loopw [74] (fun i wr => ∃ k : Nat, k ≤ v.keys.length ∧ i = .int .i64 (k : Int) ∧ wr = w4) (fun i _ => v.keys.length + 1 - (intOf i).toNat)
  case atStart => exact ⟨0, by omega, rfl, rfl⟩
  case round =>
    obtain ⟨k, hkk, rfl, rfl⟩ := hrel
    by_cases hlt : k < v.keys.length
    · obtain ⟨b, off, hbo, hcell⟩ := HKL.out k (by rw [List.length_map]; exact hlt)
      rw [List.getElem_map] at hcell
      have hgood := key_good HK.out (List.getElem_mem hlt)
      generalize v.keys[k] = x at *
      have hxe : (x == []) = false := by simp [hgood.1]
      have hx3 := hgood.2
      clear hgood c8 c9 c10 c12
      rw [hbo] at *
      go_wp2_with fail
      go_roundw
      case rel => exact ⟨k + 1, by omega, by go_num, trivial⟩
      case measure => simp [intOf]; omega
    · obtain rfl : k = v.keys.length := by omega
      clear HKL c8 c9 c10 c12 hlt hkk
      have c0 : wr.cell? ⟨W.heap.size, 0, none⟩ = some (.int .i64 v.kind) := HX.out 0 _ rfl
      have c1 : wr.cell? ⟨W.heap.size, 1, none⟩ = some (.int .i64 v.queue) := HX.out 1 _ rfl
      have c2 : wr.cell? ⟨W.heap.size, 2, none⟩ = some (.int .i64 v.n) := HX.out 2 _ rfl
      have c3 : wr.cell? ⟨W.heap.size, 3, none⟩ = some (.int .i64 v.aat) := HX.out 3 _ rfl
      have c4 : wr.cell? ⟨W.heap.size, 4, none⟩ = some (.int .i64 v.lack) := HX.out 4 _ rfl
      have c5 : wr.cell? ⟨W.heap.size, 5, none⟩ = some (.string (S v.topic)) := HX.out 5 _ rfl
      have c6 : wr.cell? ⟨W.heap.size, 6, none⟩ = some (.string (S v.group)) := HX.out 6 _ rfl
      have c7 : wr.cell? ⟨W.heap.size, 7, none⟩ = some (.string (S v.tag)) := HX.out 7 _ rfl
      have c8 : wr.cell? ⟨W.heap.size, 8, none⟩ = some (.string (S v.key)) := HX.out 8 _ rfl
      have c9 : wr.cell? ⟨W.heap.size, 9, none⟩ = some (.string (S v.body)) := HX.out 9 _ rfl
      have c10 : wr.cell? ⟨W.heap.size, 10, none⟩ = some (.slice s.ka v.keys.length s.kc) := HX.out 10 _ rfl
      have c11 : wr.cell? ⟨W.heap.size, 11, none⟩ = some (.slice s.ta v.tags.length s.tc) := HX.out 11 _ rfl
      have c12 : wr.cell? ⟨W.heap.size, 12, none⟩ = some (.slice s.pa v.keep.length s.pc) := HX.out 12 _ rfl
      have c13 : wr.cell? ⟨W.heap.size, 13, none⟩ = some (.bool v.sync) := HX.out 13 _ rfl
      rw [hk] at c0
      have hdq : ∀ (x : Int), (-9223372036854775808 ≤ x ∧ x ≤ 9223372036854775807) → ∀ (w : World) (n : Nat), Calls Tryz.prog 17 #[.int .i64 x] (w.drewN n) fun e w'' => e = .returned (.string (S (Lib.itoa x))) ∧ ∃ m, w'' = w.drewN m := fun x hx w n => (digits_any x hx.1 hx.2 _).mono fun _ _ h => ⟨h.1, n, h.2⟩
      have HDQ1 := Lib.hid (hdq v.queue HI.out.queue)
      have HDQ2 := Lib.hid (hdq v.n HI.out.n)
      have HDQ3 := Lib.hid (hdq v.aat HI.out.aat)
      have HDQ4 := Lib.hid (hdq v.lack HI.out.lack)
      clear hdq
      have hz := part_sizes HSM.out HI.out HG.out HK.out
      have hz1 := hz.1
      have hz2 := hz.2.1
      have hz3 := hz.2.2.1
      have hz4 := hz.2.2.2.1
      have hz5 := hz.2.2.2.2.1
      have hz6 := hz.2.2.2.2.2.1
      have hz7 := hz.2.2.2.2.2.2.1
      have hz8 := hz.2.2.2.2.2.2.2.1
      have hz9 := hz.2.2.2.2.2.2.2.2
      clear hz
      have HKS : Hid (∀ (n : Nat), Calls Tryz.prog 29 #[.slice s.ka v.keys.length s.kc] (wr.drewN n) fun e w'' => e = .returned (.string (S (keysL v.keys))) ∧ ∃ m, w'' = wr.drewN m) := fun n => quiet_drawn (keys30_any s.ka s.kc v.keys (by have := HP.out.2.2.2.2.2.1; omega) (fun t ht => by have := (key_good HK.out ht).2; omega) _ (HIN.out.keys.below (Drawn.below ⟨n, rfl⟩ _)))
      have HTS : Hid (∀ (w : World) (n : Nat), Calls Tryz.prog 28 #[.string (S v.tag)] (w.drewN n) fun e w'' => e = .returned (.string (S (tagW v))) ∧ ∃ m, w'' = w.drewN m) := fun w n => (tag30_any v.tag _).mono fun _ _ h => ⟨h.1, n, h.2⟩
      have HHB : Hid (∀ (w : World) (n : Nat), Calls Tryz.prog 15 #[.string (S v.body)] (w.drewN n) fun e w'' => e = .returned (.string (S (hexL v.body))) ∧ ∃ m, w'' = w.drewN m) := fun w n => quiet_drawn (LinW.rhex_any v.body (by have := HP.out.2.2.2.1; omega) _)
      clear hsz htl hp1 hp2 hp3 hp4
      generalize hsy0 : v.sync = sy at c13
      cases sy
      all_goals
        go_wp2_with fail
        go_quiet (first | (go_at_call_of 17 (Value.int .i64 v.queue); exact HDQ1.out _ _) | (go_at_call_of 17 (Value.int .i64 v.n); exact HDQ2.out _ _) | (go_at_call_of 17 (Value.int .i64 v.aat); exact HDQ3.out _ _) | (go_at_call_of 17 (Value.int .i64 v.lack); exact HDQ4.out _ _) | (go_at_call 28; exact HTS.out _ _) | (go_at_call 29; exact HKS.out _) | (go_at_call 15; exact HHB.out _ _))
        obtain ⟨wq, hwq⟩ : ∃ wz, wr.drewN nq = wz := ⟨_, rfl⟩
        rw [hwq]
        have hd : Drawn wr wq := ⟨nq, hwq.symm⟩
        have hb := hd.below wr.heap.size
        clear hwq hd c0 c1 c2 c3 c4 c5 c6 c7 c8 c9 c10 c11 c12 c13
        replace HX := Lib.hid (HX.out.below hb)
        replace HIN := Lib.hid (HIN.out.below hb)
        replace HB := Lib.hid (HB.out.trans (hb.mono HB.out.size))
        clear hb
        first
        | rw [send_f hsy0]
        | rw [send_t hsy0]
        have c0 : wq.cell? ⟨W.heap.size, 0, none⟩ = some (.int .i64 v.kind) := HX.out 0 _ rfl
        have c1 : wq.cell? ⟨W.heap.size, 1, none⟩ = some (.int .i64 v.queue) := HX.out 1 _ rfl
        have c3 : wq.cell? ⟨W.heap.size, 3, none⟩ = some (.int .i64 v.aat) := HX.out 3 _ rfl
        have c5 : wq.cell? ⟨W.heap.size, 5, none⟩ = some (.string (S v.topic)) := HX.out 5 _ rfl
        have c6 : wq.cell? ⟨W.heap.size, 6, none⟩ = some (.string (S v.group)) := HX.out 6 _ rfl
        rw [hk] at c0
        go_wp2_with fail
        go_quiet (first | (go_at_call_of 17 (Value.int .i64 v.queue); exact HDQ1.out _ _) | (go_at_call_of 17 (Value.int .i64 v.n); exact HDQ2.out _ _) | (go_at_call_of 17 (Value.int .i64 v.aat); exact HDQ3.out _ _) | (go_at_call_of 17 (Value.int .i64 v.lack); exact HDQ4.out _ _) | (go_at_call 28; exact HTS.out _ _) | (go_at_call 29; exact HKS.out _) | (go_at_call 15; exact HHB.out _ _))
        obtain ⟨wq2, hwq⟩ : ∃ wz, wq.drewN nq = wz := ⟨_, rfl⟩
        rw [hwq]
        have hd : Drawn wq wq2 := ⟨nq, hwq.symm⟩
        have hb := hd.below wq.heap.size
        clear hwq hd c0 c1 c3 c5 c6
        replace HX := Lib.hid (HX.out.below hb)
        replace HIN := Lib.hid (HIN.out.below hb)
        replace HB := Lib.hid (HB.out.trans (hb.mono HB.out.size))
        clear hb
        rw [group_eq v]
        have c0 : wq2.cell? ⟨W.heap.size, 0, none⟩ = some (.int .i64 v.kind) := HX.out 0 _ rfl
        rw [hk] at c0
        go_upto_region 17 with fail
        clear c0
        have HT10 : Hid ((wq2.alloc (.cells #[.int .i64 9, .int .i64 0, .int .i64 0, .int .i64 0, .int .i64 0, .string ⟨#[]⟩, .string ⟨#[]⟩, .string ⟨#[]⟩, .string ⟨#[]⟩, .string ⟨#[]⟩, .slice none 0 0, .slice none 0 0, .slice none 0 0, .bool false] 25)).heap[wq2.heap.size]? = some (.cells ((ev0 9).cells evs0) 25 (0, 0))) := World.alloc_heap_new _ _
        have hb : Below wq2.heap.size wq2 (wq2.alloc (.cells #[.int .i64 9, .int .i64 0, .int .i64 0, .int .i64 0, .int .i64 0, .string ⟨#[]⟩, .string ⟨#[]⟩, .string ⟨#[]⟩, .string ⟨#[]⟩, .string ⟨#[]⟩, .slice none 0 0, .slice none 0 0, .slice none 0 0, .bool false] 25)) := (Below.refl _ _).alloc (Nat.le_refl _) _
        have hB10 : W.heap.size < wq2.heap.size := by have := HX.out 0 _ rfl; exact cell_lt this
        obtain ⟨wA, hwA⟩ : ∃ wA, (wq2.alloc (.cells #[.int .i64 9, .int .i64 0, .int .i64 0, .int .i64 0, .int .i64 0, .string ⟨#[]⟩, .string ⟨#[]⟩, .string ⟨#[]⟩, .string ⟨#[]⟩, .string ⟨#[]⟩, .slice none 0 0, .slice none 0 0, .slice none 0 0, .bool false] 25)) = wA := ⟨_, rfl⟩
        rw [hwA] at HT10 hb ⊢
        generalize hB10e : wq2.heap.size = B10 at HT10 hb hB10 ⊢
        clear hwA
        have HBL := Lib.hid hb
        have HXq := HX
        have HINq := HIN
        have HBq := HB
        have HBE := Lib.hid hB10e
        replace HX := Lib.hid (HX.out.below (hB10e ▸ hb))
        replace HIN := Lib.hid (HIN.out.below (hB10e ▸ hb))
        replace HB := Lib.hid (HB.out.trans (hb.mono (by omega)))
        clear hb hB10e
        have c0 : wA.cell? ⟨W.heap.size, 0, none⟩ = some (.int .i64 v.kind) := HX.out 0 _ rfl
        rw [hk] at c0
        go_upto_region 41 with fail
        clear c0
        have c2 : wA.cell? ⟨W.heap.size, 2, none⟩ = some (.int .i64 v.n) := HX.out 2 _ rfl
        have c5 : wA.cell? ⟨W.heap.size, 5, none⟩ = some (.string (S v.topic)) := HX.out 5 _ rfl
        have c8 : wA.cell? ⟨W.heap.size, 8, none⟩ = some (.string (S v.key)) := HX.out 8 _ rfl
        have hz9 := HT10.out
        have d2 : wA.cell? ⟨B10, 2, none⟩ = some (.int .i64 0) := by unfold World.cell?; rw [show wA.heap[(⟨B10, 2, none⟩ : Addr).block]? = _ from hz9]; rfl
        have d5 : wA.cell? ⟨B10, 5, none⟩ = some (.string (S [])) := by unfold World.cell?; rw [show wA.heap[(⟨B10, 5, none⟩ : Addr).block]? = _ from hz9]; rfl
        have d8 : wA.cell? ⟨B10, 8, none⟩ = some (.string (S [])) := by unfold World.cell?; rw [show wA.heap[(⟨B10, 8, none⟩ : Addr).block]? = _ from hz9]; rfl
        have hfr : ∀ j, wA.frozen? ⟨B10, j, none⟩ = false := fun j => by unfold World.frozen?; rw [show wA.heap[(⟨B10, j, none⟩ : Addr).block]? = _ from hz9]; rfl
        clear hz9
        go_region
        obtain ⟨wN, hwwN⟩ : ∃ wz, (((wA.setCell ⟨B10, 5, none⟩ (.string (S v.topic))).setCell ⟨B10, 8, none⟩ (.string (S v.key))).setCell ⟨B10, 2, none⟩ (.int .i64 v.n)).drew = wz := ⟨_, rfl⟩
        rw [hwwN]
        have HTwN : Hid (wN.heap[B10]? = some (.cells #[.int .i64 9, .int .i64 0, .int .i64 v.n, .int .i64 0, .int .i64 0, .string (S v.topic), .string (S []), .string (S []), .string (S v.key), .string (S []), .slice none 0 0, .slice none 0 0, .slice none 0 0, .bool false] 25 (0, 0))) := by
          have h0 : wA.heap[B10]? = some (.cells #[.int .i64 9, .int .i64 0, .int .i64 0, .int .i64 0, .int .i64 0, .string (S []), .string (S []), .string (S []), .string (S []), .string (S []), .slice none 0 0, .slice none 0 0, .slice none 0 0, .bool false] 25 (0, 0)) := HT10.out
          have h1 := heap_setCell_same _ B10 5 _ _ (.string (S v.topic)) h0
          simp only [List.setIfInBounds_toArray, List.set_cons_zero, List.set_cons_succ] at h1
          have h2 := heap_setCell_same _ B10 8 _ _ (.string (S v.key)) h1
          simp only [List.setIfInBounds_toArray, List.set_cons_zero, List.set_cons_succ] at h2
          have h3 := heap_setCell_same _ B10 2 _ _ (.int .i64 v.n) h2
          simp only [List.setIfInBounds_toArray, List.set_cons_zero, List.set_cons_succ] at h3
          show wN.heap[B10]? = _
          rw [← hwwN]
          exact h3
        have hb : Below B10 wq2 wN := by rw [← hwwN]; exact (((HBL.out.setCell (p := ⟨B10, 5, none⟩) (Nat.le_refl _) _).setCell (p := ⟨B10, 8, none⟩) (Nat.le_refl _) _).setCell (p := ⟨B10, 2, none⟩) (Nat.le_refl _) _).drew
        clear hwwN
        replace HX := Lib.hid (HXq.out.below (HBE.out ▸ hb))
        replace HIN := Lib.hid (HINq.out.below (HBE.out ▸ hb))
        replace HB := Lib.hid (HBq.out.trans (hb.mono (Nat.le_of_lt hB10)))
        have HBN := Lib.hid hb
        clear hb HT10 HBL c2 c5 c8 d2 d5 d8 hfr wA
        have HHK : Hid (∀ (w : World) (n : Nat), Calls Tryz.prog 15 #[.string (S v.key)] (w.drewN n) fun e w'' => e = .returned (.string (S (hexL v.key))) ∧ ∃ m, w'' = w.drewN m) := fun w n => quiet_drawn (LinW.rhex_any v.key (by have := HP.out.2.2.2.2.1; omega) _)
        have hzf := hexk_size HG.out
        have c0 : wN.cell? ⟨W.heap.size, 0, none⟩ = some (.int .i64 v.kind) := HX.out 0 _ rfl
        have c2 : wN.cell? ⟨W.heap.size, 2, none⟩ = some (.int .i64 v.n) := HX.out 2 _ rfl
        have c5 : wN.cell? ⟨W.heap.size, 5, none⟩ = some (.string (S v.topic)) := HX.out 5 _ rfl
        have c8 : wN.cell? ⟨W.heap.size, 8, none⟩ = some (.string (S v.key)) := HX.out 8 _ rfl
        rw [hk] at c0
        go_wp2_with fail
        go_quiet (first | (go_at_call_of 17 (Value.int .i64 v.n); exact HDQ2.out _ _) | (go_at_call 15; exact HHK.out _ _))
        have HTN2 : Hid ((wN.drewN nq).heap[B10]? = _) := HTwN.out
        obtain ⟨wA, hwq⟩ : ∃ wz, wN.drewN nq = wz := ⟨_, rfl⟩
        rw [hwq] at HTN2 ⊢
        have hd : Drawn wN wA := ⟨nq, hwq.symm⟩
        have hb := hd.below wN.heap.size
        clear hwq hd c0 c2 c5 c8 HTwN
        replace HX := Lib.hid (HX.out.below hb)
        replace HIN := Lib.hid (HIN.out.below hb)
        replace HB := Lib.hid (HB.out.trans (hb.mono HB.out.size))
        clear hb
        have HTW := HTN2
        clear HTN2
        clear hzf
        clear HXq HINq HBq HBN
        have c0 : wA.cell? ⟨W.heap.size, 0, none⟩ = some (.int .i64 v.kind) := HX.out 0 _ rfl
        rw [hk] at c0
        go_upto_region 56 with fail
        clear c0
        have c0 : wA.cell? ⟨W.heap.size, 0, none⟩ = some (.int .i64 v.kind) := HX.out 0 _ rfl
        have c1 : wA.cell? ⟨W.heap.size, 1, none⟩ = some (.int .i64 v.queue) := HX.out 1 _ rfl
        have c2 : wA.cell? ⟨W.heap.size, 2, none⟩ = some (.int .i64 v.n) := HX.out 2 _ rfl
        have c3 : wA.cell? ⟨W.heap.size, 3, none⟩ = some (.int .i64 v.aat) := HX.out 3 _ rfl
        have c4 : wA.cell? ⟨W.heap.size, 4, none⟩ = some (.int .i64 v.lack) := HX.out 4 _ rfl
        have c5 : wA.cell? ⟨W.heap.size, 5, none⟩ = some (.string (S v.topic)) := HX.out 5 _ rfl
        have c6 : wA.cell? ⟨W.heap.size, 6, none⟩ = some (.string (S v.group)) := HX.out 6 _ rfl
        have c7 : wA.cell? ⟨W.heap.size, 7, none⟩ = some (.string (S v.tag)) := HX.out 7 _ rfl
        have c8 : wA.cell? ⟨W.heap.size, 8, none⟩ = some (.string (S v.key)) := HX.out 8 _ rfl
        have c9 : wA.cell? ⟨W.heap.size, 9, none⟩ = some (.string (S v.body)) := HX.out 9 _ rfl
        have c10 : wA.cell? ⟨W.heap.size, 10, none⟩ = some (.slice s.ka v.keys.length s.kc) := HX.out 10 _ rfl
        have c11 : wA.cell? ⟨W.heap.size, 11, none⟩ = some (.slice s.ta v.tags.length s.tc) := HX.out 11 _ rfl
        have c12 : wA.cell? ⟨W.heap.size, 12, none⟩ = some (.slice s.pa v.keep.length s.pc) := HX.out 12 _ rfl
        have c13 : wA.cell? ⟨W.heap.size, 13, none⟩ = some (.bool v.sync) := HX.out 13 _ rfl
        rw [hk] at c0
        have hz9 := HTW.out
        have d0 : wA.cell? ⟨B10, 0, none⟩ = some (.int .i64 9) := by unfold World.cell?; rw [show wA.heap[(⟨B10, 0, none⟩ : Addr).block]? = _ from hz9]; rfl
        have d1 : wA.cell? ⟨B10, 1, none⟩ = some (.int .i64 0) := by unfold World.cell?; rw [show wA.heap[(⟨B10, 1, none⟩ : Addr).block]? = _ from hz9]; rfl
        have d2 : wA.cell? ⟨B10, 2, none⟩ = some (.int .i64 v.n) := by unfold World.cell?; rw [show wA.heap[(⟨B10, 2, none⟩ : Addr).block]? = _ from hz9]; rfl
        have d3 : wA.cell? ⟨B10, 3, none⟩ = some (.int .i64 0) := by unfold World.cell?; rw [show wA.heap[(⟨B10, 3, none⟩ : Addr).block]? = _ from hz9]; rfl
        have d4 : wA.cell? ⟨B10, 4, none⟩ = some (.int .i64 0) := by unfold World.cell?; rw [show wA.heap[(⟨B10, 4, none⟩ : Addr).block]? = _ from hz9]; rfl
        have d5 : wA.cell? ⟨B10, 5, none⟩ = some (.string (S v.topic)) := by unfold World.cell?; rw [show wA.heap[(⟨B10, 5, none⟩ : Addr).block]? = _ from hz9]; rfl
        have d6 : wA.cell? ⟨B10, 6, none⟩ = some (.string (S [])) := by unfold World.cell?; rw [show wA.heap[(⟨B10, 6, none⟩ : Addr).block]? = _ from hz9]; rfl
        have d7 : wA.cell? ⟨B10, 7, none⟩ = some (.string (S [])) := by unfold World.cell?; rw [show wA.heap[(⟨B10, 7, none⟩ : Addr).block]? = _ from hz9]; rfl
        have d8 : wA.cell? ⟨B10, 8, none⟩ = some (.string (S v.key)) := by unfold World.cell?; rw [show wA.heap[(⟨B10, 8, none⟩ : Addr).block]? = _ from hz9]; rfl
        have d9 : wA.cell? ⟨B10, 9, none⟩ = some (.string (S [])) := by unfold World.cell?; rw [show wA.heap[(⟨B10, 9, none⟩ : Addr).block]? = _ from hz9]; rfl
        have d10 : wA.cell? ⟨B10, 10, none⟩ = some (.slice none 0 0) := by unfold World.cell?; rw [show wA.heap[(⟨B10, 10, none⟩ : Addr).block]? = _ from hz9]; rfl
        have d11 : wA.cell? ⟨B10, 11, none⟩ = some (.slice none 0 0) := by unfold World.cell?; rw [show wA.heap[(⟨B10, 11, none⟩ : Addr).block]? = _ from hz9]; rfl
        have d12 : wA.cell? ⟨B10, 12, none⟩ = some (.slice none 0 0) := by unfold World.cell?; rw [show wA.heap[(⟨B10, 12, none⟩ : Addr).block]? = _ from hz9]; rfl
        have d13 : wA.cell? ⟨B10, 13, none⟩ = some (.bool false) := by unfold World.cell?; rw [show wA.heap[(⟨B10, 13, none⟩ : Addr).block]? = _ from hz9]; rfl
        clear hz9
        have hwo : EvOk (wantE v 9) := ⟨HSM.out.topic, Nat.zero_le _, Nat.zero_le _, HSM.out.key, Nat.zero_le _, Nat.zero_le _, Nat.zero_le _, Nat.zero_le _, fun t ht => (by cases ht), fun t ht => (by cases ht)⟩
        have hwi : EvIn wA (wantE v 9) ⟨none, 0, none, 0, none, 0⟩ := ⟨fun i hi => absurd hi (Nat.not_lt_zero _), fun i hi => absurd hi (Nat.not_lt_zero _), fun i hi => absurd hi (Nat.not_lt_zero _)⟩
        have HSC := Lib.hid (ev_same v (wantE v 9) s ⟨none, 0, none, 0, none, 0⟩ HSM.out hwo wA HIN.out hwi)
        rw [show v.cells s = #[.int .i64 9, .int .i64 v.queue, .int .i64 v.n, .int .i64 v.aat, .int .i64 v.lack, .string (S v.topic), .string (S v.group), .string (S v.tag), .string (S v.key), .string (S v.body), .slice s.ka v.keys.length s.kc, .slice s.ta v.tags.length s.tc, .slice s.pa v.keep.length s.pc, .bool v.sync] from by unfold Ev.cells; rw [hk], show Ev.cells (wantE v 9) ⟨none, 0, none, 0, none, 0⟩ = #[.int .i64 9, .int .i64 0, .int .i64 v.n, .int .i64 0, .int .i64 0, .string (S v.topic), .string (S []), .string (S []), .string (S v.key), .string (S []), .slice none 0 0, .slice none 0 0, .slice none 0 0, .bool false] from rfl] at HSC
        rw [hsy0] at HSC
        clear hwo hwi
        go_wp2_with fail
        refine HSC.out.mono ?_
        rintro e wB ⟨rfl, hb⟩
        clear c0 c1 c2 c3 c4 c5 c6 c7 c8 c9 c10 c11 c12 c13 d0 d1 d2 d3 d4 d5 d6 d7 d8 d9 d10 d11 d12 d13 HSC HTW
        replace HX := Lib.hid (HX.out.below hb)
        replace HIN := Lib.hid (HIN.out.below hb)
        replace HB := Lib.hid (HB.out.trans (hb.mono HB.out.size))
        clear hb
        have HC : Hid (condB v 9 = (sameE v (wantE v 9) && topicL v.topic && true)) := by show _ = _; unfold condB; rfl
        generalize sameE v (wantE v 9) = sb at *
        cases sb with
        | false =>
          have HT : Hid (RR = []) := by show _ = _; rw [← HRR.out, HC.out]; rfl
          have c0 : wB.cell? ⟨W.heap.size, 0, none⟩ = some (.int .i64 v.kind) := HX.out 0 _ rfl
          have c5 : wB.cell? ⟨W.heap.size, 5, none⟩ = some (.string (S v.topic)) := HX.out 5 _ rfl
          have c6 : wB.cell? ⟨W.heap.size, 6, none⟩ = some (.string (S v.group)) := HX.out 6 _ rfl
          rw [hk] at c0
          go_wp2_with fail
          go_ret
          rw [HT.out]
          exact ⟨rfl, HB.out⟩
        | true =>
          have c0 : wB.cell? ⟨W.heap.size, 0, none⟩ = some (.int .i64 v.kind) := HX.out 0 _ rfl
          have c5 : wB.cell? ⟨W.heap.size, 5, none⟩ = some (.string (S v.topic)) := HX.out 5 _ rfl
          have c6 : wB.cell? ⟨W.heap.size, 6, none⟩ = some (.string (S v.group)) := HX.out 6 _ rfl
          rw [hk] at c0
          have HTP := Lib.hid (fun w => NameW.rtopic_any v.topic (by have := HSM.out.topic; omega) w)
          generalize topicL v.topic = tb at *
          go_wp2_with fail
          refine (HTP.out _).mono ?_
          rintro e wC ⟨rfl, hd⟩
          have hb := hd.below wB.heap.size
          clear hd c0 c5 c6 HTP
          replace HX := Lib.hid (HX.out.below hb)
          replace HIN := Lib.hid (HIN.out.below hb)
          replace HB := Lib.hid (HB.out.trans (hb.mono HB.out.size))
          clear hb
          have c0 : wC.cell? ⟨W.heap.size, 0, none⟩ = some (.int .i64 v.kind) := HX.out 0 _ rfl
          have c5 : wC.cell? ⟨W.heap.size, 5, none⟩ = some (.string (S v.topic)) := HX.out 5 _ rfl
          have c6 : wC.cell? ⟨W.heap.size, 6, none⟩ = some (.string (S v.group)) := HX.out 6 _ rfl
          rw [hk] at c0
          cases tb with
          | false =>
            have HT : Hid (RR = []) := by show _ = _; rw [← HRR.out, HC.out]; rfl
            go_wp2_with fail
            go_ret
            rw [HT.out]
            exact ⟨rfl, HB.out⟩
          | true =>
            have HT : Hid (S RR = S (lineS v 9)) := by show _ = _; rw [← HRR.out, HC.out]; rfl
            go_wp2_with fail
            go_ret
            rw [HT.out]
            exact ⟨rfl, HB.out⟩

        skip
end Go.Proofs.YtadhkeboaapfcaaGreatDoor.EvW
namespace Go.Proofs.YtadhkeboaapfcaaGreatDoor.EvW
open Go.RowKit OctMath NameMath HexMath
set_option linter.unusedVariables false
set_option linter.unusedSimpArgs false
set_option maxRecDepth 100000


set_option maxHeartbeats 12800000 in
theorem line_14 (v : Ev) (s : EvS) (hsm : EvOk v) (hi : EvI v) (W : World) (hin : EvIn W v s) (hcap : v.tags.length ≤ s.tc) (hk : v.kind = 14) (hg : guardB v = true) (hbk : v.keys.any badK = false) :
    Calls Tryz.prog 10 #[.agg (v.cells s)] W fun e w' => e = .returned (.string (S (if condB v 14 then lineS v 14 else []))) ∧ Below W.heap.size W w' := by
  generalize hRR : (if condB v 14 then lineS v 14 else []) = RR
  have HRR := Lib.hid hRR
  clear hRR
  have HP := Lib.hid (guard_parts hg)
  have HK := Lib.hid hbk
  have HG := Lib.hid hg
  have HSM := Lib.hid hsm
  have HI := Lib.hid hi
  have HB : Hid (Below W.heap.size W (W.alloc (.cells (v.cells s) 25))) := (Below.refl _ W).alloc (Nat.le_refl _) _
  have HIN := Lib.hid (hin.below HB.out)
  have HX : Hid (Boxed (W.alloc (.cells (v.cells s) 25)) W.heap.size (v.cells s)) := Boxed.new W _ _
  have hcv : (v.cells s).size = 14 := rfl
  have hsz := S_size
  clear hsm hi hin hg hbk
  go_enter Tryz.func10, Tryz.ntmps10
  go_upto_region 1 with fail
  generalize (W.alloc (.cells (v.cells s) 25)) = w1 at *
  clear hcv
  have c0 : w1.cell? ⟨W.heap.size, 0, none⟩ = some (.int .i64 v.kind) := HX.out 0 _ rfl
  have c1 : w1.cell? ⟨W.heap.size, 1, none⟩ = some (.int .i64 v.queue) := HX.out 1 _ rfl
  have c2 : w1.cell? ⟨W.heap.size, 2, none⟩ = some (.int .i64 v.n) := HX.out 2 _ rfl
  have c3 : w1.cell? ⟨W.heap.size, 3, none⟩ = some (.int .i64 v.aat) := HX.out 3 _ rfl
  have c4 : w1.cell? ⟨W.heap.size, 4, none⟩ = some (.int .i64 v.lack) := HX.out 4 _ rfl
  rw [hk] at c0
  have HNB := Lib.hid (small_any (some ⟨w1.heap.size, 0, none⟩) 4 [v.queue, v.n, v.aat, v.lack] (by simp))
  rw [HP.out.1] at HNB
  go_wp2_with fail
  refine (HNB.out _ ?nrow).mono ?_
  case nrow => exact fun i hi => ⟨_, 0, rfl, by rw [World.cell?_alloc_new]; match i, hi with | 0, _ => rfl | 1, _ => rfl | 2, _ => rfl | 3, _ => rfl⟩
  rintro e w2 ⟨rfl, hd⟩
  have hb : Below w1.heap.size w1 w2 := ((Below.refl _ w1).alloc (Nat.le_refl _) _).trans (hd.below _)
  clear hd c0 c1 c2 c3 c4 HNB
  replace HX := Lib.hid (HX.out.below hb)
  replace HIN := Lib.hid (HIN.out.below hb)
  replace HB := Lib.hid (HB.out.trans (hb.mono HB.out.size))
  clear hb
  have c7 : w2.cell? ⟨W.heap.size, 7, none⟩ = some (.string (S v.tag)) := HX.out 7 _ rfl
  have HTG := Lib.hid (fun w => NameW.rtag_any v.tag (by have := HSM.out.tag; omega) w)
  rw [HP.out.2.1] at HTG
  go_wp2_with fail
  refine (HTG.out _).mono ?_
  rintro e w3 ⟨rfl, hd⟩
  have hb := hd.below w2.heap.size
  clear hd c7 HTG
  replace HX := Lib.hid (HX.out.below hb)
  replace HIN := Lib.hid (HIN.out.below hb)
  replace HB := Lib.hid (HB.out.trans (hb.mono HB.out.size))
  clear hb
  have c8 : w3.cell? ⟨W.heap.size, 8, none⟩ = some (.string (S v.key)) := HX.out 8 _ rfl
  have c9 : w3.cell? ⟨W.heap.size, 9, none⟩ = some (.string (S v.body)) := HX.out 9 _ rfl
  have c10 : w3.cell? ⟨W.heap.size, 10, none⟩ = some (.slice s.ka v.keys.length s.kc) := HX.out 10 _ rfl
  have c11 : w3.cell? ⟨W.heap.size, 11, none⟩ = some (.slice s.ta v.tags.length s.tc) := HX.out 11 _ rfl
  have c12 : w3.cell? ⟨W.heap.size, 12, none⟩ = some (.slice s.pa v.keep.length s.pc) := HX.out 12 _ rfl
  have HFL := Lib.hid (fun w h => lfilter_any s.ta s.tc v.tags (by have := HSM.out.tags; omega) hcap HSM.out.tagsz w h)
  rw [HP.out.2.2.1] at HFL
  go_wp2_with fail
  refine (HFL.out _ HIN.out.tags).mono ?_
  rintro e w4 ⟨rfl, hd⟩
  have hb := hd.below w3.heap.size
  clear hd c8 c9 c10 c11 c12 HFL
  replace HX := Lib.hid (HX.out.below hb)
  replace HIN := Lib.hid (HIN.out.below hb)
  replace HB := Lib.hid (HB.out.trans (hb.mono HB.out.size))
  clear hb
  have c8 : w4.cell? ⟨W.heap.size, 8, none⟩ = some (.string (S v.key)) := HX.out 8 _ rfl
  have c9 : w4.cell? ⟨W.heap.size, 9, none⟩ = some (.string (S v.body)) := HX.out 9 _ rfl
  have c10 : w4.cell? ⟨W.heap.size, 10, none⟩ = some (.slice s.ka v.keys.length s.kc) := HX.out 10 _ rfl
  have c12 : w4.cell? ⟨W.heap.size, 12, none⟩ = some (.slice s.pa v.keep.length s.pc) := HX.out 12 _ rfl
  have hp1 := HP.out.2.2.2.1
  have hp2 := HP.out.2.2.2.2.1
  have hp3 := HP.out.2.2.2.2.2.1
  have hp4 := HP.out.2.2.2.2.2.2
  have g1 : decide (300 < (v.body.length : Int)) = false := decide_eq_false (by omega)
  have g2 : decide (300 < (v.key.length : Int)) = false := decide_eq_false (by omega)
  have g3 : decide (10 < (v.keys.length : Int)) = false := decide_eq_false (by omega)
  have g4 : decide (100 < (v.keep.length : Int)) = false := decide_eq_false (by omega)
  go_wp2_with fail
  clear g1 g2 g3 g4
  have HKL : Hid (Row1 w4 s.ka (v.keys.map fun x => .string (S x))) := row_strs HIN.out.keys
  have htl := NameW.S_toList
  go_loopw [74] (fun i wr => ∃ k : Nat, k ≤ v.keys.length ∧ i = .int .i64 (k : Int) ∧ wr = w4) (fun i _ => v.keys.length + 1 - (intOf i).toNat)
  case atStart => exact ⟨0, by omega, rfl, rfl⟩
  case round =>
    obtain ⟨k, hkk, rfl, rfl⟩ := hrel
    by_cases hlt : k < v.keys.length
    · obtain ⟨b, off, hbo, hcell⟩ := HKL.out k (by rw [List.length_map]; exact hlt)
      rw [List.getElem_map] at hcell
      have hgood := key_good HK.out (List.getElem_mem hlt)
      generalize v.keys[k] = x at *
      have hxe : (x == []) = false := by simp [hgood.1]
      have hx3 := hgood.2
      clear hgood c8 c9 c10 c12
      rw [hbo] at *
      go_wp2_with fail
      go_roundw
      case rel => exact ⟨k + 1, by omega, by go_num, trivial⟩
      case measure => simp [intOf]; omega
    · obtain rfl : k = v.keys.length := by omega
      clear HKL c8 c9 c10 c12 hlt hkk
      have c0 : wr.cell? ⟨W.heap.size, 0, none⟩ = some (.int .i64 v.kind) := HX.out 0 _ rfl
      have c1 : wr.cell? ⟨W.heap.size, 1, none⟩ = some (.int .i64 v.queue) := HX.out 1 _ rfl
      have c2 : wr.cell? ⟨W.heap.size, 2, none⟩ = some (.int .i64 v.n) := HX.out 2 _ rfl
      have c3 : wr.cell? ⟨W.heap.size, 3, none⟩ = some (.int .i64 v.aat) := HX.out 3 _ rfl
      have c4 : wr.cell? ⟨W.heap.size, 4, none⟩ = some (.int .i64 v.lack) := HX.out 4 _ rfl
      have c5 : wr.cell? ⟨W.heap.size, 5, none⟩ = some (.string (S v.topic)) := HX.out 5 _ rfl
      have c6 : wr.cell? ⟨W.heap.size, 6, none⟩ = some (.string (S v.group)) := HX.out 6 _ rfl
      have c7 : wr.cell? ⟨W.heap.size, 7, none⟩ = some (.string (S v.tag)) := HX.out 7 _ rfl
      have c8 : wr.cell? ⟨W.heap.size, 8, none⟩ = some (.string (S v.key)) := HX.out 8 _ rfl
      have c9 : wr.cell? ⟨W.heap.size, 9, none⟩ = some (.string (S v.body)) := HX.out 9 _ rfl
      have c10 : wr.cell? ⟨W.heap.size, 10, none⟩ = some (.slice s.ka v.keys.length s.kc) := HX.out 10 _ rfl
      have c11 : wr.cell? ⟨W.heap.size, 11, none⟩ = some (.slice s.ta v.tags.length s.tc) := HX.out 11 _ rfl
      have c12 : wr.cell? ⟨W.heap.size, 12, none⟩ = some (.slice s.pa v.keep.length s.pc) := HX.out 12 _ rfl
      have c13 : wr.cell? ⟨W.heap.size, 13, none⟩ = some (.bool v.sync) := HX.out 13 _ rfl
      rw [hk] at c0
      have hdq : ∀ (x : Int), (-9223372036854775808 ≤ x ∧ x ≤ 9223372036854775807) → ∀ (w : World) (n : Nat), Calls Tryz.prog 17 #[.int .i64 x] (w.drewN n) fun e w'' => e = .returned (.string (S (Lib.itoa x))) ∧ ∃ m, w'' = w.drewN m := fun x hx w n => (digits_any x hx.1 hx.2 _).mono fun _ _ h => ⟨h.1, n, h.2⟩
      have HDQ1 := Lib.hid (hdq v.queue HI.out.queue)
      have HDQ2 := Lib.hid (hdq v.n HI.out.n)
      have HDQ3 := Lib.hid (hdq v.aat HI.out.aat)
      have HDQ4 := Lib.hid (hdq v.lack HI.out.lack)
      clear hdq
      have hz := part_sizes HSM.out HI.out HG.out HK.out
      have hz1 := hz.1
      have hz2 := hz.2.1
      have hz3 := hz.2.2.1
      have hz4 := hz.2.2.2.1
      have hz5 := hz.2.2.2.2.1
      have hz6 := hz.2.2.2.2.2.1
      have hz7 := hz.2.2.2.2.2.2.1
      have hz8 := hz.2.2.2.2.2.2.2.1
      have hz9 := hz.2.2.2.2.2.2.2.2
      clear hz
      have HKS : Hid (∀ (n : Nat), Calls Tryz.prog 29 #[.slice s.ka v.keys.length s.kc] (wr.drewN n) fun e w'' => e = .returned (.string (S (keysL v.keys))) ∧ ∃ m, w'' = wr.drewN m) := fun n => quiet_drawn (keys30_any s.ka s.kc v.keys (by have := HP.out.2.2.2.2.2.1; omega) (fun t ht => by have := (key_good HK.out ht).2; omega) _ (HIN.out.keys.below (Drawn.below ⟨n, rfl⟩ _)))
      have HTS : Hid (∀ (w : World) (n : Nat), Calls Tryz.prog 28 #[.string (S v.tag)] (w.drewN n) fun e w'' => e = .returned (.string (S (tagW v))) ∧ ∃ m, w'' = w.drewN m) := fun w n => (tag30_any v.tag _).mono fun _ _ h => ⟨h.1, n, h.2⟩
      have HHB : Hid (∀ (w : World) (n : Nat), Calls Tryz.prog 15 #[.string (S v.body)] (w.drewN n) fun e w'' => e = .returned (.string (S (hexL v.body))) ∧ ∃ m, w'' = w.drewN m) := fun w n => quiet_drawn (LinW.rhex_any v.body (by have := HP.out.2.2.2.1; omega) _)
      clear hsz htl hp1 hp2 hp3 hp4
      generalize hsy0 : v.sync = sy at c13
      cases sy
      all_goals
        go_wp2_with fail
        go_quiet (first | (go_at_call_of 17 (Value.int .i64 v.queue); exact HDQ1.out _ _) | (go_at_call_of 17 (Value.int .i64 v.n); exact HDQ2.out _ _) | (go_at_call_of 17 (Value.int .i64 v.aat); exact HDQ3.out _ _) | (go_at_call_of 17 (Value.int .i64 v.lack); exact HDQ4.out _ _) | (go_at_call 28; exact HTS.out _ _) | (go_at_call 29; exact HKS.out _) | (go_at_call 15; exact HHB.out _ _))
        obtain ⟨wq, hwq⟩ : ∃ wz, wr.drewN nq = wz := ⟨_, rfl⟩
        rw [hwq]
        have hd : Drawn wr wq := ⟨nq, hwq.symm⟩
        have hb := hd.below wr.heap.size
        clear hwq hd c0 c1 c2 c3 c4 c5 c6 c7 c8 c9 c10 c11 c12 c13
        replace HX := Lib.hid (HX.out.below hb)
        replace HIN := Lib.hid (HIN.out.below hb)
        replace HB := Lib.hid (HB.out.trans (hb.mono HB.out.size))
        clear hb
        first
        | rw [send_f hsy0]
        | rw [send_t hsy0]
        have c0 : wq.cell? ⟨W.heap.size, 0, none⟩ = some (.int .i64 v.kind) := HX.out 0 _ rfl
        have c1 : wq.cell? ⟨W.heap.size, 1, none⟩ = some (.int .i64 v.queue) := HX.out 1 _ rfl
        have c3 : wq.cell? ⟨W.heap.size, 3, none⟩ = some (.int .i64 v.aat) := HX.out 3 _ rfl
        have c5 : wq.cell? ⟨W.heap.size, 5, none⟩ = some (.string (S v.topic)) := HX.out 5 _ rfl
        have c6 : wq.cell? ⟨W.heap.size, 6, none⟩ = some (.string (S v.group)) := HX.out 6 _ rfl
        rw [hk] at c0
        go_wp2_with fail
        go_quiet (first | (go_at_call_of 17 (Value.int .i64 v.queue); exact HDQ1.out _ _) | (go_at_call_of 17 (Value.int .i64 v.n); exact HDQ2.out _ _) | (go_at_call_of 17 (Value.int .i64 v.aat); exact HDQ3.out _ _) | (go_at_call_of 17 (Value.int .i64 v.lack); exact HDQ4.out _ _) | (go_at_call 28; exact HTS.out _ _) | (go_at_call 29; exact HKS.out _) | (go_at_call 15; exact HHB.out _ _))
        obtain ⟨wq2, hwq⟩ : ∃ wz, wq.drewN nq = wz := ⟨_, rfl⟩
        rw [hwq]
        have hd : Drawn wq wq2 := ⟨nq, hwq.symm⟩
        have hb := hd.below wq.heap.size
        clear hwq hd c0 c1 c3 c5 c6
        replace HX := Lib.hid (HX.out.below hb)
        replace HIN := Lib.hid (HIN.out.below hb)
        replace HB := Lib.hid (HB.out.trans (hb.mono HB.out.size))
        clear hb
        rw [group_eq v]
        have c0 : wq2.cell? ⟨W.heap.size, 0, none⟩ = some (.int .i64 v.kind) := HX.out 0 _ rfl
        rw [hk] at c0
        go_upto_region 17 with fail
        clear c0
        have HT10 : Hid ((wq2.alloc (.cells #[.int .i64 14, .int .i64 0, .int .i64 0, .int .i64 0, .int .i64 0, .string ⟨#[]⟩, .string ⟨#[]⟩, .string ⟨#[]⟩, .string ⟨#[]⟩, .string ⟨#[]⟩, .slice none 0 0, .slice none 0 0, .slice none 0 0, .bool false] 25)).heap[wq2.heap.size]? = some (.cells ((ev0 14).cells evs0) 25 (0, 0))) := World.alloc_heap_new _ _
        have hb : Below wq2.heap.size wq2 (wq2.alloc (.cells #[.int .i64 14, .int .i64 0, .int .i64 0, .int .i64 0, .int .i64 0, .string ⟨#[]⟩, .string ⟨#[]⟩, .string ⟨#[]⟩, .string ⟨#[]⟩, .string ⟨#[]⟩, .slice none 0 0, .slice none 0 0, .slice none 0 0, .bool false] 25)) := (Below.refl _ _).alloc (Nat.le_refl _) _
        have hB10 : W.heap.size < wq2.heap.size := by have := HX.out 0 _ rfl; exact cell_lt this
        obtain ⟨wA, hwA⟩ : ∃ wA, (wq2.alloc (.cells #[.int .i64 14, .int .i64 0, .int .i64 0, .int .i64 0, .int .i64 0, .string ⟨#[]⟩, .string ⟨#[]⟩, .string ⟨#[]⟩, .string ⟨#[]⟩, .string ⟨#[]⟩, .slice none 0 0, .slice none 0 0, .slice none 0 0, .bool false] 25)) = wA := ⟨_, rfl⟩
        rw [hwA] at HT10 hb ⊢
        generalize hB10e : wq2.heap.size = B10 at HT10 hb hB10 ⊢
        clear hwA
        have HBL := Lib.hid hb
        have HXq := HX
        have HINq := HIN
        have HBq := HB
        have HBE := Lib.hid hB10e
        replace HX := Lib.hid (HX.out.below (hB10e ▸ hb))
        replace HIN := Lib.hid (HIN.out.below (hB10e ▸ hb))
        replace HB := Lib.hid (HB.out.trans (hb.mono (by omega)))
        clear hb hB10e
        have c0 : wA.cell? ⟨W.heap.size, 0, none⟩ = some (.int .i64 v.kind) := HX.out 0 _ rfl
        rw [hk] at c0
        go_upto_region 51 with fail
        clear c0
        have c4 : wA.cell? ⟨W.heap.size, 4, none⟩ = some (.int .i64 v.lack) := HX.out 4 _ rfl
        have c9 : wA.cell? ⟨W.heap.size, 9, none⟩ = some (.string (S v.body)) := HX.out 9 _ rfl
        have c12 : wA.cell? ⟨W.heap.size, 12, none⟩ = some (.slice s.pa v.keep.length s.pc) := HX.out 12 _ rfl
        have hz9 := HT10.out
        have d4 : wA.cell? ⟨B10, 4, none⟩ = some (.int .i64 0) := by unfold World.cell?; rw [show wA.heap[(⟨B10, 4, none⟩ : Addr).block]? = _ from hz9]; rfl
        have d9 : wA.cell? ⟨B10, 9, none⟩ = some (.string (S [])) := by unfold World.cell?; rw [show wA.heap[(⟨B10, 9, none⟩ : Addr).block]? = _ from hz9]; rfl
        have d12 : wA.cell? ⟨B10, 12, none⟩ = some (.slice none 0 0) := by unfold World.cell?; rw [show wA.heap[(⟨B10, 12, none⟩ : Addr).block]? = _ from hz9]; rfl
        have hfr : ∀ j, wA.frozen? ⟨B10, j, none⟩ = false := fun j => by unfold World.frozen?; rw [show wA.heap[(⟨B10, j, none⟩ : Addr).block]? = _ from hz9]; rfl
        clear hz9
        go_region
        obtain ⟨wN, hwwN⟩ : ∃ wz, (((wA.setCell ⟨B10, 12, none⟩ (.slice s.pa v.keep.length s.pc)).setCell ⟨B10, 4, none⟩ (.int .i64 v.lack)).setCell ⟨B10, 9, none⟩ (.string (S v.body))).drew = wz := ⟨_, rfl⟩
        rw [hwwN]
        have HTwN : Hid (wN.heap[B10]? = some (.cells #[.int .i64 14, .int .i64 0, .int .i64 0, .int .i64 0, .int .i64 v.lack, .string (S []), .string (S []), .string (S []), .string (S []), .string (S v.body), .slice none 0 0, .slice none 0 0, .slice s.pa v.keep.length s.pc, .bool false] 25 (0, 0))) := by
          have h0 : wA.heap[B10]? = some (.cells #[.int .i64 14, .int .i64 0, .int .i64 0, .int .i64 0, .int .i64 0, .string (S []), .string (S []), .string (S []), .string (S []), .string (S []), .slice none 0 0, .slice none 0 0, .slice none 0 0, .bool false] 25 (0, 0)) := HT10.out
          have h1 := heap_setCell_same _ B10 12 _ _ (.slice s.pa v.keep.length s.pc) h0
          simp only [List.setIfInBounds_toArray, List.set_cons_zero, List.set_cons_succ] at h1
          have h2 := heap_setCell_same _ B10 4 _ _ (.int .i64 v.lack) h1
          simp only [List.setIfInBounds_toArray, List.set_cons_zero, List.set_cons_succ] at h2
          have h3 := heap_setCell_same _ B10 9 _ _ (.string (S v.body)) h2
          simp only [List.setIfInBounds_toArray, List.set_cons_zero, List.set_cons_succ] at h3
          show wN.heap[B10]? = _
          rw [← hwwN]
          exact h3
        have hb : Below B10 wq2 wN := by rw [← hwwN]; exact (((HBL.out.setCell (p := ⟨B10, 12, none⟩) (Nat.le_refl _) _).setCell (p := ⟨B10, 4, none⟩) (Nat.le_refl _) _).setCell (p := ⟨B10, 9, none⟩) (Nat.le_refl _) _).drew
        clear hwwN
        replace HX := Lib.hid (HXq.out.below (HBE.out ▸ hb))
        replace HIN := Lib.hid (HINq.out.below (HBE.out ▸ hb))
        replace HB := Lib.hid (HBq.out.trans (hb.mono (Nat.le_of_lt hB10)))
        have HBN := Lib.hid hb
        clear hb HT10 HBL c4 c9 c12 d4 d9 d12 hfr wA
        have HBQ : Hid (∀ (n : Nat), Calls Tryz.prog 31 #[.slice s.pa v.keep.length s.pc] (wN.drewN n) fun e w'' => e = .returned (.string (S (bitsL v.keep))) ∧ ∃ m, w'' = wN.drewN m) := fun n => quiet_drawn (bits30_any s.pa s.pc v.keep (by have := HP.out.2.2.2.2.2.2; omega) _ (HIN.out.keep.below (Drawn.below ⟨n, rfl⟩ _)))
        have hzf := bits_size HG.out
        have c0 : wN.cell? ⟨W.heap.size, 0, none⟩ = some (.int .i64 v.kind) := HX.out 0 _ rfl
        have c4 : wN.cell? ⟨W.heap.size, 4, none⟩ = some (.int .i64 v.lack) := HX.out 4 _ rfl
        have c9 : wN.cell? ⟨W.heap.size, 9, none⟩ = some (.string (S v.body)) := HX.out 9 _ rfl
        have c12 : wN.cell? ⟨W.heap.size, 12, none⟩ = some (.slice s.pa v.keep.length s.pc) := HX.out 12 _ rfl
        rw [hk] at c0
        go_wp2_with fail
        go_quiet (first | (go_at_call_of 17 (Value.int .i64 v.lack); exact HDQ4.out _ _) | (go_at_call 15; exact HHB.out _ _) | (go_at_call 31; exact HBQ.out _))
        have HTN2 : Hid ((wN.drewN nq).heap[B10]? = _) := HTwN.out
        obtain ⟨wA, hwq⟩ : ∃ wz, wN.drewN nq = wz := ⟨_, rfl⟩
        rw [hwq] at HTN2 ⊢
        have hd : Drawn wN wA := ⟨nq, hwq.symm⟩
        have hb := hd.below wN.heap.size
        clear hwq hd c0 c4 c9 c12 HTwN
        replace HX := Lib.hid (HX.out.below hb)
        replace HIN := Lib.hid (HIN.out.below hb)
        replace HB := Lib.hid (HB.out.trans (hb.mono HB.out.size))
        clear hb
        have HTW := HTN2
        clear HTN2
        clear hzf
        clear HXq HINq HBq HBN
        have c0 : wA.cell? ⟨W.heap.size, 0, none⟩ = some (.int .i64 v.kind) := HX.out 0 _ rfl
        rw [hk] at c0
        go_upto_region 56 with fail
        clear c0
        have c0 : wA.cell? ⟨W.heap.size, 0, none⟩ = some (.int .i64 v.kind) := HX.out 0 _ rfl
        have c1 : wA.cell? ⟨W.heap.size, 1, none⟩ = some (.int .i64 v.queue) := HX.out 1 _ rfl
        have c2 : wA.cell? ⟨W.heap.size, 2, none⟩ = some (.int .i64 v.n) := HX.out 2 _ rfl
        have c3 : wA.cell? ⟨W.heap.size, 3, none⟩ = some (.int .i64 v.aat) := HX.out 3 _ rfl
        have c4 : wA.cell? ⟨W.heap.size, 4, none⟩ = some (.int .i64 v.lack) := HX.out 4 _ rfl
        have c5 : wA.cell? ⟨W.heap.size, 5, none⟩ = some (.string (S v.topic)) := HX.out 5 _ rfl
        have c6 : wA.cell? ⟨W.heap.size, 6, none⟩ = some (.string (S v.group)) := HX.out 6 _ rfl
        have c7 : wA.cell? ⟨W.heap.size, 7, none⟩ = some (.string (S v.tag)) := HX.out 7 _ rfl
        have c8 : wA.cell? ⟨W.heap.size, 8, none⟩ = some (.string (S v.key)) := HX.out 8 _ rfl
        have c9 : wA.cell? ⟨W.heap.size, 9, none⟩ = some (.string (S v.body)) := HX.out 9 _ rfl
        have c10 : wA.cell? ⟨W.heap.size, 10, none⟩ = some (.slice s.ka v.keys.length s.kc) := HX.out 10 _ rfl
        have c11 : wA.cell? ⟨W.heap.size, 11, none⟩ = some (.slice s.ta v.tags.length s.tc) := HX.out 11 _ rfl
        have c12 : wA.cell? ⟨W.heap.size, 12, none⟩ = some (.slice s.pa v.keep.length s.pc) := HX.out 12 _ rfl
        have c13 : wA.cell? ⟨W.heap.size, 13, none⟩ = some (.bool v.sync) := HX.out 13 _ rfl
        rw [hk] at c0
        have hz9 := HTW.out
        have d0 : wA.cell? ⟨B10, 0, none⟩ = some (.int .i64 14) := by unfold World.cell?; rw [show wA.heap[(⟨B10, 0, none⟩ : Addr).block]? = _ from hz9]; rfl
        have d1 : wA.cell? ⟨B10, 1, none⟩ = some (.int .i64 0) := by unfold World.cell?; rw [show wA.heap[(⟨B10, 1, none⟩ : Addr).block]? = _ from hz9]; rfl
        have d2 : wA.cell? ⟨B10, 2, none⟩ = some (.int .i64 0) := by unfold World.cell?; rw [show wA.heap[(⟨B10, 2, none⟩ : Addr).block]? = _ from hz9]; rfl
        have d3 : wA.cell? ⟨B10, 3, none⟩ = some (.int .i64 0) := by unfold World.cell?; rw [show wA.heap[(⟨B10, 3, none⟩ : Addr).block]? = _ from hz9]; rfl
        have d4 : wA.cell? ⟨B10, 4, none⟩ = some (.int .i64 v.lack) := by unfold World.cell?; rw [show wA.heap[(⟨B10, 4, none⟩ : Addr).block]? = _ from hz9]; rfl
        have d5 : wA.cell? ⟨B10, 5, none⟩ = some (.string (S [])) := by unfold World.cell?; rw [show wA.heap[(⟨B10, 5, none⟩ : Addr).block]? = _ from hz9]; rfl
        have d6 : wA.cell? ⟨B10, 6, none⟩ = some (.string (S [])) := by unfold World.cell?; rw [show wA.heap[(⟨B10, 6, none⟩ : Addr).block]? = _ from hz9]; rfl
        have d7 : wA.cell? ⟨B10, 7, none⟩ = some (.string (S [])) := by unfold World.cell?; rw [show wA.heap[(⟨B10, 7, none⟩ : Addr).block]? = _ from hz9]; rfl
        have d8 : wA.cell? ⟨B10, 8, none⟩ = some (.string (S [])) := by unfold World.cell?; rw [show wA.heap[(⟨B10, 8, none⟩ : Addr).block]? = _ from hz9]; rfl
        have d9 : wA.cell? ⟨B10, 9, none⟩ = some (.string (S v.body)) := by unfold World.cell?; rw [show wA.heap[(⟨B10, 9, none⟩ : Addr).block]? = _ from hz9]; rfl
        have d10 : wA.cell? ⟨B10, 10, none⟩ = some (.slice none 0 0) := by unfold World.cell?; rw [show wA.heap[(⟨B10, 10, none⟩ : Addr).block]? = _ from hz9]; rfl
        have d11 : wA.cell? ⟨B10, 11, none⟩ = some (.slice none 0 0) := by unfold World.cell?; rw [show wA.heap[(⟨B10, 11, none⟩ : Addr).block]? = _ from hz9]; rfl
        have d12 : wA.cell? ⟨B10, 12, none⟩ = some (.slice s.pa v.keep.length s.pc) := by unfold World.cell?; rw [show wA.heap[(⟨B10, 12, none⟩ : Addr).block]? = _ from hz9]; rfl
        have d13 : wA.cell? ⟨B10, 13, none⟩ = some (.bool false) := by unfold World.cell?; rw [show wA.heap[(⟨B10, 13, none⟩ : Addr).block]? = _ from hz9]; rfl
        clear hz9
        have hwo : EvOk (wantE v 14) := ⟨Nat.zero_le _, Nat.zero_le _, Nat.zero_le _, Nat.zero_le _, HSM.out.body, Nat.zero_le _, Nat.zero_le _, HSM.out.keep, fun t ht => (by cases ht), fun t ht => (by cases ht)⟩
        have hwi : EvIn wA (wantE v 14) ⟨none, 0, none, 0, s.pa, s.pc⟩ := ⟨fun i hi => absurd hi (Nat.not_lt_zero _), fun i hi => absurd hi (Nat.not_lt_zero _), HIN.out.keep⟩
        have HSC := Lib.hid (ev_same v (wantE v 14) s ⟨none, 0, none, 0, s.pa, s.pc⟩ HSM.out hwo wA HIN.out hwi)
        rw [show v.cells s = #[.int .i64 14, .int .i64 v.queue, .int .i64 v.n, .int .i64 v.aat, .int .i64 v.lack, .string (S v.topic), .string (S v.group), .string (S v.tag), .string (S v.key), .string (S v.body), .slice s.ka v.keys.length s.kc, .slice s.ta v.tags.length s.tc, .slice s.pa v.keep.length s.pc, .bool v.sync] from by unfold Ev.cells; rw [hk], show Ev.cells (wantE v 14) ⟨none, 0, none, 0, s.pa, s.pc⟩ = #[.int .i64 14, .int .i64 0, .int .i64 0, .int .i64 0, .int .i64 v.lack, .string (S []), .string (S []), .string (S []), .string (S []), .string (S v.body), .slice none 0 0, .slice none 0 0, .slice s.pa v.keep.length s.pc, .bool false] from rfl] at HSC
        rw [hsy0] at HSC
        clear hwo hwi
        go_wp2_with fail
        refine HSC.out.mono ?_
        rintro e wB ⟨rfl, hb⟩
        clear c0 c1 c2 c3 c4 c5 c6 c7 c8 c9 c10 c11 c12 c13 d0 d1 d2 d3 d4 d5 d6 d7 d8 d9 d10 d11 d12 d13 HSC HTW
        replace HX := Lib.hid (HX.out.below hb)
        replace HIN := Lib.hid (HIN.out.below hb)
        replace HB := Lib.hid (HB.out.trans (hb.mono HB.out.size))
        clear hb
        have HC : Hid (condB v 14 = (sameE v (wantE v 14) && true && true)) := by show _ = _; unfold condB; rfl
        generalize sameE v (wantE v 14) = sb at *
        cases sb with
        | false =>
          have HT : Hid (RR = []) := by show _ = _; rw [← HRR.out, HC.out]; rfl
          have c0 : wB.cell? ⟨W.heap.size, 0, none⟩ = some (.int .i64 v.kind) := HX.out 0 _ rfl
          have c5 : wB.cell? ⟨W.heap.size, 5, none⟩ = some (.string (S v.topic)) := HX.out 5 _ rfl
          have c6 : wB.cell? ⟨W.heap.size, 6, none⟩ = some (.string (S v.group)) := HX.out 6 _ rfl
          rw [hk] at c0
          go_wp2_with fail
          go_ret
          rw [HT.out]
          exact ⟨rfl, HB.out⟩
        | true =>
          have HT : Hid (S RR = S (lineS v 14)) := by show _ = _; rw [← HRR.out, HC.out]; rfl
          have c0 : wB.cell? ⟨W.heap.size, 0, none⟩ = some (.int .i64 v.kind) := HX.out 0 _ rfl
          have c5 : wB.cell? ⟨W.heap.size, 5, none⟩ = some (.string (S v.topic)) := HX.out 5 _ rfl
          have c6 : wB.cell? ⟨W.heap.size, 6, none⟩ = some (.string (S v.group)) := HX.out 6 _ rfl
          rw [hk] at c0
          go_wp2_with fail
          go_ret
          rw [HT.out]
          exact ⟨rfl, HB.out⟩

        skip
end Go.Proofs.YtadhkeboaapfcaaGreatDoor.EvW
namespace Go.Proofs.YtadhkeboaapfcaaGreatDoor.EvW
open Go.RowKit OctMath NameMath HexMath
set_option linter.unusedVariables false
set_option linter.unusedSimpArgs false
set_option maxRecDepth 100000


set_option maxHeartbeats 12800000 in
theorem line_15 (v : Ev) (s : EvS) (hsm : EvOk v) (hi : EvI v) (W : World) (hin : EvIn W v s) (hcap : v.tags.length ≤ s.tc) (hk : v.kind = 15) (hg : guardB v = true) (hbk : v.keys.any badK = false) :
    Calls Tryz.prog 10 #[.agg (v.cells s)] W fun e w' => e = .returned (.string (S (if condB v 15 then lineS v 15 else []))) ∧ Below W.heap.size W w' := by
  generalize hRR : (if condB v 15 then lineS v 15 else []) = RR
  have HRR := Lib.hid hRR
  clear hRR
  have HP := Lib.hid (guard_parts hg)
  have HK := Lib.hid hbk
  have HG := Lib.hid hg
  have HSM := Lib.hid hsm
  have HI := Lib.hid hi
  have HB : Hid (Below W.heap.size W (W.alloc (.cells (v.cells s) 25))) := (Below.refl _ W).alloc (Nat.le_refl _) _
  have HIN := Lib.hid (hin.below HB.out)
  have HX : Hid (Boxed (W.alloc (.cells (v.cells s) 25)) W.heap.size (v.cells s)) := Boxed.new W _ _
  have hcv : (v.cells s).size = 14 := rfl
  have hsz := S_size
  clear hsm hi hin hg hbk
  go_enter Tryz.func10, Tryz.ntmps10
  go_upto_region 1 with fail
  generalize (W.alloc (.cells (v.cells s) 25)) = w1 at *
  clear hcv
  have c0 : w1.cell? ⟨W.heap.size, 0, none⟩ = some (.int .i64 v.kind) := HX.out 0 _ rfl
  have c1 : w1.cell? ⟨W.heap.size, 1, none⟩ = some (.int .i64 v.queue) := HX.out 1 _ rfl
  have c2 : w1.cell? ⟨W.heap.size, 2, none⟩ = some (.int .i64 v.n) := HX.out 2 _ rfl
  have c3 : w1.cell? ⟨W.heap.size, 3, none⟩ = some (.int .i64 v.aat) := HX.out 3 _ rfl
  have c4 : w1.cell? ⟨W.heap.size, 4, none⟩ = some (.int .i64 v.lack) := HX.out 4 _ rfl
  rw [hk] at c0
  have HNB := Lib.hid (small_any (some ⟨w1.heap.size, 0, none⟩) 4 [v.queue, v.n, v.aat, v.lack] (by simp))
  rw [HP.out.1] at HNB
  go_wp2_with fail
  refine (HNB.out _ ?nrow).mono ?_
  case nrow => exact fun i hi => ⟨_, 0, rfl, by rw [World.cell?_alloc_new]; match i, hi with | 0, _ => rfl | 1, _ => rfl | 2, _ => rfl | 3, _ => rfl⟩
  rintro e w2 ⟨rfl, hd⟩
  have hb : Below w1.heap.size w1 w2 := ((Below.refl _ w1).alloc (Nat.le_refl _) _).trans (hd.below _)
  clear hd c0 c1 c2 c3 c4 HNB
  replace HX := Lib.hid (HX.out.below hb)
  replace HIN := Lib.hid (HIN.out.below hb)
  replace HB := Lib.hid (HB.out.trans (hb.mono HB.out.size))
  clear hb
  have c7 : w2.cell? ⟨W.heap.size, 7, none⟩ = some (.string (S v.tag)) := HX.out 7 _ rfl
  have HTG := Lib.hid (fun w => NameW.rtag_any v.tag (by have := HSM.out.tag; omega) w)
  rw [HP.out.2.1] at HTG
  go_wp2_with fail
  refine (HTG.out _).mono ?_
  rintro e w3 ⟨rfl, hd⟩
  have hb := hd.below w2.heap.size
  clear hd c7 HTG
  replace HX := Lib.hid (HX.out.below hb)
  replace HIN := Lib.hid (HIN.out.below hb)
  replace HB := Lib.hid (HB.out.trans (hb.mono HB.out.size))
  clear hb
  have c8 : w3.cell? ⟨W.heap.size, 8, none⟩ = some (.string (S v.key)) := HX.out 8 _ rfl
  have c9 : w3.cell? ⟨W.heap.size, 9, none⟩ = some (.string (S v.body)) := HX.out 9 _ rfl
  have c10 : w3.cell? ⟨W.heap.size, 10, none⟩ = some (.slice s.ka v.keys.length s.kc) := HX.out 10 _ rfl
  have c11 : w3.cell? ⟨W.heap.size, 11, none⟩ = some (.slice s.ta v.tags.length s.tc) := HX.out 11 _ rfl
  have c12 : w3.cell? ⟨W.heap.size, 12, none⟩ = some (.slice s.pa v.keep.length s.pc) := HX.out 12 _ rfl
  have HFL := Lib.hid (fun w h => lfilter_any s.ta s.tc v.tags (by have := HSM.out.tags; omega) hcap HSM.out.tagsz w h)
  rw [HP.out.2.2.1] at HFL
  go_wp2_with fail
  refine (HFL.out _ HIN.out.tags).mono ?_
  rintro e w4 ⟨rfl, hd⟩
  have hb := hd.below w3.heap.size
  clear hd c8 c9 c10 c11 c12 HFL
  replace HX := Lib.hid (HX.out.below hb)
  replace HIN := Lib.hid (HIN.out.below hb)
  replace HB := Lib.hid (HB.out.trans (hb.mono HB.out.size))
  clear hb
  have c8 : w4.cell? ⟨W.heap.size, 8, none⟩ = some (.string (S v.key)) := HX.out 8 _ rfl
  have c9 : w4.cell? ⟨W.heap.size, 9, none⟩ = some (.string (S v.body)) := HX.out 9 _ rfl
  have c10 : w4.cell? ⟨W.heap.size, 10, none⟩ = some (.slice s.ka v.keys.length s.kc) := HX.out 10 _ rfl
  have c12 : w4.cell? ⟨W.heap.size, 12, none⟩ = some (.slice s.pa v.keep.length s.pc) := HX.out 12 _ rfl
  have hp1 := HP.out.2.2.2.1
  have hp2 := HP.out.2.2.2.2.1
  have hp3 := HP.out.2.2.2.2.2.1
  have hp4 := HP.out.2.2.2.2.2.2
  have g1 : decide (300 < (v.body.length : Int)) = false := decide_eq_false (by omega)
  have g2 : decide (300 < (v.key.length : Int)) = false := decide_eq_false (by omega)
  have g3 : decide (10 < (v.keys.length : Int)) = false := decide_eq_false (by omega)
  have g4 : decide (100 < (v.keep.length : Int)) = false := decide_eq_false (by omega)
  go_wp2_with fail
  clear g1 g2 g3 g4
  have HKL : Hid (Row1 w4 s.ka (v.keys.map fun x => .string (S x))) := row_strs HIN.out.keys
  have htl := NameW.S_toList
  go_loopw [74] (fun i wr => ∃ k : Nat, k ≤ v.keys.length ∧ i = .int .i64 (k : Int) ∧ wr = w4) (fun i _ => v.keys.length + 1 - (intOf i).toNat)
  case atStart => exact ⟨0, by omega, rfl, rfl⟩
  case round =>
    obtain ⟨k, hkk, rfl, rfl⟩ := hrel
    by_cases hlt : k < v.keys.length
    · obtain ⟨b, off, hbo, hcell⟩ := HKL.out k (by rw [List.length_map]; exact hlt)
      rw [List.getElem_map] at hcell
      have hgood := key_good HK.out (List.getElem_mem hlt)
      generalize v.keys[k] = x at *
      have hxe : (x == []) = false := by simp [hgood.1]
      have hx3 := hgood.2
      clear hgood c8 c9 c10 c12
      rw [hbo] at *
      go_wp2_with fail
      go_roundw
      case rel => exact ⟨k + 1, by omega, by go_num, trivial⟩
      case measure => simp [intOf]; omega
    · obtain rfl : k = v.keys.length := by omega
      clear HKL c8 c9 c10 c12 hlt hkk
      have c0 : wr.cell? ⟨W.heap.size, 0, none⟩ = some (.int .i64 v.kind) := HX.out 0 _ rfl
      have c1 : wr.cell? ⟨W.heap.size, 1, none⟩ = some (.int .i64 v.queue) := HX.out 1 _ rfl
      have c2 : wr.cell? ⟨W.heap.size, 2, none⟩ = some (.int .i64 v.n) := HX.out 2 _ rfl
      have c3 : wr.cell? ⟨W.heap.size, 3, none⟩ = some (.int .i64 v.aat) := HX.out 3 _ rfl
      have c4 : wr.cell? ⟨W.heap.size, 4, none⟩ = some (.int .i64 v.lack) := HX.out 4 _ rfl
      have c5 : wr.cell? ⟨W.heap.size, 5, none⟩ = some (.string (S v.topic)) := HX.out 5 _ rfl
      have c6 : wr.cell? ⟨W.heap.size, 6, none⟩ = some (.string (S v.group)) := HX.out 6 _ rfl
      have c7 : wr.cell? ⟨W.heap.size, 7, none⟩ = some (.string (S v.tag)) := HX.out 7 _ rfl
      have c8 : wr.cell? ⟨W.heap.size, 8, none⟩ = some (.string (S v.key)) := HX.out 8 _ rfl
      have c9 : wr.cell? ⟨W.heap.size, 9, none⟩ = some (.string (S v.body)) := HX.out 9 _ rfl
      have c10 : wr.cell? ⟨W.heap.size, 10, none⟩ = some (.slice s.ka v.keys.length s.kc) := HX.out 10 _ rfl
      have c11 : wr.cell? ⟨W.heap.size, 11, none⟩ = some (.slice s.ta v.tags.length s.tc) := HX.out 11 _ rfl
      have c12 : wr.cell? ⟨W.heap.size, 12, none⟩ = some (.slice s.pa v.keep.length s.pc) := HX.out 12 _ rfl
      have c13 : wr.cell? ⟨W.heap.size, 13, none⟩ = some (.bool v.sync) := HX.out 13 _ rfl
      rw [hk] at c0
      have hdq : ∀ (x : Int), (-9223372036854775808 ≤ x ∧ x ≤ 9223372036854775807) → ∀ (w : World) (n : Nat), Calls Tryz.prog 17 #[.int .i64 x] (w.drewN n) fun e w'' => e = .returned (.string (S (Lib.itoa x))) ∧ ∃ m, w'' = w.drewN m := fun x hx w n => (digits_any x hx.1 hx.2 _).mono fun _ _ h => ⟨h.1, n, h.2⟩
      have HDQ1 := Lib.hid (hdq v.queue HI.out.queue)
      have HDQ2 := Lib.hid (hdq v.n HI.out.n)
      have HDQ3 := Lib.hid (hdq v.aat HI.out.aat)
      have HDQ4 := Lib.hid (hdq v.lack HI.out.lack)
      clear hdq
      have hz := part_sizes HSM.out HI.out HG.out HK.out
      have hz1 := hz.1
      have hz2 := hz.2.1
      have hz3 := hz.2.2.1
      have hz4 := hz.2.2.2.1
      have hz5 := hz.2.2.2.2.1
      have hz6 := hz.2.2.2.2.2.1
      have hz7 := hz.2.2.2.2.2.2.1
      have hz8 := hz.2.2.2.2.2.2.2.1
      have hz9 := hz.2.2.2.2.2.2.2.2
      clear hz
      have HKS : Hid (∀ (n : Nat), Calls Tryz.prog 29 #[.slice s.ka v.keys.length s.kc] (wr.drewN n) fun e w'' => e = .returned (.string (S (keysL v.keys))) ∧ ∃ m, w'' = wr.drewN m) := fun n => quiet_drawn (keys30_any s.ka s.kc v.keys (by have := HP.out.2.2.2.2.2.1; omega) (fun t ht => by have := (key_good HK.out ht).2; omega) _ (HIN.out.keys.below (Drawn.below ⟨n, rfl⟩ _)))
      have HTS : Hid (∀ (w : World) (n : Nat), Calls Tryz.prog 28 #[.string (S v.tag)] (w.drewN n) fun e w'' => e = .returned (.string (S (tagW v))) ∧ ∃ m, w'' = w.drewN m) := fun w n => (tag30_any v.tag _).mono fun _ _ h => ⟨h.1, n, h.2⟩
      have HHB : Hid (∀ (w : World) (n : Nat), Calls Tryz.prog 15 #[.string (S v.body)] (w.drewN n) fun e w'' => e = .returned (.string (S (hexL v.body))) ∧ ∃ m, w'' = w.drewN m) := fun w n => quiet_drawn (LinW.rhex_any v.body (by have := HP.out.2.2.2.1; omega) _)
      clear hsz htl hp1 hp2 hp3 hp4
      generalize hsy0 : v.sync = sy at c13
      cases sy
      all_goals
        go_wp2_with fail
        go_quiet (first | (go_at_call_of 17 (Value.int .i64 v.queue); exact HDQ1.out _ _) | (go_at_call_of 17 (Value.int .i64 v.n); exact HDQ2.out _ _) | (go_at_call_of 17 (Value.int .i64 v.aat); exact HDQ3.out _ _) | (go_at_call_of 17 (Value.int .i64 v.lack); exact HDQ4.out _ _) | (go_at_call 28; exact HTS.out _ _) | (go_at_call 29; exact HKS.out _) | (go_at_call 15; exact HHB.out _ _))
        obtain ⟨wq, hwq⟩ : ∃ wz, wr.drewN nq = wz := ⟨_, rfl⟩
        rw [hwq]
        have hd : Drawn wr wq := ⟨nq, hwq.symm⟩
        have hb := hd.below wr.heap.size
        clear hwq hd c0 c1 c2 c3 c4 c5 c6 c7 c8 c9 c10 c11 c12 c13
        replace HX := Lib.hid (HX.out.below hb)
        replace HIN := Lib.hid (HIN.out.below hb)
        replace HB := Lib.hid (HB.out.trans (hb.mono HB.out.size))
        clear hb
        first
        | rw [send_f hsy0]
        | rw [send_t hsy0]
        have c0 : wq.cell? ⟨W.heap.size, 0, none⟩ = some (.int .i64 v.kind) := HX.out 0 _ rfl
        have c1 : wq.cell? ⟨W.heap.size, 1, none⟩ = some (.int .i64 v.queue) := HX.out 1 _ rfl
        have c3 : wq.cell? ⟨W.heap.size, 3, none⟩ = some (.int .i64 v.aat) := HX.out 3 _ rfl
        have c5 : wq.cell? ⟨W.heap.size, 5, none⟩ = some (.string (S v.topic)) := HX.out 5 _ rfl
        have c6 : wq.cell? ⟨W.heap.size, 6, none⟩ = some (.string (S v.group)) := HX.out 6 _ rfl
        rw [hk] at c0
        go_wp2_with fail
        go_quiet (first | (go_at_call_of 17 (Value.int .i64 v.queue); exact HDQ1.out _ _) | (go_at_call_of 17 (Value.int .i64 v.n); exact HDQ2.out _ _) | (go_at_call_of 17 (Value.int .i64 v.aat); exact HDQ3.out _ _) | (go_at_call_of 17 (Value.int .i64 v.lack); exact HDQ4.out _ _) | (go_at_call 28; exact HTS.out _ _) | (go_at_call 29; exact HKS.out _) | (go_at_call 15; exact HHB.out _ _))
        obtain ⟨wq2, hwq⟩ : ∃ wz, wq.drewN nq = wz := ⟨_, rfl⟩
        rw [hwq]
        have hd : Drawn wq wq2 := ⟨nq, hwq.symm⟩
        have hb := hd.below wq.heap.size
        clear hwq hd c0 c1 c3 c5 c6
        replace HX := Lib.hid (HX.out.below hb)
        replace HIN := Lib.hid (HIN.out.below hb)
        replace HB := Lib.hid (HB.out.trans (hb.mono HB.out.size))
        clear hb
        rw [group_eq v]
        have c0 : wq2.cell? ⟨W.heap.size, 0, none⟩ = some (.int .i64 v.kind) := HX.out 0 _ rfl
        rw [hk] at c0
        go_upto_region 17 with fail
        clear c0
        have HT10 : Hid ((wq2.alloc (.cells #[.int .i64 15, .int .i64 0, .int .i64 0, .int .i64 0, .int .i64 0, .string ⟨#[]⟩, .string ⟨#[]⟩, .string ⟨#[]⟩, .string ⟨#[]⟩, .string ⟨#[]⟩, .slice none 0 0, .slice none 0 0, .slice none 0 0, .bool false] 25)).heap[wq2.heap.size]? = some (.cells ((ev0 15).cells evs0) 25 (0, 0))) := World.alloc_heap_new _ _
        have hb : Below wq2.heap.size wq2 (wq2.alloc (.cells #[.int .i64 15, .int .i64 0, .int .i64 0, .int .i64 0, .int .i64 0, .string ⟨#[]⟩, .string ⟨#[]⟩, .string ⟨#[]⟩, .string ⟨#[]⟩, .string ⟨#[]⟩, .slice none 0 0, .slice none 0 0, .slice none 0 0, .bool false] 25)) := (Below.refl _ _).alloc (Nat.le_refl _) _
        have hB10 : W.heap.size < wq2.heap.size := by have := HX.out 0 _ rfl; exact cell_lt this
        obtain ⟨wA, hwA⟩ : ∃ wA, (wq2.alloc (.cells #[.int .i64 15, .int .i64 0, .int .i64 0, .int .i64 0, .int .i64 0, .string ⟨#[]⟩, .string ⟨#[]⟩, .string ⟨#[]⟩, .string ⟨#[]⟩, .string ⟨#[]⟩, .slice none 0 0, .slice none 0 0, .slice none 0 0, .bool false] 25)) = wA := ⟨_, rfl⟩
        rw [hwA] at HT10 hb ⊢
        generalize hB10e : wq2.heap.size = B10 at HT10 hb hB10 ⊢
        clear hwA
        have HBL := Lib.hid hb
        have HXq := HX
        have HINq := HIN
        have HBq := HB
        have HBE := Lib.hid hB10e
        replace HX := Lib.hid (HX.out.below (hB10e ▸ hb))
        replace HIN := Lib.hid (HIN.out.below (hB10e ▸ hb))
        replace HB := Lib.hid (HB.out.trans (hb.mono (by omega)))
        clear hb hB10e
        have c0 : wA.cell? ⟨W.heap.size, 0, none⟩ = some (.int .i64 v.kind) := HX.out 0 _ rfl
        rw [hk] at c0
        have HTW : Hid (wA.heap[B10]? = some (.cells #[.int .i64 15, .int .i64 0, .int .i64 0, .int .i64 0, .int .i64 0, .string (S []), .string (S []), .string (S []), .string (S []), .string (S []), .slice none 0 0, .slice none 0 0, .slice none 0 0, .bool false] 25 (0, 0))) := HT10.out
        go_upto_region 56 with fail
        clear c0
        have c0 : wA.cell? ⟨W.heap.size, 0, none⟩ = some (.int .i64 v.kind) := HX.out 0 _ rfl
        have c1 : wA.cell? ⟨W.heap.size, 1, none⟩ = some (.int .i64 v.queue) := HX.out 1 _ rfl
        have c2 : wA.cell? ⟨W.heap.size, 2, none⟩ = some (.int .i64 v.n) := HX.out 2 _ rfl
        have c3 : wA.cell? ⟨W.heap.size, 3, none⟩ = some (.int .i64 v.aat) := HX.out 3 _ rfl
        have c4 : wA.cell? ⟨W.heap.size, 4, none⟩ = some (.int .i64 v.lack) := HX.out 4 _ rfl
        have c5 : wA.cell? ⟨W.heap.size, 5, none⟩ = some (.string (S v.topic)) := HX.out 5 _ rfl
        have c6 : wA.cell? ⟨W.heap.size, 6, none⟩ = some (.string (S v.group)) := HX.out 6 _ rfl
        have c7 : wA.cell? ⟨W.heap.size, 7, none⟩ = some (.string (S v.tag)) := HX.out 7 _ rfl
        have c8 : wA.cell? ⟨W.heap.size, 8, none⟩ = some (.string (S v.key)) := HX.out 8 _ rfl
        have c9 : wA.cell? ⟨W.heap.size, 9, none⟩ = some (.string (S v.body)) := HX.out 9 _ rfl
        have c10 : wA.cell? ⟨W.heap.size, 10, none⟩ = some (.slice s.ka v.keys.length s.kc) := HX.out 10 _ rfl
        have c11 : wA.cell? ⟨W.heap.size, 11, none⟩ = some (.slice s.ta v.tags.length s.tc) := HX.out 11 _ rfl
        have c12 : wA.cell? ⟨W.heap.size, 12, none⟩ = some (.slice s.pa v.keep.length s.pc) := HX.out 12 _ rfl
        have c13 : wA.cell? ⟨W.heap.size, 13, none⟩ = some (.bool v.sync) := HX.out 13 _ rfl
        rw [hk] at c0
        have hz9 := HTW.out
        have d0 : wA.cell? ⟨B10, 0, none⟩ = some (.int .i64 15) := by unfold World.cell?; rw [show wA.heap[(⟨B10, 0, none⟩ : Addr).block]? = _ from hz9]; rfl
        have d1 : wA.cell? ⟨B10, 1, none⟩ = some (.int .i64 0) := by unfold World.cell?; rw [show wA.heap[(⟨B10, 1, none⟩ : Addr).block]? = _ from hz9]; rfl
        have d2 : wA.cell? ⟨B10, 2, none⟩ = some (.int .i64 0) := by unfold World.cell?; rw [show wA.heap[(⟨B10, 2, none⟩ : Addr).block]? = _ from hz9]; rfl
        have d3 : wA.cell? ⟨B10, 3, none⟩ = some (.int .i64 0) := by unfold World.cell?; rw [show wA.heap[(⟨B10, 3, none⟩ : Addr).block]? = _ from hz9]; rfl
        have d4 : wA.cell? ⟨B10, 4, none⟩ = some (.int .i64 0) := by unfold World.cell?; rw [show wA.heap[(⟨B10, 4, none⟩ : Addr).block]? = _ from hz9]; rfl
        have d5 : wA.cell? ⟨B10, 5, none⟩ = some (.string (S [])) := by unfold World.cell?; rw [show wA.heap[(⟨B10, 5, none⟩ : Addr).block]? = _ from hz9]; rfl
        have d6 : wA.cell? ⟨B10, 6, none⟩ = some (.string (S [])) := by unfold World.cell?; rw [show wA.heap[(⟨B10, 6, none⟩ : Addr).block]? = _ from hz9]; rfl
        have d7 : wA.cell? ⟨B10, 7, none⟩ = some (.string (S [])) := by unfold World.cell?; rw [show wA.heap[(⟨B10, 7, none⟩ : Addr).block]? = _ from hz9]; rfl
        have d8 : wA.cell? ⟨B10, 8, none⟩ = some (.string (S [])) := by unfold World.cell?; rw [show wA.heap[(⟨B10, 8, none⟩ : Addr).block]? = _ from hz9]; rfl
        have d9 : wA.cell? ⟨B10, 9, none⟩ = some (.string (S [])) := by unfold World.cell?; rw [show wA.heap[(⟨B10, 9, none⟩ : Addr).block]? = _ from hz9]; rfl
        have d10 : wA.cell? ⟨B10, 10, none⟩ = some (.slice none 0 0) := by unfold World.cell?; rw [show wA.heap[(⟨B10, 10, none⟩ : Addr).block]? = _ from hz9]; rfl
        have d11 : wA.cell? ⟨B10, 11, none⟩ = some (.slice none 0 0) := by unfold World.cell?; rw [show wA.heap[(⟨B10, 11, none⟩ : Addr).block]? = _ from hz9]; rfl
        have d12 : wA.cell? ⟨B10, 12, none⟩ = some (.slice none 0 0) := by unfold World.cell?; rw [show wA.heap[(⟨B10, 12, none⟩ : Addr).block]? = _ from hz9]; rfl
        have d13 : wA.cell? ⟨B10, 13, none⟩ = some (.bool false) := by unfold World.cell?; rw [show wA.heap[(⟨B10, 13, none⟩ : Addr).block]? = _ from hz9]; rfl
        clear hz9
        have hwo : EvOk (wantE v 15) := ⟨Nat.zero_le _, Nat.zero_le _, Nat.zero_le _, Nat.zero_le _, Nat.zero_le _, Nat.zero_le _, Nat.zero_le _, Nat.zero_le _, fun t ht => (by cases ht), fun t ht => (by cases ht)⟩
        have hwi : EvIn wA (wantE v 15) ⟨none, 0, none, 0, none, 0⟩ := ⟨fun i hi => absurd hi (Nat.not_lt_zero _), fun i hi => absurd hi (Nat.not_lt_zero _), fun i hi => absurd hi (Nat.not_lt_zero _)⟩
        have HSC := Lib.hid (ev_same v (wantE v 15) s ⟨none, 0, none, 0, none, 0⟩ HSM.out hwo wA HIN.out hwi)
        rw [show v.cells s = #[.int .i64 15, .int .i64 v.queue, .int .i64 v.n, .int .i64 v.aat, .int .i64 v.lack, .string (S v.topic), .string (S v.group), .string (S v.tag), .string (S v.key), .string (S v.body), .slice s.ka v.keys.length s.kc, .slice s.ta v.tags.length s.tc, .slice s.pa v.keep.length s.pc, .bool v.sync] from by unfold Ev.cells; rw [hk], show Ev.cells (wantE v 15) ⟨none, 0, none, 0, none, 0⟩ = #[.int .i64 15, .int .i64 0, .int .i64 0, .int .i64 0, .int .i64 0, .string (S []), .string (S []), .string (S []), .string (S []), .string (S []), .slice none 0 0, .slice none 0 0, .slice none 0 0, .bool false] from rfl] at HSC
        rw [hsy0] at HSC
        clear hwo hwi
        go_wp2_with fail
        refine HSC.out.mono ?_
        rintro e wB ⟨rfl, hb⟩
        clear c0 c1 c2 c3 c4 c5 c6 c7 c8 c9 c10 c11 c12 c13 d0 d1 d2 d3 d4 d5 d6 d7 d8 d9 d10 d11 d12 d13 HSC HTW
        replace HX := Lib.hid (HX.out.below hb)
        replace HIN := Lib.hid (HIN.out.below hb)
        replace HB := Lib.hid (HB.out.trans (hb.mono HB.out.size))
        clear hb
        have HC : Hid (condB v 15 = (sameE v (wantE v 15) && true && true)) := by show _ = _; unfold condB; rfl
        generalize sameE v (wantE v 15) = sb at *
        cases sb with
        | false =>
          have HT : Hid (RR = []) := by show _ = _; rw [← HRR.out, HC.out]; rfl
          have c0 : wB.cell? ⟨W.heap.size, 0, none⟩ = some (.int .i64 v.kind) := HX.out 0 _ rfl
          have c5 : wB.cell? ⟨W.heap.size, 5, none⟩ = some (.string (S v.topic)) := HX.out 5 _ rfl
          have c6 : wB.cell? ⟨W.heap.size, 6, none⟩ = some (.string (S v.group)) := HX.out 6 _ rfl
          rw [hk] at c0
          go_wp2_with fail
          go_ret
          rw [HT.out]
          exact ⟨rfl, HB.out⟩
        | true =>
          have HT : Hid (S RR = S (lineS v 15)) := by show _ = _; rw [← HRR.out, HC.out]; rfl
          have c0 : wB.cell? ⟨W.heap.size, 0, none⟩ = some (.int .i64 v.kind) := HX.out 0 _ rfl
          have c5 : wB.cell? ⟨W.heap.size, 5, none⟩ = some (.string (S v.topic)) := HX.out 5 _ rfl
          have c6 : wB.cell? ⟨W.heap.size, 6, none⟩ = some (.string (S v.group)) := HX.out 6 _ rfl
          rw [hk] at c0
          go_wp2_with fail
          go_ret
          rw [HT.out]
          exact ⟨rfl, HB.out⟩

        skip
end Go.Proofs.YtadhkeboaapfcaaGreatDoor.EvW
