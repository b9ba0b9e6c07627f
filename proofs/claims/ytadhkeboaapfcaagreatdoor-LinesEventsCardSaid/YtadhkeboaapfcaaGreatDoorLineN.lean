/- reveillelaw30.line at kind 4. -/
import Derived.Test.YtadhkeboaapfcaaGreatDoorLineH
import Derived.Test.YtadhkeboaapfcaaGreatDoorLow
import Derived.Deep.DeepCutAuto
import Derived.BigRegion
import Derived.BigQuiet
namespace Go.Proofs.YtadhkeboaapfcaaGreatDoor.EvW
open Go.RowKit OctMath NameMath HexMath
set_option linter.unusedVariables false
set_option linter.unusedSimpArgs false
set_option maxRecDepth 100000


set_option maxHeartbeats 12800000 in
theorem line_4 (v : Ev) (s : EvS) (hsm : EvOk v) (hi : EvI v) (W : World) (hin : EvIn W v s) (hcap : v.tags.length ≤ s.tc) (hk : v.kind = 4) (hg : guardB v = true) (hbk : v.keys.any badK = false) :
    Calls Tryz.prog 10 #[.agg (v.cells s)] W fun e w' => e = .returned (.string (S (if condB v 4 then lineS v 4 else []))) ∧ Below W.heap.size W w' := by
  generalize hRR : (if condB v 4 then lineS v 4 else []) = RR
  have HRR := Lib.hid hRR
  clear hRR
  have HP := Lib.hid (guard_parts hg)
  have HK := Lib.hid hbk
  have HG := Lib.hid hg
  have HSM := Lib.hid hsm
  have HI := Lib.hid hi
  have HB : Hid (Below W.heap.size W (W.alloc (.cells (v.cells s) 25))) := (Below.refl _ W).alloc (Nat.le_refl _) _
  have HIN := Lib.hid (hin.below HB.out)
  have HX : Hid (Boxed (W.alloc (.cells (v.cells s) 25)) W.heap.size (v.cells s)) := Boxed.new W _ _
  have hcv : (v.cells s).size = 14 := rfl
  have hsz := S_size
  clear hsm hi hin hg hbk
  go_enter Tryz.func10, Tryz.ntmps10
  go_upto_region 1 with fail
  generalize (W.alloc (.cells (v.cells s) 25)) = w1 at *
  clear hcv
  have c0 : w1.cell? ⟨W.heap.size, 0, none⟩ = some (.int .i64 v.kind) := HX.out 0 _ rfl
  have c1 : w1.cell? ⟨W.heap.size, 1, none⟩ = some (.int .i64 v.queue) := HX.out 1 _ rfl
  have c2 : w1.cell? ⟨W.heap.size, 2, none⟩ = some (.int .i64 v.n) := HX.out 2 _ rfl
  have c3 : w1.cell? ⟨W.heap.size, 3, none⟩ = some (.int .i64 v.aat) := HX.out 3 _ rfl
  have c4 : w1.cell? ⟨W.heap.size, 4, none⟩ = some (.int .i64 v.lack) := HX.out 4 _ rfl
  rw [hk] at c0
  have HNB := Lib.hid (small_any (some ⟨w1.heap.size, 0, none⟩) 4 [v.queue, v.n, v.aat, v.lack] (by simp))
  rw [HP.out.1] at HNB
  go_wp2_with fail
  refine (HNB.out _ ?nrow).mono ?_
  case nrow => exact fun i hi => ⟨_, 0, rfl, by rw [World.cell?_alloc_new]; match i, hi with | 0, _ => rfl | 1, _ => rfl | 2, _ => rfl | 3, _ => rfl⟩
  rintro e w2 ⟨rfl, hd⟩
  have hb : Below w1.heap.size w1 w2 := ((Below.refl _ w1).alloc (Nat.le_refl _) _).trans (hd.below _)
  clear hd c0 c1 c2 c3 c4 HNB
  replace HX := Lib.hid (HX.out.below hb)
  replace HIN := Lib.hid (HIN.out.below hb)
  replace HB := Lib.hid (HB.out.trans (hb.mono HB.out.size))
  clear hb
  have c7 : w2.cell? ⟨W.heap.size, 7, none⟩ = some (.string (S v.tag)) := HX.out 7 _ rfl
  have HTG := Lib.hid (fun w => NameW.rtag_any v.tag (by have := HSM.out.tag; omega) w)
  rw [HP.out.2.1] at HTG
  go_wp2_with fail
  refine (HTG.out _).mono ?_
  rintro e w3 ⟨rfl, hd⟩
  have hb := hd.below w2.heap.size
  clear hd c7 HTG
  replace HX := Lib.hid (HX.out.below hb)
  replace HIN := Lib.hid (HIN.out.below hb)
  replace HB := Lib.hid (HB.out.trans (hb.mono HB.out.size))
  clear hb
  have c8 : w3.cell? ⟨W.heap.size, 8, none⟩ = some (.string (S v.key)) := HX.out 8 _ rfl
  have c9 : w3.cell? ⟨W.heap.size, 9, none⟩ = some (.string (S v.body)) := HX.out 9 _ rfl
  have c10 : w3.cell? ⟨W.heap.size, 10, none⟩ = some (.slice s.ka v.keys.length s.kc) := HX.out 10 _ rfl
  have c11 : w3.cell? ⟨W.heap.size, 11, none⟩ = some (.slice s.ta v.tags.length s.tc) := HX.out 11 _ rfl
  have c12 : w3.cell? ⟨W.heap.size, 12, none⟩ = some (.slice s.pa v.keep.length s.pc) := HX.out 12 _ rfl
  have HFL := Lib.hid (fun w h => lfilter_any s.ta s.tc v.tags (by have := HSM.out.tags; omega) hcap HSM.out.tagsz w h)
  rw [HP.out.2.2.1] at HFL
  go_wp2_with fail
  refine (HFL.out _ HIN.out.tags).mono ?_
  rintro e w4 ⟨rfl, hd⟩
  have hb := hd.below w3.heap.size
  clear hd c8 c9 c10 c11 c12 HFL
  replace HX := Lib.hid (HX.out.below hb)
  replace HIN := Lib.hid (HIN.out.below hb)
  replace HB := Lib.hid (HB.out.trans (hb.mono HB.out.size))
  clear hb
  have c8 : w4.cell? ⟨W.heap.size, 8, none⟩ = some (.string (S v.key)) := HX.out 8 _ rfl
  have c9 : w4.cell? ⟨W.heap.size, 9, none⟩ = some (.string (S v.body)) := HX.out 9 _ rfl
  have c10 : w4.cell? ⟨W.heap.size, 10, none⟩ = some (.slice s.ka v.keys.length s.kc) := HX.out 10 _ rfl
  have c12 : w4.cell? ⟨W.heap.size, 12, none⟩ = some (.slice s.pa v.keep.length s.pc) := HX.out 12 _ rfl
  have hp1 := HP.out.2.2.2.1
  have hp2 := HP.out.2.2.2.2.1
  have hp3 := HP.out.2.2.2.2.2.1
  have hp4 := HP.out.2.2.2.2.2.2
  have g1 : decide (300 < (v.body.length : Int)) = false := decide_eq_false (by omega)
  have g2 : decide (300 < (v.key.length : Int)) = false := decide_eq_false (by omega)
  have g3 : decide (10 < (v.keys.length : Int)) = false := decide_eq_false (by omega)
  have g4 : decide (100 < (v.keep.length : Int)) = false := decide_eq_false (by omega)
  go_wp2_with fail
  clear g1 g2 g3 g4
  have HKL : Hid (Row1 w4 s.ka (v.keys.map fun x => .string (S x))) := row_strs HIN.out.keys
  have htl := NameW.S_toList
  go_loopw [74] (fun i wr => ∃ k : Nat, k ≤ v.keys.length ∧ i = .int .i64 (k : Int) ∧ wr = w4) (fun i _ => v.keys.length + 1 - (intOf i).toNat)
  case atStart => exact ⟨0, by omega, rfl, rfl⟩
  case round =>
    obtain ⟨k, hkk, rfl, rfl⟩ := hrel
    by_cases hlt : k < v.keys.length
    · obtain ⟨b, off, hbo, hcell⟩ := HKL.out k (by rw [List.length_map]; exact hlt)
      rw [List.getElem_map] at hcell
      have hgood := key_good HK.out (List.getElem_mem hlt)
      generalize v.keys[k] = x at *
      have hxe : (x == []) = false := by simp [hgood.1]
      have hx3 := hgood.2
      clear hgood c8 c9 c10 c12
      rw [hbo] at *
      go_wp2_with fail
      go_roundw
      case rel => exact ⟨k + 1, by omega, by go_num, trivial⟩
      case measure => simp [intOf]; omega
    · obtain rfl : k = v.keys.length := by omega
      clear HKL c8 c9 c10 c12 hlt hkk
      have c0 : wr.cell? ⟨W.heap.size, 0, none⟩ = some (.int .i64 v.kind) := HX.out 0 _ rfl
      have c1 : wr.cell? ⟨W.heap.size, 1, none⟩ = some (.int .i64 v.queue) := HX.out 1 _ rfl
      have c2 : wr.cell? ⟨W.heap.size, 2, none⟩ = some (.int .i64 v.n) := HX.out 2 _ rfl
      have c3 : wr.cell? ⟨W.heap.size, 3, none⟩ = some (.int .i64 v.aat) := HX.out 3 _ rfl
      have c4 : wr.cell? ⟨W.heap.size, 4, none⟩ = some (.int .i64 v.lack) := HX.out 4 _ rfl
      have c5 : wr.cell? ⟨W.heap.size, 5, none⟩ = some (.string (S v.topic)) := HX.out 5 _ rfl
      have c6 : wr.cell? ⟨W.heap.size, 6, none⟩ = some (.string (S v.group)) := HX.out 6 _ rfl
      have c7 : wr.cell? ⟨W.heap.size, 7, none⟩ = some (.string (S v.tag)) := HX.out 7 _ rfl
      have c8 : wr.cell? ⟨W.heap.size, 8, none⟩ = some (.string (S v.key)) := HX.out 8 _ rfl
      have c9 : wr.cell? ⟨W.heap.size, 9, none⟩ = some (.string (S v.body)) := HX.out 9 _ rfl
      have c10 : wr.cell? ⟨W.heap.size, 10, none⟩ = some (.slice s.ka v.keys.length s.kc) := HX.out 10 _ rfl
      have c11 : wr.cell? ⟨W.heap.size, 11, none⟩ = some (.slice s.ta v.tags.length s.tc) := HX.out 11 _ rfl
      have c12 : wr.cell? ⟨W.heap.size, 12, none⟩ = some (.slice s.pa v.keep.length s.pc) := HX.out 12 _ rfl
      have c13 : wr.cell? ⟨W.heap.size, 13, none⟩ = some (.bool v.sync) := HX.out 13 _ rfl
      rw [hk] at c0
      have hdq : ∀ (x : Int), (-9223372036854775808 ≤ x ∧ x ≤ 9223372036854775807) → ∀ (w : World) (n : Nat), Calls Tryz.prog 17 #[.int .i64 x] (w.drewN n) fun e w'' => e = .returned (.string (S (Lib.itoa x))) ∧ ∃ m, w'' = w.drewN m := fun x hx w n => (digits_any x hx.1 hx.2 _).mono fun _ _ h => ⟨h.1, n, h.2⟩
      have HDQ1 := Lib.hid (hdq v.queue HI.out.queue)
      have HDQ2 := Lib.hid (hdq v.n HI.out.n)
      have HDQ3 := Lib.hid (hdq v.aat HI.out.aat)
      have HDQ4 := Lib.hid (hdq v.lack HI.out.lack)
      clear hdq
      have hz := part_sizes HSM.out HI.out HG.out HK.out
      have hz1 := hz.1
      have hz2 := hz.2.1
      have hz3 := hz.2.2.1
      have hz4 := hz.2.2.2.1
      have hz5 := hz.2.2.2.2.1
      have hz6 := hz.2.2.2.2.2.1
      have hz7 := hz.2.2.2.2.2.2.1
      have hz8 := hz.2.2.2.2.2.2.2.1
      have hz9 := hz.2.2.2.2.2.2.2.2
      clear hz
      have HKS : Hid (∀ (n : Nat), Calls Tryz.prog 29 #[.slice s.ka v.keys.length s.kc] (wr.drewN n) fun e w'' => e = .returned (.string (S (keysL v.keys))) ∧ ∃ m, w'' = wr.drewN m) := fun n => quiet_drawn (keys30_any s.ka s.kc v.keys (by have := HP.out.2.2.2.2.2.1; omega) (fun t ht => by have := (key_good HK.out ht).2; omega) _ (HIN.out.keys.below (Drawn.below ⟨n, rfl⟩ _)))
      have HTS : Hid (∀ (w : World) (n : Nat), Calls Tryz.prog 28 #[.string (S v.tag)] (w.drewN n) fun e w'' => e = .returned (.string (S (tagW v))) ∧ ∃ m, w'' = w.drewN m) := fun w n => (tag30_any v.tag _).mono fun _ _ h => ⟨h.1, n, h.2⟩
      have HHB : Hid (∀ (w : World) (n : Nat), Calls Tryz.prog 15 #[.string (S v.body)] (w.drewN n) fun e w'' => e = .returned (.string (S (hexL v.body))) ∧ ∃ m, w'' = w.drewN m) := fun w n => quiet_drawn (LinW.rhex_any v.body (by have := HP.out.2.2.2.1; omega) _)
      clear hsz htl hp1 hp2 hp3 hp4
      generalize hsy0 : v.sync = sy at c13
      cases sy
      all_goals
        go_wp2_with fail
        go_quiet (first | (go_at_call_of 17 (Value.int .i64 v.queue); exact HDQ1.out _ _) | (go_at_call_of 17 (Value.int .i64 v.n); exact HDQ2.out _ _) | (go_at_call_of 17 (Value.int .i64 v.aat); exact HDQ3.out _ _) | (go_at_call_of 17 (Value.int .i64 v.lack); exact HDQ4.out _ _) | (go_at_call 28; exact HTS.out _ _) | (go_at_call 29; exact HKS.out _) | (go_at_call 15; exact HHB.out _ _))
        obtain ⟨wq, hwq⟩ : ∃ wz, wr.drewN nq = wz := ⟨_, rfl⟩
        rw [hwq]
        have hd : Drawn wr wq := ⟨nq, hwq.symm⟩
        have hb := hd.below wr.heap.size
        clear hwq hd c0 c1 c2 c3 c4 c5 c6 c7 c8 c9 c10 c11 c12 c13
        replace HX := Lib.hid (HX.out.below hb)
        replace HIN := Lib.hid (HIN.out.below hb)
        replace HB := Lib.hid (HB.out.trans (hb.mono HB.out.size))
        clear hb
        first
        | rw [send_f hsy0]
        | rw [send_t hsy0]
        have c0 : wq.cell? ⟨W.heap.size, 0, none⟩ = some (.int .i64 v.kind) := HX.out 0 _ rfl
        have c1 : wq.cell? ⟨W.heap.size, 1, none⟩ = some (.int .i64 v.queue) := HX.out 1 _ rfl
        have c3 : wq.cell? ⟨W.heap.size, 3, none⟩ = some (.int .i64 v.aat) := HX.out 3 _ rfl
        have c5 : wq.cell? ⟨W.heap.size, 5, none⟩ = some (.string (S v.topic)) := HX.out 5 _ rfl
        have c6 : wq.cell? ⟨W.heap.size, 6, none⟩ = some (.string (S v.group)) := HX.out 6 _ rfl
        rw [hk] at c0
        go_wp2_with fail
        go_quiet (first | (go_at_call_of 17 (Value.int .i64 v.queue); exact HDQ1.out _ _) | (go_at_call_of 17 (Value.int .i64 v.n); exact HDQ2.out _ _) | (go_at_call_of 17 (Value.int .i64 v.aat); exact HDQ3.out _ _) | (go_at_call_of 17 (Value.int .i64 v.lack); exact HDQ4.out _ _) | (go_at_call 28; exact HTS.out _ _) | (go_at_call 29; exact HKS.out _) | (go_at_call 15; exact HHB.out _ _))
        obtain ⟨wq2, hwq⟩ : ∃ wz, wq.drewN nq = wz := ⟨_, rfl⟩
        rw [hwq]
        have hd : Drawn wq wq2 := ⟨nq, hwq.symm⟩
        have hb := hd.below wq.heap.size
        clear hwq hd c0 c1 c3 c5 c6
        replace HX := Lib.hid (HX.out.below hb)
        replace HIN := Lib.hid (HIN.out.below hb)
        replace HB := Lib.hid (HB.out.trans (hb.mono HB.out.size))
        clear hb
        rw [group_eq v]
        have c0 : wq2.cell? ⟨W.heap.size, 0, none⟩ = some (.int .i64 v.kind) := HX.out 0 _ rfl
        rw [hk] at c0
        go_upto_region 17 with fail
        clear c0
        have HT10 : Hid ((wq2.alloc (.cells #[.int .i64 4, .int .i64 0, .int .i64 0, .int .i64 0, .int .i64 0, .string ⟨#[]⟩, .string ⟨#[]⟩, .string ⟨#[]⟩, .string ⟨#[]⟩, .string ⟨#[]⟩, .slice none 0 0, .slice none 0 0, .slice none 0 0, .bool false] 25)).heap[wq2.heap.size]? = some (.cells ((ev0 4).cells evs0) 25 (0, 0))) := World.alloc_heap_new _ _
        have hb : Below wq2.heap.size wq2 (wq2.alloc (.cells #[.int .i64 4, .int .i64 0, .int .i64 0, .int .i64 0, .int .i64 0, .string ⟨#[]⟩, .string ⟨#[]⟩, .string ⟨#[]⟩, .string ⟨#[]⟩, .string ⟨#[]⟩, .slice none 0 0, .slice none 0 0, .slice none 0 0, .bool false] 25)) := (Below.refl _ _).alloc (Nat.le_refl _) _
        have hB10 : W.heap.size < wq2.heap.size := by have := HX.out 0 _ rfl; exact cell_lt this
        obtain ⟨wA, hwA⟩ : ∃ wA, (wq2.alloc (.cells #[.int .i64 4, .int .i64 0, .int .i64 0, .int .i64 0, .int .i64 0, .string ⟨#[]⟩, .string ⟨#[]⟩, .string ⟨#[]⟩, .string ⟨#[]⟩, .string ⟨#[]⟩, .slice none 0 0, .slice none 0 0, .slice none 0 0, .bool false] 25)) = wA := ⟨_, rfl⟩
        rw [hwA] at HT10 hb ⊢
        generalize hB10e : wq2.heap.size = B10 at HT10 hb hB10 ⊢
        clear hwA
        have HBL := Lib.hid hb
        have HXq := HX
        have HINq := HIN
        have HBq := HB
        have HBE := Lib.hid hB10e
        replace HX := Lib.hid (HX.out.below (hB10e ▸ hb))
        replace HIN := Lib.hid (HIN.out.below (hB10e ▸ hb))
        replace HB := Lib.hid (HB.out.trans (hb.mono (by omega)))
        clear hb hB10e
        have c0 : wA.cell? ⟨W.heap.size, 0, none⟩ = some (.int .i64 v.kind) := HX.out 0 _ rfl
        rw [hk] at c0
        go_upto_region 48 with fail
        clear c0
        have c2 : wA.cell? ⟨W.heap.size, 2, none⟩ = some (.int .i64 v.n) := HX.out 2 _ rfl
        have hz9 := HT10.out
        have d2 : wA.cell? ⟨B10, 2, none⟩ = some (.int .i64 0) := by unfold World.cell?; rw [show wA.heap[(⟨B10, 2, none⟩ : Addr).block]? = _ from hz9]; rfl
        have hfr : ∀ j, wA.frozen? ⟨B10, j, none⟩ = false := fun j => by unfold World.frozen?; rw [show wA.heap[(⟨B10, j, none⟩ : Addr).block]? = _ from hz9]; rfl
        clear hz9
        go_upto_region 49 with fail
        obtain ⟨wN, hwwN⟩ : ∃ wz, (wA.setCell ⟨B10, 2, none⟩ (.int .i64 v.n)) = wz := ⟨_, rfl⟩
        rw [hwwN]
        have HTwN : Hid (wN.heap[B10]? = some (.cells #[.int .i64 4, .int .i64 0, .int .i64 v.n, .int .i64 0, .int .i64 0, .string (S []), .string (S []), .string (S []), .string (S []), .string (S []), .slice none 0 0, .slice none 0 0, .slice none 0 0, .bool false] 25 (0, 0))) := by
          have h0 : wA.heap[B10]? = some (.cells #[.int .i64 4, .int .i64 0, .int .i64 0, .int .i64 0, .int .i64 0, .string (S []), .string (S []), .string (S []), .string (S []), .string (S []), .slice none 0 0, .slice none 0 0, .slice none 0 0, .bool false] 25 (0, 0)) := HT10.out
          have h1 := heap_setCell_same _ B10 2 _ _ (.int .i64 v.n) h0
          simp only [List.setIfInBounds_toArray, List.set_cons_zero, List.set_cons_succ] at h1
          show wN.heap[B10]? = _
          rw [← hwwN]
          exact h1
        have hb : Below B10 wq2 wN := by rw [← hwwN]; exact (HBL.out.setCell (p := ⟨B10, 2, none⟩) (Nat.le_refl _) _)
        clear hwwN
        replace HX := Lib.hid (HXq.out.below (HBE.out ▸ hb))
        replace HIN := Lib.hid (HINq.out.below (HBE.out ▸ hb))
        replace HB := Lib.hid (HBq.out.trans (hb.mono (Nat.le_of_lt hB10)))
        clear hb HT10 HBL HXq HINq HBq c2 d2 hfr wA
        have hNs : W.heap.size < wN.heap.size := by have := HX.out 0 _ rfl; exact cell_lt this
        have HCN : Hid (∀ w, LitMap.Lasts wN.heap.size wN.drew w → w.cell? ⟨W.heap.size, 0, none⟩ = some (.int .i64 4) ∧ w.cell? ⟨W.heap.size, 2, none⟩ = some (.int .i64 v.n)) := by
          intro w hw
          have hx := HX.out.below ((Below.refl _ _).drew.trans hw.below)
          have h0 : w.cell? ⟨W.heap.size, 0, none⟩ = some (.int .i64 v.kind) := hx 0 _ rfl
          rw [hk] at h0
          exact ⟨h0, hx 2 _ rfl⟩
        refine GrowN.wp_region_n 16 [some (.inr fun _ u w => ∃ b, u = .map (some b) ∧ wN.heap.size ≤ b ∧ LitMap.MapAt w b), some (.inr fun l _ w => ∃ b, l = [some (.map (some b))] ∧ wN.heap.size ≤ b ∧ LitMap.Has w b 4), some (.inr fun _ _ _ => True), some (.inr fun _ _ _ => True), some (.inr fun _ _ _ => True), some (.inr fun _ _ _ => True), some (.inr fun _ u w => ∃ b, u = .map (some b) ∧ LitMap.Has w b 4), none, some (.inl (.int .i64 4)), some (.inl (.string ⟨#[67, 65, 78, 67, 69, 76, 32]⟩)), none, none, some (.inl (.int .i64 v.n)), some (.inl (.string (S (Lib.itoa v.n)))), some (.inl (.string (⟨#[67, 65, 78, 67, 69, 76, 32]⟩ ++ S (Lib.itoa v.n)))), none] (LitMap.Lasts wN.heap.size) (by kernel_rfl) (by kernel_rfl) (by kernel_rfl) (LitMap.Lasts.refl _) (fun _ _ _ => LitMap.Lasts.trans) ?_ ?_
        · intro K hK Y hY l u w w' hR h
          have hR : LitMap.Lasts wN.heap.size w w' := hR
          simp only [List.mem_cons, List.not_mem_nil, or_false] at hK
          rcases hK with rfl | rfl | rfl | rfl | rfl | rfl | rfl | rfl | rfl | rfl | rfl | rfl | rfl | rfl | rfl | rfl <;> simp only [reduceCtorEq, Option.some.injEq, Sum.inr.injEq] at hY
          · subst hY; obtain ⟨b, rfl, hb, hm⟩ := h; exact ⟨b, rfl, hb, hR.map b hm⟩
          · subst hY; obtain ⟨b, rfl, hb, hm⟩ := h; exact ⟨b, rfl, hb, hR.has b _ hm⟩
          · subst hY; trivial
          · subst hY; trivial
          · subst hY; trivial
          · subst hY; trivial
          · subst hY; obtain ⟨b, rfl, hm⟩ := h; exact ⟨b, rfl, hR.has b _ hm⟩
        have htake := trivial
        simp only [List.take_succ_cons, List.take_zero, List.drop_succ_cons, List.drop_zero]
        refine GrowN.g_new rfl (fun w2 hw hF => ?_) (fun v0 => ?_)
        · clear hF
          have hmk := LitMap.Lasts.made w2 hw.below.size
          have hrun : (Instr.makeMap 57 none).run Tryz.prog w2 = .ok (.map (some w2.heap.size)) (w2.alloc (.map #[] 0)) := rfl
          have hsz : wN.heap.size ≤ w2.heap.size := hw.below.size
          go_simp
          exact ⟨⟨_, rfl, hsz, hmk.2⟩, hmk.1⟩
        simp only [Act.put, List.setIfInBounds_toArray, List.set_cons_zero, List.set_cons_succ]
        refine GrowN.g_new rfl (fun w2 hw hF => ?_) (fun v1 => ?_)
        · obtain ⟨b, rfl, hNb, hM⟩ := hF _ (.head _) (by kernel_rfl)
          clear hF
          obtain ⟨w3, hrun, hh, hl⟩ := LitMap.insert_step (P := Tryz.prog) Tryz.underlying57 Tryz.underlying3 hM hNb 4
          replace hrun : (Instr.mapUpdate 57 (.map (some b)) (.int .i64 4) (.string ⟨#[67, 65, 78, 67, 69, 76, 32]⟩)).run Tryz.prog w2 = .ok () w3 := hrun
          go_simp
          first
          | exact ⟨⟨b, rfl, hNb, hh⟩, hl⟩
          | exact ⟨b, rfl, hNb, hh⟩
          | exact ⟨rfl, hNb, hh⟩
        simp only [Act.put, List.setIfInBounds_toArray, List.set_cons_zero, List.set_cons_succ]
        refine GrowN.g_new rfl (fun w2 hw hF => ?_) (fun v2 => ?_)
        · obtain ⟨b, rfl, hNb, hM⟩ := hF _ (.tail _ (.head _)) (by kernel_rfl)
          clear hF
          obtain ⟨w3, hrun, hh, hl⟩ := LitMap.insert_step (P := Tryz.prog) Tryz.underlying57 Tryz.underlying3 hM hNb 10
          replace hrun : (Instr.mapUpdate 57 (.map (some b)) (.int .i64 10) (.string ⟨#[83, 84, 65, 84, 85, 83, 32]⟩)).run Tryz.prog w2 = .ok () w3 := hrun
          go_simp
          all_goals exact hl
        simp only [Act.put, List.setIfInBounds_toArray, List.set_cons_zero, List.set_cons_succ]
        refine GrowN.g_new rfl (fun w2 hw hF => ?_) (fun v3 => ?_)
        · obtain ⟨b, rfl, hNb, hM⟩ := hF _ (.tail _ (.tail _ (.head _))) (by kernel_rfl)
          clear hF
          obtain ⟨w3, hrun, hh, hl⟩ := LitMap.insert_step (P := Tryz.prog) Tryz.underlying57 Tryz.underlying3 hM hNb 11
          replace hrun : (Instr.mapUpdate 57 (.map (some b)) (.int .i64 11) (.string ⟨#[80, 73, 67, 75, 32]⟩)).run Tryz.prog w2 = .ok () w3 := hrun
          go_simp
          all_goals exact hl
        simp only [Act.put, List.setIfInBounds_toArray, List.set_cons_zero, List.set_cons_succ]
        refine GrowN.g_new rfl (fun w2 hw hF => ?_) (fun v4 => ?_)
        · obtain ⟨b, rfl, hNb, hM⟩ := hF _ (.tail _ (.tail _ (.tail _ (.head _)))) (by kernel_rfl)
          clear hF
          obtain ⟨w3, hrun, hh, hl⟩ := LitMap.insert_step (P := Tryz.prog) Tryz.underlying57 Tryz.underlying3 hM hNb 12
          replace hrun : (Instr.mapUpdate 57 (.map (some b)) (.int .i64 12) (.string ⟨#[80, 65, 83, 83, 32]⟩)).run Tryz.prog w2 = .ok () w3 := hrun
          go_simp
          all_goals exact hl
        simp only [Act.put, List.setIfInBounds_toArray, List.set_cons_zero, List.set_cons_succ]
        refine GrowN.g_new rfl (fun w2 hw hF => ?_) (fun v5 => ?_)
        · obtain ⟨b, rfl, hNb, hM⟩ := hF _ (.tail _ (.tail _ (.tail _ (.tail _ (.head _))))) (by kernel_rfl)
          clear hF
          obtain ⟨w3, hrun, hh, hl⟩ := LitMap.insert_step (P := Tryz.prog) Tryz.underlying57 Tryz.underlying3 hM hNb 13
          replace hrun : (Instr.mapUpdate 57 (.map (some b)) (.int .i64 13) (.string ⟨#[70, 85, 83, 69, 32]⟩)).run Tryz.prog w2 = .ok () w3 := hrun
          go_simp
          all_goals exact hl
        simp only [Act.put, List.setIfInBounds_toArray, List.set_cons_zero, List.set_cons_succ]
        refine GrowN.g_new rfl (fun w2 hw hF => ?_) (fun v6 => ?_)
        · obtain ⟨b, rfl, hNb, hM⟩ := hF _ (.tail _ (.tail _ (.tail _ (.tail _ (.tail _ (.head _)))))) (by kernel_rfl)
          obtain ⟨b2, hl, hNb2, hH⟩ := hF _ (.tail _ (.tail _ (.tail _ (.tail _ (.head _))))) (by kernel_rfl)
          clear hF
          replace hl : [some (Value.map (some b))] = [some (Value.map (some b2))] := hl
          simp only [List.cons.injEq, Option.some.injEq, Value.map.injEq, and_true] at hl
          subst hl
          go_simp
          exact ⟨⟨b, rfl, hH⟩, LitMap.Lasts.refl _ _⟩
        simp only [Act.put, List.setIfInBounds_toArray, List.set_cons_zero, List.set_cons_succ]
        refine GrowN.g_det rfl ?_
        apply Exists.intro
        refine ⟨fun w hw hF => ?_, ?_⟩
        · clear hF
          go_simp
          exact ⟨rfl, LitMap.Lasts.refl _ _⟩
        simp only [Act.put, List.setIfInBounds_toArray, List.set_cons_zero, List.set_cons_succ]
        refine GrowN.g_con rfl (fun w2 hw hF => ?_) ?_
        · clear hF
          have c0 := (HCN.out w2 hw).1
          go_simp
          exact LitMap.Lasts.refl _ _
        simp only [Act.put, List.setIfInBounds_toArray, List.set_cons_zero, List.set_cons_succ]
        refine GrowN.g_con rfl (fun w2 hw hF => ?_) ?_
        · obtain ⟨b, rfl, hH⟩ := hF _ (.head _) (by kernel_rfl)
          clear hF
          have hrun : (Instr.lookup 57 (.map (some b)) (.int .i64 4) false).run Tryz.prog w2 = .ok (.string ⟨#[67, 65, 78, 67, 69, 76, 32]⟩) w2 := LitMap.lookup_has Tryz.underlying57 Tryz.underlying3 hH
          go_simp
          exact LitMap.Lasts.refl _ _
        simp only [Act.put, List.setIfInBounds_toArray, List.set_cons_zero, List.set_cons_succ]
        refine GrowN.g_det rfl ?_
        apply Exists.intro
        refine ⟨fun w hw hF => ?_, ?_⟩
        · clear hF
          go_simp
          exact ⟨rfl, LitMap.Lasts.refl _ _⟩
        simp only [Act.put, List.setIfInBounds_toArray, List.set_cons_zero, List.set_cons_succ]
        refine GrowN.g_det rfl ?_
        apply Exists.intro
        refine ⟨fun w hw hF => ?_, ?_⟩
        · clear hF
          go_simp
          exact ⟨rfl, LitMap.Lasts.refl _ _⟩
        simp only [Act.put, List.setIfInBounds_toArray, List.set_cons_zero, List.set_cons_succ]
        refine GrowN.g_con rfl (fun w2 hw hF => ?_) ?_
        · clear hF
          have c2 := (HCN.out w2 hw).2
          go_simp
          exact LitMap.Lasts.refl _ _
        simp only [Act.put, List.setIfInBounds_toArray, List.set_cons_zero, List.set_cons_succ]
        refine GrowN.g_con rfl (fun w2 hw hF => ?_) ?_
        · clear hF
          go_simp
          exact (digits_any v.n HI.out.n.1 HI.out.n.2 w2).mono fun e w3 h => ⟨_, h.1, rfl, h.2 ▸ LitMap.Lasts.refl _ _⟩
        simp only [Act.put, List.setIfInBounds_toArray, List.set_cons_zero, List.set_cons_succ]
        refine GrowN.g_con rfl (fun w2 hw hF => ?_) ?_
        · clear hF
          go_simp
          rw [if_neg (by omega)]
          exact ⟨rfl, LitMap.Lasts.refl _ _⟩
        simp only [Act.put, List.setIfInBounds_toArray, List.set_cons_zero, List.set_cons_succ]
        refine GrowN.g_det rfl ?_
        apply Exists.intro
        refine ⟨fun w hw hF => ?_, ?_⟩
        · clear hF
          go_simp
          exact ⟨rfl, LitMap.Lasts.refl _ _⟩
        simp only [Act.put, List.setIfInBounds_toArray, List.set_cons_zero, List.set_cons_succ]
        refine GrowN.g_nil fun w3 hw3 hF => ?_
        clear hF
        refine wpList_nil ?_
        have hb : Below wN.heap.size wN w3 := (Below.refl _ _).drew.trans hw3.below
        have hlt : B10 < wN.heap.size := by have h := HTwN.out; exact (Array.getElem?_eq_some_iff.1 h).1
        have HTW : Hid (w3.heap[B10]? = some (.cells #[.int .i64 4, .int .i64 0, .int .i64 v.n, .int .i64 0, .int .i64 0, .string (S []), .string (S []), .string (S []), .string (S []), .string (S []), .slice none 0 0, .slice none 0 0, .slice none 0 0, .bool false] 25 (0, 0))) := by show w3.heap[B10]? = _; rw [hb.block _ hlt]; exact HTwN.out
        clear hw3 HTwN hlt HCN
        replace HX := Lib.hid (HX.out.below hb)
        replace HIN := Lib.hid (HIN.out.below hb)
        replace HB := Lib.hid (HB.out.trans (hb.mono HB.out.size))
        clear hb
        clear hNs
        clear wN
        generalize w3 = wA at *
        have c0 : wA.cell? ⟨W.heap.size, 0, none⟩ = some (.int .i64 v.kind) := HX.out 0 _ rfl
        rw [hk] at c0
        go_upto_region 56 with fail
        clear c0
        have c0 : wA.cell? ⟨W.heap.size, 0, none⟩ = some (.int .i64 v.kind) := HX.out 0 _ rfl
        have c1 : wA.cell? ⟨W.heap.size, 1, none⟩ = some (.int .i64 v.queue) := HX.out 1 _ rfl
        have c2 : wA.cell? ⟨W.heap.size, 2, none⟩ = some (.int .i64 v.n) := HX.out 2 _ rfl
        have c3 : wA.cell? ⟨W.heap.size, 3, none⟩ = some (.int .i64 v.aat) := HX.out 3 _ rfl
        have c4 : wA.cell? ⟨W.heap.size, 4, none⟩ = some (.int .i64 v.lack) := HX.out 4 _ rfl
        have c5 : wA.cell? ⟨W.heap.size, 5, none⟩ = some (.string (S v.topic)) := HX.out 5 _ rfl
        have c6 : wA.cell? ⟨W.heap.size, 6, none⟩ = some (.string (S v.group)) := HX.out 6 _ rfl
        have c7 : wA.cell? ⟨W.heap.size, 7, none⟩ = some (.string (S v.tag)) := HX.out 7 _ rfl
        have c8 : wA.cell? ⟨W.heap.size, 8, none⟩ = some (.string (S v.key)) := HX.out 8 _ rfl
        have c9 : wA.cell? ⟨W.heap.size, 9, none⟩ = some (.string (S v.body)) := HX.out 9 _ rfl
        have c10 : wA.cell? ⟨W.heap.size, 10, none⟩ = some (.slice s.ka v.keys.length s.kc) := HX.out 10 _ rfl
        have c11 : wA.cell? ⟨W.heap.size, 11, none⟩ = some (.slice s.ta v.tags.length s.tc) := HX.out 11 _ rfl
        have c12 : wA.cell? ⟨W.heap.size, 12, none⟩ = some (.slice s.pa v.keep.length s.pc) := HX.out 12 _ rfl
        have c13 : wA.cell? ⟨W.heap.size, 13, none⟩ = some (.bool v.sync) := HX.out 13 _ rfl
        rw [hk] at c0
        have hz9 := HTW.out
        have d0 : wA.cell? ⟨B10, 0, none⟩ = some (.int .i64 4) := by unfold World.cell?; rw [show wA.heap[(⟨B10, 0, none⟩ : Addr).block]? = _ from hz9]; rfl
        have d1 : wA.cell? ⟨B10, 1, none⟩ = some (.int .i64 0) := by unfold World.cell?; rw [show wA.heap[(⟨B10, 1, none⟩ : Addr).block]? = _ from hz9]; rfl
        have d2 : wA.cell? ⟨B10, 2, none⟩ = some (.int .i64 v.n) := by unfold World.cell?; rw [show wA.heap[(⟨B10, 2, none⟩ : Addr).block]? = _ from hz9]; rfl
        have d3 : wA.cell? ⟨B10, 3, none⟩ = some (.int .i64 0) := by unfold World.cell?; rw [show wA.heap[(⟨B10, 3, none⟩ : Addr).block]? = _ from hz9]; rfl
        have d4 : wA.cell? ⟨B10, 4, none⟩ = some (.int .i64 0) := by unfold World.cell?; rw [show wA.heap[(⟨B10, 4, none⟩ : Addr).block]? = _ from hz9]; rfl
        have d5 : wA.cell? ⟨B10, 5, none⟩ = some (.string (S [])) := by unfold World.cell?; rw [show wA.heap[(⟨B10, 5, none⟩ : Addr).block]? = _ from hz9]; rfl
        have d6 : wA.cell? ⟨B10, 6, none⟩ = some (.string (S [])) := by unfold World.cell?; rw [show wA.heap[(⟨B10, 6, none⟩ : Addr).block]? = _ from hz9]; rfl
        have d7 : wA.cell? ⟨B10, 7, none⟩ = some (.string (S [])) := by unfold World.cell?; rw [show wA.heap[(⟨B10, 7, none⟩ : Addr).block]? = _ from hz9]; rfl
        have d8 : wA.cell? ⟨B10, 8, none⟩ = some (.string (S [])) := by unfold World.cell?; rw [show wA.heap[(⟨B10, 8, none⟩ : Addr).block]? = _ from hz9]; rfl
        have d9 : wA.cell? ⟨B10, 9, none⟩ = some (.string (S [])) := by unfold World.cell?; rw [show wA.heap[(⟨B10, 9, none⟩ : Addr).block]? = _ from hz9]; rfl
        have d10 : wA.cell? ⟨B10, 10, none⟩ = some (.slice none 0 0) := by unfold World.cell?; rw [show wA.heap[(⟨B10, 10, none⟩ : Addr).block]? = _ from hz9]; rfl
        have d11 : wA.cell? ⟨B10, 11, none⟩ = some (.slice none 0 0) := by unfold World.cell?; rw [show wA.heap[(⟨B10, 11, none⟩ : Addr).block]? = _ from hz9]; rfl
        have d12 : wA.cell? ⟨B10, 12, none⟩ = some (.slice none 0 0) := by unfold World.cell?; rw [show wA.heap[(⟨B10, 12, none⟩ : Addr).block]? = _ from hz9]; rfl
        have d13 : wA.cell? ⟨B10, 13, none⟩ = some (.bool false) := by unfold World.cell?; rw [show wA.heap[(⟨B10, 13, none⟩ : Addr).block]? = _ from hz9]; rfl
        clear hz9
        have hwo : EvOk (wantE v 4) := ⟨Nat.zero_le _, Nat.zero_le _, Nat.zero_le _, Nat.zero_le _, Nat.zero_le _, Nat.zero_le _, Nat.zero_le _, Nat.zero_le _, fun t ht => (by cases ht), fun t ht => (by cases ht)⟩
        have hwi : EvIn wA (wantE v 4) ⟨none, 0, none, 0, none, 0⟩ := ⟨fun i hi => absurd hi (Nat.not_lt_zero _), fun i hi => absurd hi (Nat.not_lt_zero _), fun i hi => absurd hi (Nat.not_lt_zero _)⟩
        have HSC := Lib.hid (ev_same v (wantE v 4) s ⟨none, 0, none, 0, none, 0⟩ HSM.out hwo wA HIN.out hwi)
        rw [show v.cells s = #[.int .i64 4, .int .i64 v.queue, .int .i64 v.n, .int .i64 v.aat, .int .i64 v.lack, .string (S v.topic), .string (S v.group), .string (S v.tag), .string (S v.key), .string (S v.body), .slice s.ka v.keys.length s.kc, .slice s.ta v.tags.length s.tc, .slice s.pa v.keep.length s.pc, .bool v.sync] from by unfold Ev.cells; rw [hk], show Ev.cells (wantE v 4) ⟨none, 0, none, 0, none, 0⟩ = #[.int .i64 4, .int .i64 0, .int .i64 v.n, .int .i64 0, .int .i64 0, .string (S []), .string (S []), .string (S []), .string (S []), .string (S []), .slice none 0 0, .slice none 0 0, .slice none 0 0, .bool false] from rfl] at HSC
        rw [hsy0] at HSC
        clear hwo hwi
        go_wp2_with fail
        refine HSC.out.mono ?_
        rintro e wB ⟨rfl, hb⟩
        clear c0 c1 c2 c3 c4 c5 c6 c7 c8 c9 c10 c11 c12 c13 d0 d1 d2 d3 d4 d5 d6 d7 d8 d9 d10 d11 d12 d13 HSC HTW
        replace HX := Lib.hid (HX.out.below hb)
        replace HIN := Lib.hid (HIN.out.below hb)
        replace HB := Lib.hid (HB.out.trans (hb.mono HB.out.size))
        clear hb
        have HC : Hid (condB v 4 = (sameE v (wantE v 4) && true && true)) := by show _ = _; unfold condB; rfl
        generalize sameE v (wantE v 4) = sb at *
        cases sb with
        | false =>
          have HT : Hid (RR = []) := by show _ = _; rw [← HRR.out, HC.out]; rfl
          have c0 : wB.cell? ⟨W.heap.size, 0, none⟩ = some (.int .i64 v.kind) := HX.out 0 _ rfl
          have c5 : wB.cell? ⟨W.heap.size, 5, none⟩ = some (.string (S v.topic)) := HX.out 5 _ rfl
          have c6 : wB.cell? ⟨W.heap.size, 6, none⟩ = some (.string (S v.group)) := HX.out 6 _ rfl
          rw [hk] at c0
          go_wp2_with fail
          go_ret
          rw [HT.out]
          exact ⟨rfl, HB.out⟩
        | true =>
          have HT : Hid (S RR = S (lineS v 4)) := by show _ = _; rw [← HRR.out, HC.out]; rfl
          have c0 : wB.cell? ⟨W.heap.size, 0, none⟩ = some (.int .i64 v.kind) := HX.out 0 _ rfl
          have c5 : wB.cell? ⟨W.heap.size, 5, none⟩ = some (.string (S v.topic)) := HX.out 5 _ rfl
          have c6 : wB.cell? ⟨W.heap.size, 6, none⟩ = some (.string (S v.group)) := HX.out 6 _ rfl
          rw [hk] at c0
          go_wp2_with fail
          go_ret
          rw [HT.out]
          exact ⟨rfl, HB.out⟩

        skip
end Go.Proofs.YtadhkeboaapfcaaGreatDoor.EvW
namespace Go.Proofs.YtadhkeboaapfcaaGreatDoor.EvW
open Go.RowKit OctMath NameMath HexMath
set_option linter.unusedVariables false
set_option linter.unusedSimpArgs false
set_option maxRecDepth 100000


set_option maxHeartbeats 12800000 in
theorem line_10 (v : Ev) (s : EvS) (hsm : EvOk v) (hi : EvI v) (W : World) (hin : EvIn W v s) (hcap : v.tags.length ≤ s.tc) (hk : v.kind = 10) (hg : guardB v = true) (hbk : v.keys.any badK = false) :
    Calls Tryz.prog 10 #[.agg (v.cells s)] W fun e w' => e = .returned (.string (S (if condB v 10 then lineS v 10 else []))) ∧ Below W.heap.size W w' := by
  generalize hRR : (if condB v 10 then lineS v 10 else []) = RR
  have HRR := Lib.hid hRR
  clear hRR
  have HP := Lib.hid (guard_parts hg)
  have HK := Lib.hid hbk
  have HG := Lib.hid hg
  have HSM := Lib.hid hsm
  have HI := Lib.hid hi
  have HB : Hid (Below W.heap.size W (W.alloc (.cells (v.cells s) 25))) := (Below.refl _ W).alloc (Nat.le_refl _) _
  have HIN := Lib.hid (hin.below HB.out)
  have HX : Hid (Boxed (W.alloc (.cells (v.cells s) 25)) W.heap.size (v.cells s)) := Boxed.new W _ _
  have hcv : (v.cells s).size = 14 := rfl
  have hsz := S_size
  clear hsm hi hin hg hbk
  go_enter Tryz.func10, Tryz.ntmps10
  go_upto_region 1 with fail
  generalize (W.alloc (.cells (v.cells s) 25)) = w1 at *
  clear hcv
  have c0 : w1.cell? ⟨W.heap.size, 0, none⟩ = some (.int .i64 v.kind) := HX.out 0 _ rfl
  have c1 : w1.cell? ⟨W.heap.size, 1, none⟩ = some (.int .i64 v.queue) := HX.out 1 _ rfl
  have c2 : w1.cell? ⟨W.heap.size, 2, none⟩ = some (.int .i64 v.n) := HX.out 2 _ rfl
  have c3 : w1.cell? ⟨W.heap.size, 3, none⟩ = some (.int .i64 v.aat) := HX.out 3 _ rfl
  have c4 : w1.cell? ⟨W.heap.size, 4, none⟩ = some (.int .i64 v.lack) := HX.out 4 _ rfl
  rw [hk] at c0
  have HNB := Lib.hid (small_any (some ⟨w1.heap.size, 0, none⟩) 4 [v.queue, v.n, v.aat, v.lack] (by simp))
  rw [HP.out.1] at HNB
  go_wp2_with fail
  refine (HNB.out _ ?nrow).mono ?_
  case nrow => exact fun i hi => ⟨_, 0, rfl, by rw [World.cell?_alloc_new]; match i, hi with | 0, _ => rfl | 1, _ => rfl | 2, _ => rfl | 3, _ => rfl⟩
  rintro e w2 ⟨rfl, hd⟩
  have hb : Below w1.heap.size w1 w2 := ((Below.refl _ w1).alloc (Nat.le_refl _) _).trans (hd.below _)
  clear hd c0 c1 c2 c3 c4 HNB
  replace HX := Lib.hid (HX.out.below hb)
  replace HIN := Lib.hid (HIN.out.below hb)
  replace HB := Lib.hid (HB.out.trans (hb.mono HB.out.size))
  clear hb
  have c7 : w2.cell? ⟨W.heap.size, 7, none⟩ = some (.string (S v.tag)) := HX.out 7 _ rfl
  have HTG := Lib.hid (fun w => NameW.rtag_any v.tag (by have := HSM.out.tag; omega) w)
  rw [HP.out.2.1] at HTG
  go_wp2_with fail
  refine (HTG.out _).mono ?_
  rintro e w3 ⟨rfl, hd⟩
  have hb := hd.below w2.heap.size
  clear hd c7 HTG
  replace HX := Lib.hid (HX.out.below hb)
  replace HIN := Lib.hid (HIN.out.below hb)
  replace HB := Lib.hid (HB.out.trans (hb.mono HB.out.size))
  clear hb
  have c8 : w3.cell? ⟨W.heap.size, 8, none⟩ = some (.string (S v.key)) := HX.out 8 _ rfl
  have c9 : w3.cell? ⟨W.heap.size, 9, none⟩ = some (.string (S v.body)) := HX.out 9 _ rfl
  have c10 : w3.cell? ⟨W.heap.size, 10, none⟩ = some (.slice s.ka v.keys.length s.kc) := HX.out 10 _ rfl
  have c11 : w3.cell? ⟨W.heap.size, 11, none⟩ = some (.slice s.ta v.tags.length s.tc) := HX.out 11 _ rfl
  have c12 : w3.cell? ⟨W.heap.size, 12, none⟩ = some (.slice s.pa v.keep.length s.pc) := HX.out 12 _ rfl
  have HFL := Lib.hid (fun w h => lfilter_any s.ta s.tc v.tags (by have := HSM.out.tags; omega) hcap HSM.out.tagsz w h)
  rw [HP.out.2.2.1] at HFL
  go_wp2_with fail
  refine (HFL.out _ HIN.out.tags).mono ?_
  rintro e w4 ⟨rfl, hd⟩
  have hb := hd.below w3.heap.size
  clear hd c8 c9 c10 c11 c12 HFL
  replace HX := Lib.hid (HX.out.below hb)
  replace HIN := Lib.hid (HIN.out.below hb)
  replace HB := Lib.hid (HB.out.trans (hb.mono HB.out.size))
  clear hb
  have c8 : w4.cell? ⟨W.heap.size, 8, none⟩ = some (.string (S v.key)) := HX.out 8 _ rfl
  have c9 : w4.cell? ⟨W.heap.size, 9, none⟩ = some (.string (S v.body)) := HX.out 9 _ rfl
  have c10 : w4.cell? ⟨W.heap.size, 10, none⟩ = some (.slice s.ka v.keys.length s.kc) := HX.out 10 _ rfl
  have c12 : w4.cell? ⟨W.heap.size, 12, none⟩ = some (.slice s.pa v.keep.length s.pc) := HX.out 12 _ rfl
  have hp1 := HP.out.2.2.2.1
  have hp2 := HP.out.2.2.2.2.1
  have hp3 := HP.out.2.2.2.2.2.1
  have hp4 := HP.out.2.2.2.2.2.2
  have g1 : decide (300 < (v.body.length : Int)) = false := decide_eq_false (by omega)
  have g2 : decide (300 < (v.key.length : Int)) = false := decide_eq_false (by omega)
  have g3 : decide (10 < (v.keys.length : Int)) = false := decide_eq_false (by omega)
  have g4 : decide (100 < (v.keep.length : Int)) = false := decide_eq_false (by omega)
  go_wp2_with fail
  clear g1 g2 g3 g4
  have HKL : Hid (Row1 w4 s.ka (v.keys.map fun x => .string (S x))) := row_strs HIN.out.keys
  have htl := NameW.S_toList
  go_loopw [74] (fun i wr => ∃ k : Nat, k ≤ v.keys.length ∧ i = .int .i64 (k : Int) ∧ wr = w4) (fun i _ => v.keys.length + 1 - (intOf i).toNat)
  case atStart => exact ⟨0, by omega, rfl, rfl⟩
  case round =>
    obtain ⟨k, hkk, rfl, rfl⟩ := hrel
    by_cases hlt : k < v.keys.length
    · obtain ⟨b, off, hbo, hcell⟩ := HKL.out k (by rw [List.length_map]; exact hlt)
      rw [List.getElem_map] at hcell
      have hgood := key_good HK.out (List.getElem_mem hlt)
      generalize v.keys[k] = x at *
      have hxe : (x == []) = false := by simp [hgood.1]
      have hx3 := hgood.2
      clear hgood c8 c9 c10 c12
      rw [hbo] at *
      go_wp2_with fail
      go_roundw
      case rel => exact ⟨k + 1, by omega, by go_num, trivial⟩
      case measure => simp [intOf]; omega
    · obtain rfl : k = v.keys.length := by omega
      clear HKL c8 c9 c10 c12 hlt hkk
      have c0 : wr.cell? ⟨W.heap.size, 0, none⟩ = some (.int .i64 v.kind) := HX.out 0 _ rfl
      have c1 : wr.cell? ⟨W.heap.size, 1, none⟩ = some (.int .i64 v.queue) := HX.out 1 _ rfl
      have c2 : wr.cell? ⟨W.heap.size, 2, none⟩ = some (.int .i64 v.n) := HX.out 2 _ rfl
      have c3 : wr.cell? ⟨W.heap.size, 3, none⟩ = some (.int .i64 v.aat) := HX.out 3 _ rfl
      have c4 : wr.cell? ⟨W.heap.size, 4, none⟩ = some (.int .i64 v.lack) := HX.out 4 _ rfl
      have c5 : wr.cell? ⟨W.heap.size, 5, none⟩ = some (.string (S v.topic)) := HX.out 5 _ rfl
      have c6 : wr.cell? ⟨W.heap.size, 6, none⟩ = some (.string (S v.group)) := HX.out 6 _ rfl
      have c7 : wr.cell? ⟨W.heap.size, 7, none⟩ = some (.string (S v.tag)) := HX.out 7 _ rfl
      have c8 : wr.cell? ⟨W.heap.size, 8, none⟩ = some (.string (S v.key)) := HX.out 8 _ rfl
      have c9 : wr.cell? ⟨W.heap.size, 9, none⟩ = some (.string (S v.body)) := HX.out 9 _ rfl
      have c10 : wr.cell? ⟨W.heap.size, 10, none⟩ = some (.slice s.ka v.keys.length s.kc) := HX.out 10 _ rfl
      have c11 : wr.cell? ⟨W.heap.size, 11, none⟩ = some (.slice s.ta v.tags.length s.tc) := HX.out 11 _ rfl
      have c12 : wr.cell? ⟨W.heap.size, 12, none⟩ = some (.slice s.pa v.keep.length s.pc) := HX.out 12 _ rfl
      have c13 : wr.cell? ⟨W.heap.size, 13, none⟩ = some (.bool v.sync) := HX.out 13 _ rfl
      rw [hk] at c0
      have hdq : ∀ (x : Int), (-9223372036854775808 ≤ x ∧ x ≤ 9223372036854775807) → ∀ (w : World) (n : Nat), Calls Tryz.prog 17 #[.int .i64 x] (w.drewN n) fun e w'' => e = .returned (.string (S (Lib.itoa x))) ∧ ∃ m, w'' = w.drewN m := fun x hx w n => (digits_any x hx.1 hx.2 _).mono fun _ _ h => ⟨h.1, n, h.2⟩
      have HDQ1 := Lib.hid (hdq v.queue HI.out.queue)
      have HDQ2 := Lib.hid (hdq v.n HI.out.n)
      have HDQ3 := Lib.hid (hdq v.aat HI.out.aat)
      have HDQ4 := Lib.hid (hdq v.lack HI.out.lack)
      clear hdq
      have hz := part_sizes HSM.out HI.out HG.out HK.out
      have hz1 := hz.1
      have hz2 := hz.2.1
      have hz3 := hz.2.2.1
      have hz4 := hz.2.2.2.1
      have hz5 := hz.2.2.2.2.1
      have hz6 := hz.2.2.2.2.2.1
      have hz7 := hz.2.2.2.2.2.2.1
      have hz8 := hz.2.2.2.2.2.2.2.1
      have hz9 := hz.2.2.2.2.2.2.2.2
      clear hz
      have HKS : Hid (∀ (n : Nat), Calls Tryz.prog 29 #[.slice s.ka v.keys.length s.kc] (wr.drewN n) fun e w'' => e = .returned (.string (S (keysL v.keys))) ∧ ∃ m, w'' = wr.drewN m) := fun n => quiet_drawn (keys30_any s.ka s.kc v.keys (by have := HP.out.2.2.2.2.2.1; omega) (fun t ht => by have := (key_good HK.out ht).2; omega) _ (HIN.out.keys.below (Drawn.below ⟨n, rfl⟩ _)))
      have HTS : Hid (∀ (w : World) (n : Nat), Calls Tryz.prog 28 #[.string (S v.tag)] (w.drewN n) fun e w'' => e = .returned (.string (S (tagW v))) ∧ ∃ m, w'' = w.drewN m) := fun w n => (tag30_any v.tag _).mono fun _ _ h => ⟨h.1, n, h.2⟩
      have HHB : Hid (∀ (w : World) (n : Nat), Calls Tryz.prog 15 #[.string (S v.body)] (w.drewN n) fun e w'' => e = .returned (.string (S (hexL v.body))) ∧ ∃ m, w'' = w.drewN m) := fun w n => quiet_drawn (LinW.rhex_any v.body (by have := HP.out.2.2.2.1; omega) _)
      clear hsz htl hp1 hp2 hp3 hp4
      generalize hsy0 : v.sync = sy at c13
      cases sy
      all_goals
        go_wp2_with fail
        go_quiet (first | (go_at_call_of 17 (Value.int .i64 v.queue); exact HDQ1.out _ _) | (go_at_call_of 17 (Value.int .i64 v.n); exact HDQ2.out _ _) | (go_at_call_of 17 (Value.int .i64 v.aat); exact HDQ3.out _ _) | (go_at_call_of 17 (Value.int .i64 v.lack); exact HDQ4.out _ _) | (go_at_call 28; exact HTS.out _ _) | (go_at_call 29; exact HKS.out _) | (go_at_call 15; exact HHB.out _ _))
        obtain ⟨wq, hwq⟩ : ∃ wz, wr.drewN nq = wz := ⟨_, rfl⟩
        rw [hwq]
        have hd : Drawn wr wq := ⟨nq, hwq.symm⟩
        have hb := hd.below wr.heap.size
        clear hwq hd c0 c1 c2 c3 c4 c5 c6 c7 c8 c9 c10 c11 c12 c13
        replace HX := Lib.hid (HX.out.below hb)
        replace HIN := Lib.hid (HIN.out.below hb)
        replace HB := Lib.hid (HB.out.trans (hb.mono HB.out.size))
        clear hb
        first
        | rw [send_f hsy0]
        | rw [send_t hsy0]
        have c0 : wq.cell? ⟨W.heap.size, 0, none⟩ = some (.int .i64 v.kind) := HX.out 0 _ rfl
        have c1 : wq.cell? ⟨W.heap.size, 1, none⟩ = some (.int .i64 v.queue) := HX.out 1 _ rfl
        have c3 : wq.cell? ⟨W.heap.size, 3, none⟩ = some (.int .i64 v.aat) := HX.out 3 _ rfl
        have c5 : wq.cell? ⟨W.heap.size, 5, none⟩ = some (.string (S v.topic)) := HX.out 5 _ rfl
        have c6 : wq.cell? ⟨W.heap.size, 6, none⟩ = some (.string (S v.group)) := HX.out 6 _ rfl
        rw [hk] at c0
        go_wp2_with fail
        go_quiet (first | (go_at_call_of 17 (Value.int .i64 v.queue); exact HDQ1.out _ _) | (go_at_call_of 17 (Value.int .i64 v.n); exact HDQ2.out _ _) | (go_at_call_of 17 (Value.int .i64 v.aat); exact HDQ3.out _ _) | (go_at_call_of 17 (Value.int .i64 v.lack); exact HDQ4.out _ _) | (go_at_call 28; exact HTS.out _ _) | (go_at_call 29; exact HKS.out _) | (go_at_call 15; exact HHB.out _ _))
        obtain ⟨wq2, hwq⟩ : ∃ wz, wq.drewN nq = wz := ⟨_, rfl⟩
        rw [hwq]
        have hd : Drawn wq wq2 := ⟨nq, hwq.symm⟩
        have hb := hd.below wq.heap.size
        clear hwq hd c0 c1 c3 c5 c6
        replace HX := Lib.hid (HX.out.below hb)
        replace HIN := Lib.hid (HIN.out.below hb)
        replace HB := Lib.hid (HB.out.trans (hb.mono HB.out.size))
        clear hb
        rw [group_eq v]
        have c0 : wq2.cell? ⟨W.heap.size, 0, none⟩ = some (.int .i64 v.kind) := HX.out 0 _ rfl
        rw [hk] at c0
        go_upto_region 17 with fail
        clear c0
        have HT10 : Hid ((wq2.alloc (.cells #[.int .i64 10, .int .i64 0, .int .i64 0, .int .i64 0, .int .i64 0, .string ⟨#[]⟩, .string ⟨#[]⟩, .string ⟨#[]⟩, .string ⟨#[]⟩, .string ⟨#[]⟩, .slice none 0 0, .slice none 0 0, .slice none 0 0, .bool false] 25)).heap[wq2.heap.size]? = some (.cells ((ev0 10).cells evs0) 25 (0, 0))) := World.alloc_heap_new _ _
        have hb : Below wq2.heap.size wq2 (wq2.alloc (.cells #[.int .i64 10, .int .i64 0, .int .i64 0, .int .i64 0, .int .i64 0, .string ⟨#[]⟩, .string ⟨#[]⟩, .string ⟨#[]⟩, .string ⟨#[]⟩, .string ⟨#[]⟩, .slice none 0 0, .slice none 0 0, .slice none 0 0, .bool false] 25)) := (Below.refl _ _).alloc (Nat.le_refl _) _
        have hB10 : W.heap.size < wq2.heap.size := by have := HX.out 0 _ rfl; exact cell_lt this
        obtain ⟨wA, hwA⟩ : ∃ wA, (wq2.alloc (.cells #[.int .i64 10, .int .i64 0, .int .i64 0, .int .i64 0, .int .i64 0, .string ⟨#[]⟩, .string ⟨#[]⟩, .string ⟨#[]⟩, .string ⟨#[]⟩, .string ⟨#[]⟩, .slice none 0 0, .slice none 0 0, .slice none 0 0, .bool false] 25)) = wA := ⟨_, rfl⟩
        rw [hwA] at HT10 hb ⊢
        generalize hB10e : wq2.heap.size = B10 at HT10 hb hB10 ⊢
        clear hwA
        have HBL := Lib.hid hb
        have HXq := HX
        have HINq := HIN
        have HBq := HB
        have HBE := Lib.hid hB10e
        replace HX := Lib.hid (HX.out.below (hB10e ▸ hb))
        replace HIN := Lib.hid (HIN.out.below (hB10e ▸ hb))
        replace HB := Lib.hid (HB.out.trans (hb.mono (by omega)))
        clear hb hB10e
        have c0 : wA.cell? ⟨W.heap.size, 0, none⟩ = some (.int .i64 v.kind) := HX.out 0 _ rfl
        rw [hk] at c0
        go_upto_region 48 with fail
        clear c0
        have c2 : wA.cell? ⟨W.heap.size, 2, none⟩ = some (.int .i64 v.n) := HX.out 2 _ rfl
        have hz9 := HT10.out
        have d2 : wA.cell? ⟨B10, 2, none⟩ = some (.int .i64 0) := by unfold World.cell?; rw [show wA.heap[(⟨B10, 2, none⟩ : Addr).block]? = _ from hz9]; rfl
        have hfr : ∀ j, wA.frozen? ⟨B10, j, none⟩ = false := fun j => by unfold World.frozen?; rw [show wA.heap[(⟨B10, j, none⟩ : Addr).block]? = _ from hz9]; rfl
        clear hz9
        go_upto_region 49 with fail
        obtain ⟨wN, hwwN⟩ : ∃ wz, (wA.setCell ⟨B10, 2, none⟩ (.int .i64 v.n)) = wz := ⟨_, rfl⟩
        rw [hwwN]
        have HTwN : Hid (wN.heap[B10]? = some (.cells #[.int .i64 10, .int .i64 0, .int .i64 v.n, .int .i64 0, .int .i64 0, .string (S []), .string (S []), .string (S []), .string (S []), .string (S []), .slice none 0 0, .slice none 0 0, .slice none 0 0, .bool false] 25 (0, 0))) := by
          have h0 : wA.heap[B10]? = some (.cells #[.int .i64 10, .int .i64 0, .int .i64 0, .int .i64 0, .int .i64 0, .string (S []), .string (S []), .string (S []), .string (S []), .string (S []), .slice none 0 0, .slice none 0 0, .slice none 0 0, .bool false] 25 (0, 0)) := HT10.out
          have h1 := heap_setCell_same _ B10 2 _ _ (.int .i64 v.n) h0
          simp only [List.setIfInBounds_toArray, List.set_cons_zero, List.set_cons_succ] at h1
          show wN.heap[B10]? = _
          rw [← hwwN]
          exact h1
        have hb : Below B10 wq2 wN := by rw [← hwwN]; exact (HBL.out.setCell (p := ⟨B10, 2, none⟩) (Nat.le_refl _) _)
        clear hwwN
        replace HX := Lib.hid (HXq.out.below (HBE.out ▸ hb))
        replace HIN := Lib.hid (HINq.out.below (HBE.out ▸ hb))
        replace HB := Lib.hid (HBq.out.trans (hb.mono (Nat.le_of_lt hB10)))
        clear hb HT10 HBL HXq HINq HBq c2 d2 hfr wA
        have hNs : W.heap.size < wN.heap.size := by have := HX.out 0 _ rfl; exact cell_lt this
        have HCN : Hid (∀ w, LitMap.Lasts wN.heap.size wN.drew w → w.cell? ⟨W.heap.size, 0, none⟩ = some (.int .i64 10) ∧ w.cell? ⟨W.heap.size, 2, none⟩ = some (.int .i64 v.n)) := by
          intro w hw
          have hx := HX.out.below ((Below.refl _ _).drew.trans hw.below)
          have h0 : w.cell? ⟨W.heap.size, 0, none⟩ = some (.int .i64 v.kind) := hx 0 _ rfl
          rw [hk] at h0
          exact ⟨h0, hx 2 _ rfl⟩
        refine GrowN.wp_region_n 16 [some (.inr fun _ u w => ∃ b, u = .map (some b) ∧ wN.heap.size ≤ b ∧ LitMap.MapAt w b), some (.inr fun _ _ _ => True), some (.inr fun l _ w => ∃ b, l = [some (.map (some b))] ∧ wN.heap.size ≤ b ∧ LitMap.Has w b 10), some (.inr fun _ _ _ => True), some (.inr fun _ _ _ => True), some (.inr fun _ _ _ => True), some (.inr fun _ u w => ∃ b, u = .map (some b) ∧ LitMap.Has w b 10), none, some (.inl (.int .i64 10)), some (.inl (.string ⟨#[83, 84, 65, 84, 85, 83, 32]⟩)), none, none, some (.inl (.int .i64 v.n)), some (.inl (.string (S (Lib.itoa v.n)))), some (.inl (.string (⟨#[83, 84, 65, 84, 85, 83, 32]⟩ ++ S (Lib.itoa v.n)))), none] (LitMap.Lasts wN.heap.size) (by kernel_rfl) (by kernel_rfl) (by kernel_rfl) (LitMap.Lasts.refl _) (fun _ _ _ => LitMap.Lasts.trans) ?_ ?_
        · intro K hK Y hY l u w w' hR h
          have hR : LitMap.Lasts wN.heap.size w w' := hR
          simp only [List.mem_cons, List.not_mem_nil, or_false] at hK
          rcases hK with rfl | rfl | rfl | rfl | rfl | rfl | rfl | rfl | rfl | rfl | rfl | rfl | rfl | rfl | rfl | rfl <;> simp only [reduceCtorEq, Option.some.injEq, Sum.inr.injEq] at hY
          · subst hY; obtain ⟨b, rfl, hb, hm⟩ := h; exact ⟨b, rfl, hb, hR.map b hm⟩
          · subst hY; trivial
          · subst hY; obtain ⟨b, rfl, hb, hm⟩ := h; exact ⟨b, rfl, hb, hR.has b _ hm⟩
          · subst hY; trivial
          · subst hY; trivial
          · subst hY; trivial
          · subst hY; obtain ⟨b, rfl, hm⟩ := h; exact ⟨b, rfl, hR.has b _ hm⟩
        have htake := trivial
        simp only [List.take_succ_cons, List.take_zero, List.drop_succ_cons, List.drop_zero]
        refine GrowN.g_new rfl (fun w2 hw hF => ?_) (fun v0 => ?_)
        · clear hF
          have hmk := LitMap.Lasts.made w2 hw.below.size
          have hrun : (Instr.makeMap 57 none).run Tryz.prog w2 = .ok (.map (some w2.heap.size)) (w2.alloc (.map #[] 0)) := rfl
          have hsz : wN.heap.size ≤ w2.heap.size := hw.below.size
          go_simp
          exact ⟨⟨_, rfl, hsz, hmk.2⟩, hmk.1⟩
        simp only [Act.put, List.setIfInBounds_toArray, List.set_cons_zero, List.set_cons_succ]
        refine GrowN.g_new rfl (fun w2 hw hF => ?_) (fun v1 => ?_)
        · obtain ⟨b, rfl, hNb, hM⟩ := hF _ (.head _) (by kernel_rfl)
          clear hF
          obtain ⟨w3, hrun, hh, hl⟩ := LitMap.insert_step (P := Tryz.prog) Tryz.underlying57 Tryz.underlying3 hM hNb 4
          replace hrun : (Instr.mapUpdate 57 (.map (some b)) (.int .i64 4) (.string ⟨#[67, 65, 78, 67, 69, 76, 32]⟩)).run Tryz.prog w2 = .ok () w3 := hrun
          go_simp
          all_goals exact hl
        simp only [Act.put, List.setIfInBounds_toArray, List.set_cons_zero, List.set_cons_succ]
        refine GrowN.g_new rfl (fun w2 hw hF => ?_) (fun v2 => ?_)
        · obtain ⟨b, rfl, hNb, hM⟩ := hF _ (.tail _ (.head _)) (by kernel_rfl)
          clear hF
          obtain ⟨w3, hrun, hh, hl⟩ := LitMap.insert_step (P := Tryz.prog) Tryz.underlying57 Tryz.underlying3 hM hNb 10
          replace hrun : (Instr.mapUpdate 57 (.map (some b)) (.int .i64 10) (.string ⟨#[83, 84, 65, 84, 85, 83, 32]⟩)).run Tryz.prog w2 = .ok () w3 := hrun
          go_simp
          first
          | exact ⟨⟨b, rfl, hNb, hh⟩, hl⟩
          | exact ⟨b, rfl, hNb, hh⟩
          | exact ⟨rfl, hNb, hh⟩
        simp only [Act.put, List.setIfInBounds_toArray, List.set_cons_zero, List.set_cons_succ]
        refine GrowN.g_new rfl (fun w2 hw hF => ?_) (fun v3 => ?_)
        · obtain ⟨b, rfl, hNb, hM⟩ := hF _ (.tail _ (.tail _ (.head _))) (by kernel_rfl)
          clear hF
          obtain ⟨w3, hrun, hh, hl⟩ := LitMap.insert_step (P := Tryz.prog) Tryz.underlying57 Tryz.underlying3 hM hNb 11
          replace hrun : (Instr.mapUpdate 57 (.map (some b)) (.int .i64 11) (.string ⟨#[80, 73, 67, 75, 32]⟩)).run Tryz.prog w2 = .ok () w3 := hrun
          go_simp
          all_goals exact hl
        simp only [Act.put, List.setIfInBounds_toArray, List.set_cons_zero, List.set_cons_succ]
        refine GrowN.g_new rfl (fun w2 hw hF => ?_) (fun v4 => ?_)
        · obtain ⟨b, rfl, hNb, hM⟩ := hF _ (.tail _ (.tail _ (.tail _ (.head _)))) (by kernel_rfl)
          clear hF
          obtain ⟨w3, hrun, hh, hl⟩ := LitMap.insert_step (P := Tryz.prog) Tryz.underlying57 Tryz.underlying3 hM hNb 12
          replace hrun : (Instr.mapUpdate 57 (.map (some b)) (.int .i64 12) (.string ⟨#[80, 65, 83, 83, 32]⟩)).run Tryz.prog w2 = .ok () w3 := hrun
          go_simp
          all_goals exact hl
        simp only [Act.put, List.setIfInBounds_toArray, List.set_cons_zero, List.set_cons_succ]
        refine GrowN.g_new rfl (fun w2 hw hF => ?_) (fun v5 => ?_)
        · obtain ⟨b, rfl, hNb, hM⟩ := hF _ (.tail _ (.tail _ (.tail _ (.tail _ (.head _))))) (by kernel_rfl)
          clear hF
          obtain ⟨w3, hrun, hh, hl⟩ := LitMap.insert_step (P := Tryz.prog) Tryz.underlying57 Tryz.underlying3 hM hNb 13
          replace hrun : (Instr.mapUpdate 57 (.map (some b)) (.int .i64 13) (.string ⟨#[70, 85, 83, 69, 32]⟩)).run Tryz.prog w2 = .ok () w3 := hrun
          go_simp
          all_goals exact hl
        simp only [Act.put, List.setIfInBounds_toArray, List.set_cons_zero, List.set_cons_succ]
        refine GrowN.g_new rfl (fun w2 hw hF => ?_) (fun v6 => ?_)
        · obtain ⟨b, rfl, hNb, hM⟩ := hF _ (.tail _ (.tail _ (.tail _ (.tail _ (.tail _ (.head _)))))) (by kernel_rfl)
          obtain ⟨b2, hl, hNb2, hH⟩ := hF _ (.tail _ (.tail _ (.tail _ (.head _)))) (by kernel_rfl)
          clear hF
          replace hl : [some (Value.map (some b))] = [some (Value.map (some b2))] := hl
          simp only [List.cons.injEq, Option.some.injEq, Value.map.injEq, and_true] at hl
          subst hl
          go_simp
          exact ⟨⟨b, rfl, hH⟩, LitMap.Lasts.refl _ _⟩
        simp only [Act.put, List.setIfInBounds_toArray, List.set_cons_zero, List.set_cons_succ]
        refine GrowN.g_det rfl ?_
        apply Exists.intro
        refine ⟨fun w hw hF => ?_, ?_⟩
        · clear hF
          go_simp
          exact ⟨rfl, LitMap.Lasts.refl _ _⟩
        simp only [Act.put, List.setIfInBounds_toArray, List.set_cons_zero, List.set_cons_succ]
        refine GrowN.g_con rfl (fun w2 hw hF => ?_) ?_
        · clear hF
          have c0 := (HCN.out w2 hw).1
          go_simp
          exact LitMap.Lasts.refl _ _
        simp only [Act.put, List.setIfInBounds_toArray, List.set_cons_zero, List.set_cons_succ]
        refine GrowN.g_con rfl (fun w2 hw hF => ?_) ?_
        · obtain ⟨b, rfl, hH⟩ := hF _ (.head _) (by kernel_rfl)
          clear hF
          have hrun : (Instr.lookup 57 (.map (some b)) (.int .i64 10) false).run Tryz.prog w2 = .ok (.string ⟨#[83, 84, 65, 84, 85, 83, 32]⟩) w2 := LitMap.lookup_has Tryz.underlying57 Tryz.underlying3 hH
          go_simp
          exact LitMap.Lasts.refl _ _
        simp only [Act.put, List.setIfInBounds_toArray, List.set_cons_zero, List.set_cons_succ]
        refine GrowN.g_det rfl ?_
        apply Exists.intro
        refine ⟨fun w hw hF => ?_, ?_⟩
        · clear hF
          go_simp
          exact ⟨rfl, LitMap.Lasts.refl _ _⟩
        simp only [Act.put, List.setIfInBounds_toArray, List.set_cons_zero, List.set_cons_succ]
        refine GrowN.g_det rfl ?_
        apply Exists.intro
        refine ⟨fun w hw hF => ?_, ?_⟩
        · clear hF
          go_simp
          exact ⟨rfl, LitMap.Lasts.refl _ _⟩
        simp only [Act.put, List.setIfInBounds_toArray, List.set_cons_zero, List.set_cons_succ]
        refine GrowN.g_con rfl (fun w2 hw hF => ?_) ?_
        · clear hF
          have c2 := (HCN.out w2 hw).2
          go_simp
          exact LitMap.Lasts.refl _ _
        simp only [Act.put, List.setIfInBounds_toArray, List.set_cons_zero, List.set_cons_succ]
        refine GrowN.g_con rfl (fun w2 hw hF => ?_) ?_
        · clear hF
          go_simp
          exact (digits_any v.n HI.out.n.1 HI.out.n.2 w2).mono fun e w3 h => ⟨_, h.1, rfl, h.2 ▸ LitMap.Lasts.refl _ _⟩
        simp only [Act.put, List.setIfInBounds_toArray, List.set_cons_zero, List.set_cons_succ]
        refine GrowN.g_con rfl (fun w2 hw hF => ?_) ?_
        · clear hF
          go_simp
          rw [if_neg (by omega)]
          exact ⟨rfl, LitMap.Lasts.refl _ _⟩
        simp only [Act.put, List.setIfInBounds_toArray, List.set_cons_zero, List.set_cons_succ]
        refine GrowN.g_det rfl ?_
        apply Exists.intro
        refine ⟨fun w hw hF => ?_, ?_⟩
        · clear hF
          go_simp
          exact ⟨rfl, LitMap.Lasts.refl _ _⟩
        simp only [Act.put, List.setIfInBounds_toArray, List.set_cons_zero, List.set_cons_succ]
        refine GrowN.g_nil fun w3 hw3 hF => ?_
        clear hF
        refine wpList_nil ?_
        have hb : Below wN.heap.size wN w3 := (Below.refl _ _).drew.trans hw3.below
        have hlt : B10 < wN.heap.size := by have h := HTwN.out; exact (Array.getElem?_eq_some_iff.1 h).1
        have HTW : Hid (w3.heap[B10]? = some (.cells #[.int .i64 10, .int .i64 0, .int .i64 v.n, .int .i64 0, .int .i64 0, .string (S []), .string (S []), .string (S []), .string (S []), .string (S []), .slice none 0 0, .slice none 0 0, .slice none 0 0, .bool false] 25 (0, 0))) := by show w3.heap[B10]? = _; rw [hb.block _ hlt]; exact HTwN.out
        clear hw3 HTwN hlt HCN
        replace HX := Lib.hid (HX.out.below hb)
        replace HIN := Lib.hid (HIN.out.below hb)
        replace HB := Lib.hid (HB.out.trans (hb.mono HB.out.size))
        clear hb
        clear hNs
        clear wN
        generalize w3 = wA at *
        have c0 : wA.cell? ⟨W.heap.size, 0, none⟩ = some (.int .i64 v.kind) := HX.out 0 _ rfl
        rw [hk] at c0
        go_upto_region 56 with fail
        clear c0
        have c0 : wA.cell? ⟨W.heap.size, 0, none⟩ = some (.int .i64 v.kind) := HX.out 0 _ rfl
        have c1 : wA.cell? ⟨W.heap.size, 1, none⟩ = some (.int .i64 v.queue) := HX.out 1 _ rfl
        have c2 : wA.cell? ⟨W.heap.size, 2, none⟩ = some (.int .i64 v.n) := HX.out 2 _ rfl
        have c3 : wA.cell? ⟨W.heap.size, 3, none⟩ = some (.int .i64 v.aat) := HX.out 3 _ rfl
        have c4 : wA.cell? ⟨W.heap.size, 4, none⟩ = some (.int .i64 v.lack) := HX.out 4 _ rfl
        have c5 : wA.cell? ⟨W.heap.size, 5, none⟩ = some (.string (S v.topic)) := HX.out 5 _ rfl
        have c6 : wA.cell? ⟨W.heap.size, 6, none⟩ = some (.string (S v.group)) := HX.out 6 _ rfl
        have c7 : wA.cell? ⟨W.heap.size, 7, none⟩ = some (.string (S v.tag)) := HX.out 7 _ rfl
        have c8 : wA.cell? ⟨W.heap.size, 8, none⟩ = some (.string (S v.key)) := HX.out 8 _ rfl
        have c9 : wA.cell? ⟨W.heap.size, 9, none⟩ = some (.string (S v.body)) := HX.out 9 _ rfl
        have c10 : wA.cell? ⟨W.heap.size, 10, none⟩ = some (.slice s.ka v.keys.length s.kc) := HX.out 10 _ rfl
        have c11 : wA.cell? ⟨W.heap.size, 11, none⟩ = some (.slice s.ta v.tags.length s.tc) := HX.out 11 _ rfl
        have c12 : wA.cell? ⟨W.heap.size, 12, none⟩ = some (.slice s.pa v.keep.length s.pc) := HX.out 12 _ rfl
        have c13 : wA.cell? ⟨W.heap.size, 13, none⟩ = some (.bool v.sync) := HX.out 13 _ rfl
        rw [hk] at c0
        have hz9 := HTW.out
        have d0 : wA.cell? ⟨B10, 0, none⟩ = some (.int .i64 10) := by unfold World.cell?; rw [show wA.heap[(⟨B10, 0, none⟩ : Addr).block]? = _ from hz9]; rfl
        have d1 : wA.cell? ⟨B10, 1, none⟩ = some (.int .i64 0) := by unfold World.cell?; rw [show wA.heap[(⟨B10, 1, none⟩ : Addr).block]? = _ from hz9]; rfl
        have d2 : wA.cell? ⟨B10, 2, none⟩ = some (.int .i64 v.n) := by unfold World.cell?; rw [show wA.heap[(⟨B10, 2, none⟩ : Addr).block]? = _ from hz9]; rfl
        have d3 : wA.cell? ⟨B10, 3, none⟩ = some (.int .i64 0) := by unfold World.cell?; rw [show wA.heap[(⟨B10, 3, none⟩ : Addr).block]? = _ from hz9]; rfl
        have d4 : wA.cell? ⟨B10, 4, none⟩ = some (.int .i64 0) := by unfold World.cell?; rw [show wA.heap[(⟨B10, 4, none⟩ : Addr).block]? = _ from hz9]; rfl
        have d5 : wA.cell? ⟨B10, 5, none⟩ = some (.string (S [])) := by unfold World.cell?; rw [show wA.heap[(⟨B10, 5, none⟩ : Addr).block]? = _ from hz9]; rfl
        have d6 : wA.cell? ⟨B10, 6, none⟩ = some (.string (S [])) := by unfold World.cell?; rw [show wA.heap[(⟨B10, 6, none⟩ : Addr).block]? = _ from hz9]; rfl
        have d7 : wA.cell? ⟨B10, 7, none⟩ = some (.string (S [])) := by unfold World.cell?; rw [show wA.heap[(⟨B10, 7, none⟩ : Addr).block]? = _ from hz9]; rfl
        have d8 : wA.cell? ⟨B10, 8, none⟩ = some (.string (S [])) := by unfold World.cell?; rw [show wA.heap[(⟨B10, 8, none⟩ : Addr).block]? = _ from hz9]; rfl
        have d9 : wA.cell? ⟨B10, 9, none⟩ = some (.string (S [])) := by unfold World.cell?; rw [show wA.heap[(⟨B10, 9, none⟩ : Addr).block]? = _ from hz9]; rfl
        have d10 : wA.cell? ⟨B10, 10, none⟩ = some (.slice none 0 0) := by unfold World.cell?; rw [show wA.heap[(⟨B10, 10, none⟩ : Addr).block]? = _ from hz9]; rfl
        have d11 : wA.cell? ⟨B10, 11, none⟩ = some (.slice none 0 0) := by unfold World.cell?; rw [show wA.heap[(⟨B10, 11, none⟩ : Addr).block]? = _ from hz9]; rfl
        have d12 : wA.cell? ⟨B10, 12, none⟩ = some (.slice none 0 0) := by unfold World.cell?; rw [show wA.heap[(⟨B10, 12, none⟩ : Addr).block]? = _ from hz9]; rfl
        have d13 : wA.cell? ⟨B10, 13, none⟩ = some (.bool false) := by unfold World.cell?; rw [show wA.heap[(⟨B10, 13, none⟩ : Addr).block]? = _ from hz9]; rfl
        clear hz9
        have hwo : EvOk (wantE v 10) := ⟨Nat.zero_le _, Nat.zero_le _, Nat.zero_le _, Nat.zero_le _, Nat.zero_le _, Nat.zero_le _, Nat.zero_le _, Nat.zero_le _, fun t ht => (by cases ht), fun t ht => (by cases ht)⟩
        have hwi : EvIn wA (wantE v 10) ⟨none, 0, none, 0, none, 0⟩ := ⟨fun i hi => absurd hi (Nat.not_lt_zero _), fun i hi => absurd hi (Nat.not_lt_zero _), fun i hi => absurd hi (Nat.not_lt_zero _)⟩
        have HSC := Lib.hid (ev_same v (wantE v 10) s ⟨none, 0, none, 0, none, 0⟩ HSM.out hwo wA HIN.out hwi)
        rw [show v.cells s = #[.int .i64 10, .int .i64 v.queue, .int .i64 v.n, .int .i64 v.aat, .int .i64 v.lack, .string (S v.topic), .string (S v.group), .string (S v.tag), .string (S v.key), .string (S v.body), .slice s.ka v.keys.length s.kc, .slice s.ta v.tags.length s.tc, .slice s.pa v.keep.length s.pc, .bool v.sync] from by unfold Ev.cells; rw [hk], show Ev.cells (wantE v 10) ⟨none, 0, none, 0, none, 0⟩ = #[.int .i64 10, .int .i64 0, .int .i64 v.n, .int .i64 0, .int .i64 0, .string (S []), .string (S []), .string (S []), .string (S []), .string (S []), .slice none 0 0, .slice none 0 0, .slice none 0 0, .bool false] from rfl] at HSC
        rw [hsy0] at HSC
        clear hwo hwi
        go_wp2_with fail
        refine HSC.out.mono ?_
        rintro e wB ⟨rfl, hb⟩
        clear c0 c1 c2 c3 c4 c5 c6 c7 c8 c9 c10 c11 c12 c13 d0 d1 d2 d3 d4 d5 d6 d7 d8 d9 d10 d11 d12 d13 HSC HTW
        replace HX := Lib.hid (HX.out.below hb)
        replace HIN := Lib.hid (HIN.out.below hb)
        replace HB := Lib.hid (HB.out.trans (hb.mono HB.out.size))
        clear hb
        have HC : Hid (condB v 10 = (sameE v (wantE v 10) && true && true)) := by show _ = _; unfold condB; rfl
        generalize sameE v (wantE v 10) = sb at *
        cases sb with
        | false =>
          have HT : Hid (RR = []) := by show _ = _; rw [← HRR.out, HC.out]; rfl
          have c0 : wB.cell? ⟨W.heap.size, 0, none⟩ = some (.int .i64 v.kind) := HX.out 0 _ rfl
          have c5 : wB.cell? ⟨W.heap.size, 5, none⟩ = some (.string (S v.topic)) := HX.out 5 _ rfl
          have c6 : wB.cell? ⟨W.heap.size, 6, none⟩ = some (.string (S v.group)) := HX.out 6 _ rfl
          rw [hk] at c0
          go_wp2_with fail
          go_ret
          rw [HT.out]
          exact ⟨rfl, HB.out⟩
        | true =>
          have HT : Hid (S RR = S (lineS v 10)) := by show _ = _; rw [← HRR.out, HC.out]; rfl
          have c0 : wB.cell? ⟨W.heap.size, 0, none⟩ = some (.int .i64 v.kind) := HX.out 0 _ rfl
          have c5 : wB.cell? ⟨W.heap.size, 5, none⟩ = some (.string (S v.topic)) := HX.out 5 _ rfl
          have c6 : wB.cell? ⟨W.heap.size, 6, none⟩ = some (.string (S v.group)) := HX.out 6 _ rfl
          rw [hk] at c0
          go_wp2_with fail
          go_ret
          rw [HT.out]
          exact ⟨rfl, HB.out⟩

        skip
end Go.Proofs.YtadhkeboaapfcaaGreatDoor.EvW
namespace Go.Proofs.YtadhkeboaapfcaaGreatDoor.EvW
open Go.RowKit OctMath NameMath HexMath
set_option linter.unusedVariables false
set_option linter.unusedSimpArgs false
set_option maxRecDepth 100000


set_option maxHeartbeats 12800000 in
theorem line_11 (v : Ev) (s : EvS) (hsm : EvOk v) (hi : EvI v) (W : World) (hin : EvIn W v s) (hcap : v.tags.length ≤ s.tc) (hk : v.kind = 11) (hg : guardB v = true) (hbk : v.keys.any badK = false) :
    Calls Tryz.prog 10 #[.agg (v.cells s)] W fun e w' => e = .returned (.string (S (if condB v 11 then lineS v 11 else []))) ∧ Below W.heap.size W w' := by
  generalize hRR : (if condB v 11 then lineS v 11 else []) = RR
  have HRR := Lib.hid hRR
  clear hRR
  have HP := Lib.hid (guard_parts hg)
  have HK := Lib.hid hbk
  have HG := Lib.hid hg
  have HSM := Lib.hid hsm
  have HI := Lib.hid hi
  have HB : Hid (Below W.heap.size W (W.alloc (.cells (v.cells s) 25))) := (Below.refl _ W).alloc (Nat.le_refl _) _
  have HIN := Lib.hid (hin.below HB.out)
  have HX : Hid (Boxed (W.alloc (.cells (v.cells s) 25)) W.heap.size (v.cells s)) := Boxed.new W _ _
  have hcv : (v.cells s).size = 14 := rfl
  have hsz := S_size
  clear hsm hi hin hg hbk
  go_enter Tryz.func10, Tryz.ntmps10
  go_upto_region 1 with fail
  generalize (W.alloc (.cells (v.cells s) 25)) = w1 at *
  clear hcv
  have c0 : w1.cell? ⟨W.heap.size, 0, none⟩ = some (.int .i64 v.kind) := HX.out 0 _ rfl
  have c1 : w1.cell? ⟨W.heap.size, 1, none⟩ = some (.int .i64 v.queue) := HX.out 1 _ rfl
  have c2 : w1.cell? ⟨W.heap.size, 2, none⟩ = some (.int .i64 v.n) := HX.out 2 _ rfl
  have c3 : w1.cell? ⟨W.heap.size, 3, none⟩ = some (.int .i64 v.aat) := HX.out 3 _ rfl
  have c4 : w1.cell? ⟨W.heap.size, 4, none⟩ = some (.int .i64 v.lack) := HX.out 4 _ rfl
  rw [hk] at c0
  have HNB := Lib.hid (small_any (some ⟨w1.heap.size, 0, none⟩) 4 [v.queue, v.n, v.aat, v.lack] (by simp))
  rw [HP.out.1] at HNB
  go_wp2_with fail
  refine (HNB.out _ ?nrow).mono ?_
  case nrow => exact fun i hi => ⟨_, 0, rfl, by rw [World.cell?_alloc_new]; match i, hi with | 0, _ => rfl | 1, _ => rfl | 2, _ => rfl | 3, _ => rfl⟩
  rintro e w2 ⟨rfl, hd⟩
  have hb : Below w1.heap.size w1 w2 := ((Below.refl _ w1).alloc (Nat.le_refl _) _).trans (hd.below _)
  clear hd c0 c1 c2 c3 c4 HNB
  replace HX := Lib.hid (HX.out.below hb)
  replace HIN := Lib.hid (HIN.out.below hb)
  replace HB := Lib.hid (HB.out.trans (hb.mono HB.out.size))
  clear hb
  have c7 : w2.cell? ⟨W.heap.size, 7, none⟩ = some (.string (S v.tag)) := HX.out 7 _ rfl
  have HTG := Lib.hid (fun w => NameW.rtag_any v.tag (by have := HSM.out.tag; omega) w)
  rw [HP.out.2.1] at HTG
  go_wp2_with fail
  refine (HTG.out _).mono ?_
  rintro e w3 ⟨rfl, hd⟩
  have hb := hd.below w2.heap.size
  clear hd c7 HTG
  replace HX := Lib.hid (HX.out.below hb)
  replace HIN := Lib.hid (HIN.out.below hb)
  replace HB := Lib.hid (HB.out.trans (hb.mono HB.out.size))
  clear hb
  have c8 : w3.cell? ⟨W.heap.size, 8, none⟩ = some (.string (S v.key)) := HX.out 8 _ rfl
  have c9 : w3.cell? ⟨W.heap.size, 9, none⟩ = some (.string (S v.body)) := HX.out 9 _ rfl
  have c10 : w3.cell? ⟨W.heap.size, 10, none⟩ = some (.slice s.ka v.keys.length s.kc) := HX.out 10 _ rfl
  have c11 : w3.cell? ⟨W.heap.size, 11, none⟩ = some (.slice s.ta v.tags.length s.tc) := HX.out 11 _ rfl
  have c12 : w3.cell? ⟨W.heap.size, 12, none⟩ = some (.slice s.pa v.keep.length s.pc) := HX.out 12 _ rfl
  have HFL := Lib.hid (fun w h => lfilter_any s.ta s.tc v.tags (by have := HSM.out.tags; omega) hcap HSM.out.tagsz w h)
  rw [HP.out.2.2.1] at HFL
  go_wp2_with fail
  refine (HFL.out _ HIN.out.tags).mono ?_
  rintro e w4 ⟨rfl, hd⟩
  have hb := hd.below w3.heap.size
  clear hd c8 c9 c10 c11 c12 HFL
  replace HX := Lib.hid (HX.out.below hb)
  replace HIN := Lib.hid (HIN.out.below hb)
  replace HB := Lib.hid (HB.out.trans (hb.mono HB.out.size))
  clear hb
  have c8 : w4.cell? ⟨W.heap.size, 8, none⟩ = some (.string (S v.key)) := HX.out 8 _ rfl
  have c9 : w4.cell? ⟨W.heap.size, 9, none⟩ = some (.string (S v.body)) := HX.out 9 _ rfl
  have c10 : w4.cell? ⟨W.heap.size, 10, none⟩ = some (.slice s.ka v.keys.length s.kc) := HX.out 10 _ rfl
  have c12 : w4.cell? ⟨W.heap.size, 12, none⟩ = some (.slice s.pa v.keep.length s.pc) := HX.out 12 _ rfl
  have hp1 := HP.out.2.2.2.1
  have hp2 := HP.out.2.2.2.2.1
  have hp3 := HP.out.2.2.2.2.2.1
  have hp4 := HP.out.2.2.2.2.2.2
  have g1 : decide (300 < (v.body.length : Int)) = false := decide_eq_false (by omega)
  have g2 : decide (300 < (v.key.length : Int)) = false := decide_eq_false (by omega)
  have g3 : decide (10 < (v.keys.length : Int)) = false := decide_eq_false (by omega)
  have g4 : decide (100 < (v.keep.length : Int)) = false := decide_eq_false (by omega)
  go_wp2_with fail
  clear g1 g2 g3 g4
  have HKL : Hid (Row1 w4 s.ka (v.keys.map fun x => .string (S x))) := row_strs HIN.out.keys
  have htl := NameW.S_toList
  go_loopw [74] (fun i wr => ∃ k : Nat, k ≤ v.keys.length ∧ i = .int .i64 (k : Int) ∧ wr = w4) (fun i _ => v.keys.length + 1 - (intOf i).toNat)
  case atStart => exact ⟨0, by omega, rfl, rfl⟩
  case round =>
    obtain ⟨k, hkk, rfl, rfl⟩ := hrel
    by_cases hlt : k < v.keys.length
    · obtain ⟨b, off, hbo, hcell⟩ := HKL.out k (by rw [List.length_map]; exact hlt)
      rw [List.getElem_map] at hcell
      have hgood := key_good HK.out (List.getElem_mem hlt)
      generalize v.keys[k] = x at *
      have hxe : (x == []) = false := by simp [hgood.1]
      have hx3 := hgood.2
      clear hgood c8 c9 c10 c12
      rw [hbo] at *
      go_wp2_with fail
      go_roundw
      case rel => exact ⟨k + 1, by omega, by go_num, trivial⟩
      case measure => simp [intOf]; omega
    · obtain rfl : k = v.keys.length := by omega
      clear HKL c8 c9 c10 c12 hlt hkk
      have c0 : wr.cell? ⟨W.heap.size, 0, none⟩ = some (.int .i64 v.kind) := HX.out 0 _ rfl
      have c1 : wr.cell? ⟨W.heap.size, 1, none⟩ = some (.int .i64 v.queue) := HX.out 1 _ rfl
      have c2 : wr.cell? ⟨W.heap.size, 2, none⟩ = some (.int .i64 v.n) := HX.out 2 _ rfl
      have c3 : wr.cell? ⟨W.heap.size, 3, none⟩ = some (.int .i64 v.aat) := HX.out 3 _ rfl
      have c4 : wr.cell? ⟨W.heap.size, 4, none⟩ = some (.int .i64 v.lack) := HX.out 4 _ rfl
      have c5 : wr.cell? ⟨W.heap.size, 5, none⟩ = some (.string (S v.topic)) := HX.out 5 _ rfl
      have c6 : wr.cell? ⟨W.heap.size, 6, none⟩ = some (.string (S v.group)) := HX.out 6 _ rfl
      have c7 : wr.cell? ⟨W.heap.size, 7, none⟩ = some (.string (S v.tag)) := HX.out 7 _ rfl
      have c8 : wr.cell? ⟨W.heap.size, 8, none⟩ = some (.string (S v.key)) := HX.out 8 _ rfl
      have c9 : wr.cell? ⟨W.heap.size, 9, none⟩ = some (.string (S v.body)) := HX.out 9 _ rfl
      have c10 : wr.cell? ⟨W.heap.size, 10, none⟩ = some (.slice s.ka v.keys.length s.kc) := HX.out 10 _ rfl
      have c11 : wr.cell? ⟨W.heap.size, 11, none⟩ = some (.slice s.ta v.tags.length s.tc) := HX.out 11 _ rfl
      have c12 : wr.cell? ⟨W.heap.size, 12, none⟩ = some (.slice s.pa v.keep.length s.pc) := HX.out 12 _ rfl
      have c13 : wr.cell? ⟨W.heap.size, 13, none⟩ = some (.bool v.sync) := HX.out 13 _ rfl
      rw [hk] at c0
      have hdq : ∀ (x : Int), (-9223372036854775808 ≤ x ∧ x ≤ 9223372036854775807) → ∀ (w : World) (n : Nat), Calls Tryz.prog 17 #[.int .i64 x] (w.drewN n) fun e w'' => e = .returned (.string (S (Lib.itoa x))) ∧ ∃ m, w'' = w.drewN m := fun x hx w n => (digits_any x hx.1 hx.2 _).mono fun _ _ h => ⟨h.1, n, h.2⟩
      have HDQ1 := Lib.hid (hdq v.queue HI.out.queue)
      have HDQ2 := Lib.hid (hdq v.n HI.out.n)
      have HDQ3 := Lib.hid (hdq v.aat HI.out.aat)
      have HDQ4 := Lib.hid (hdq v.lack HI.out.lack)
      clear hdq
      have hz := part_sizes HSM.out HI.out HG.out HK.out
      have hz1 := hz.1
      have hz2 := hz.2.1
      have hz3 := hz.2.2.1
      have hz4 := hz.2.2.2.1
      have hz5 := hz.2.2.2.2.1
      have hz6 := hz.2.2.2.2.2.1
      have hz7 := hz.2.2.2.2.2.2.1
      have hz8 := hz.2.2.2.2.2.2.2.1
      have hz9 := hz.2.2.2.2.2.2.2.2
      clear hz
      have HKS : Hid (∀ (n : Nat), Calls Tryz.prog 29 #[.slice s.ka v.keys.length s.kc] (wr.drewN n) fun e w'' => e = .returned (.string (S (keysL v.keys))) ∧ ∃ m, w'' = wr.drewN m) := fun n => quiet_drawn (keys30_any s.ka s.kc v.keys (by have := HP.out.2.2.2.2.2.1; omega) (fun t ht => by have := (key_good HK.out ht).2; omega) _ (HIN.out.keys.below (Drawn.below ⟨n, rfl⟩ _)))
      have HTS : Hid (∀ (w : World) (n : Nat), Calls Tryz.prog 28 #[.string (S v.tag)] (w.drewN n) fun e w'' => e = .returned (.string (S (tagW v))) ∧ ∃ m, w'' = w.drewN m) := fun w n => (tag30_any v.tag _).mono fun _ _ h => ⟨h.1, n, h.2⟩
      have HHB : Hid (∀ (w : World) (n : Nat), Calls Tryz.prog 15 #[.string (S v.body)] (w.drewN n) fun e w'' => e = .returned (.string (S (hexL v.body))) ∧ ∃ m, w'' = w.drewN m) := fun w n => quiet_drawn (LinW.rhex_any v.body (by have := HP.out.2.2.2.1; omega) _)
      clear hsz htl hp1 hp2 hp3 hp4
      generalize hsy0 : v.sync = sy at c13
      cases sy
      all_goals
        go_wp2_with fail
        go_quiet (first | (go_at_call_of 17 (Value.int .i64 v.queue); exact HDQ1.out _ _) | (go_at_call_of 17 (Value.int .i64 v.n); exact HDQ2.out _ _) | (go_at_call_of 17 (Value.int .i64 v.aat); exact HDQ3.out _ _) | (go_at_call_of 17 (Value.int .i64 v.lack); exact HDQ4.out _ _) | (go_at_call 28; exact HTS.out _ _) | (go_at_call 29; exact HKS.out _) | (go_at_call 15; exact HHB.out _ _))
        obtain ⟨wq, hwq⟩ : ∃ wz, wr.drewN nq = wz := ⟨_, rfl⟩
        rw [hwq]
        have hd : Drawn wr wq := ⟨nq, hwq.symm⟩
        have hb := hd.below wr.heap.size
        clear hwq hd c0 c1 c2 c3 c4 c5 c6 c7 c8 c9 c10 c11 c12 c13
        replace HX := Lib.hid (HX.out.below hb)
        replace HIN := Lib.hid (HIN.out.below hb)
        replace HB := Lib.hid (HB.out.trans (hb.mono HB.out.size))
        clear hb
        first
        | rw [send_f hsy0]
        | rw [send_t hsy0]
        have c0 : wq.cell? ⟨W.heap.size, 0, none⟩ = some (.int .i64 v.kind) := HX.out 0 _ rfl
        have c1 : wq.cell? ⟨W.heap.size, 1, none⟩ = some (.int .i64 v.queue) := HX.out 1 _ rfl
        have c3 : wq.cell? ⟨W.heap.size, 3, none⟩ = some (.int .i64 v.aat) := HX.out 3 _ rfl
        have c5 : wq.cell? ⟨W.heap.size, 5, none⟩ = some (.string (S v.topic)) := HX.out 5 _ rfl
        have c6 : wq.cell? ⟨W.heap.size, 6, none⟩ = some (.string (S v.group)) := HX.out 6 _ rfl
        rw [hk] at c0
        go_wp2_with fail
        go_quiet (first | (go_at_call_of 17 (Value.int .i64 v.queue); exact HDQ1.out _ _) | (go_at_call_of 17 (Value.int .i64 v.n); exact HDQ2.out _ _) | (go_at_call_of 17 (Value.int .i64 v.aat); exact HDQ3.out _ _) | (go_at_call_of 17 (Value.int .i64 v.lack); exact HDQ4.out _ _) | (go_at_call 28; exact HTS.out _ _) | (go_at_call 29; exact HKS.out _) | (go_at_call 15; exact HHB.out _ _))
        obtain ⟨wq2, hwq⟩ : ∃ wz, wq.drewN nq = wz := ⟨_, rfl⟩
        rw [hwq]
        have hd : Drawn wq wq2 := ⟨nq, hwq.symm⟩
        have hb := hd.below wq.heap.size
        clear hwq hd c0 c1 c3 c5 c6
        replace HX := Lib.hid (HX.out.below hb)
        replace HIN := Lib.hid (HIN.out.below hb)
        replace HB := Lib.hid (HB.out.trans (hb.mono HB.out.size))
        clear hb
        rw [group_eq v]
        have c0 : wq2.cell? ⟨W.heap.size, 0, none⟩ = some (.int .i64 v.kind) := HX.out 0 _ rfl
        rw [hk] at c0
        go_upto_region 17 with fail
        clear c0
        have HT10 : Hid ((wq2.alloc (.cells #[.int .i64 11, .int .i64 0, .int .i64 0, .int .i64 0, .int .i64 0, .string ⟨#[]⟩, .string ⟨#[]⟩, .string ⟨#[]⟩, .string ⟨#[]⟩, .string ⟨#[]⟩, .slice none 0 0, .slice none 0 0, .slice none 0 0, .bool false] 25)).heap[wq2.heap.size]? = some (.cells ((ev0 11).cells evs0) 25 (0, 0))) := World.alloc_heap_new _ _
        have hb : Below wq2.heap.size wq2 (wq2.alloc (.cells #[.int .i64 11, .int .i64 0, .int .i64 0, .int .i64 0, .int .i64 0, .string ⟨#[]⟩, .string ⟨#[]⟩, .string ⟨#[]⟩, .string ⟨#[]⟩, .string ⟨#[]⟩, .slice none 0 0, .slice none 0 0, .slice none 0 0, .bool false] 25)) := (Below.refl _ _).alloc (Nat.le_refl _) _
        have hB10 : W.heap.size < wq2.heap.size := by have := HX.out 0 _ rfl; exact cell_lt this
        obtain ⟨wA, hwA⟩ : ∃ wA, (wq2.alloc (.cells #[.int .i64 11, .int .i64 0, .int .i64 0, .int .i64 0, .int .i64 0, .string ⟨#[]⟩, .string ⟨#[]⟩, .string ⟨#[]⟩, .string ⟨#[]⟩, .string ⟨#[]⟩, .slice none 0 0, .slice none 0 0, .slice none 0 0, .bool false] 25)) = wA := ⟨_, rfl⟩
        rw [hwA] at HT10 hb ⊢
        generalize hB10e : wq2.heap.size = B10 at HT10 hb hB10 ⊢
        clear hwA
        have HBL := Lib.hid hb
        have HXq := HX
        have HINq := HIN
        have HBq := HB
        have HBE := Lib.hid hB10e
        replace HX := Lib.hid (HX.out.below (hB10e ▸ hb))
        replace HIN := Lib.hid (HIN.out.below (hB10e ▸ hb))
        replace HB := Lib.hid (HB.out.trans (hb.mono (by omega)))
        clear hb hB10e
        have c0 : wA.cell? ⟨W.heap.size, 0, none⟩ = some (.int .i64 v.kind) := HX.out 0 _ rfl
        rw [hk] at c0
        go_upto_region 48 with fail
        clear c0
        have c2 : wA.cell? ⟨W.heap.size, 2, none⟩ = some (.int .i64 v.n) := HX.out 2 _ rfl
        have hz9 := HT10.out
        have d2 : wA.cell? ⟨B10, 2, none⟩ = some (.int .i64 0) := by unfold World.cell?; rw [show wA.heap[(⟨B10, 2, none⟩ : Addr).block]? = _ from hz9]; rfl
        have hfr : ∀ j, wA.frozen? ⟨B10, j, none⟩ = false := fun j => by unfold World.frozen?; rw [show wA.heap[(⟨B10, j, none⟩ : Addr).block]? = _ from hz9]; rfl
        clear hz9
        go_upto_region 49 with fail
        obtain ⟨wN, hwwN⟩ : ∃ wz, (wA.setCell ⟨B10, 2, none⟩ (.int .i64 v.n)) = wz := ⟨_, rfl⟩
        rw [hwwN]
        have HTwN : Hid (wN.heap[B10]? = some (.cells #[.int .i64 11, .int .i64 0, .int .i64 v.n, .int .i64 0, .int .i64 0, .string (S []), .string (S []), .string (S []), .string (S []), .string (S []), .slice none 0 0, .slice none 0 0, .slice none 0 0, .bool false] 25 (0, 0))) := by
          have h0 : wA.heap[B10]? = some (.cells #[.int .i64 11, .int .i64 0, .int .i64 0, .int .i64 0, .int .i64 0, .string (S []), .string (S []), .string (S []), .string (S []), .string (S []), .slice none 0 0, .slice none 0 0, .slice none 0 0, .bool false] 25 (0, 0)) := HT10.out
          have h1 := heap_setCell_same _ B10 2 _ _ (.int .i64 v.n) h0
          simp only [List.setIfInBounds_toArray, List.set_cons_zero, List.set_cons_succ] at h1
          show wN.heap[B10]? = _
          rw [← hwwN]
          exact h1
        have hb : Below B10 wq2 wN := by rw [← hwwN]; exact (HBL.out.setCell (p := ⟨B10, 2, none⟩) (Nat.le_refl _) _)
        clear hwwN
        replace HX := Lib.hid (HXq.out.below (HBE.out ▸ hb))
        replace HIN := Lib.hid (HINq.out.below (HBE.out ▸ hb))
        replace HB := Lib.hid (HBq.out.trans (hb.mono (Nat.le_of_lt hB10)))
        clear hb HT10 HBL HXq HINq HBq c2 d2 hfr wA
        have hNs : W.heap.size < wN.heap.size := by have := HX.out 0 _ rfl; exact cell_lt this
        have HCN : Hid (∀ w, LitMap.Lasts wN.heap.size wN.drew w → w.cell? ⟨W.heap.size, 0, none⟩ = some (.int .i64 11) ∧ w.cell? ⟨W.heap.size, 2, none⟩ = some (.int .i64 v.n)) := by
          intro w hw
          have hx := HX.out.below ((Below.refl _ _).drew.trans hw.below)
          have h0 : w.cell? ⟨W.heap.size, 0, none⟩ = some (.int .i64 v.kind) := hx 0 _ rfl
          rw [hk] at h0
          exact ⟨h0, hx 2 _ rfl⟩
        refine GrowN.wp_region_n 16 [some (.inr fun _ u w => ∃ b, u = .map (some b) ∧ wN.heap.size ≤ b ∧ LitMap.MapAt w b), some (.inr fun _ _ _ => True), some (.inr fun _ _ _ => True), some (.inr fun l _ w => ∃ b, l = [some (.map (some b))] ∧ wN.heap.size ≤ b ∧ LitMap.Has w b 11), some (.inr fun _ _ _ => True), some (.inr fun _ _ _ => True), some (.inr fun _ u w => ∃ b, u = .map (some b) ∧ LitMap.Has w b 11), none, some (.inl (.int .i64 11)), some (.inl (.string ⟨#[80, 73, 67, 75, 32]⟩)), none, none, some (.inl (.int .i64 v.n)), some (.inl (.string (S (Lib.itoa v.n)))), some (.inl (.string (⟨#[80, 73, 67, 75, 32]⟩ ++ S (Lib.itoa v.n)))), none] (LitMap.Lasts wN.heap.size) (by kernel_rfl) (by kernel_rfl) (by kernel_rfl) (LitMap.Lasts.refl _) (fun _ _ _ => LitMap.Lasts.trans) ?_ ?_
        · intro K hK Y hY l u w w' hR h
          have hR : LitMap.Lasts wN.heap.size w w' := hR
          simp only [List.mem_cons, List.not_mem_nil, or_false] at hK
          rcases hK with rfl | rfl | rfl | rfl | rfl | rfl | rfl | rfl | rfl | rfl | rfl | rfl | rfl | rfl | rfl | rfl <;> simp only [reduceCtorEq, Option.some.injEq, Sum.inr.injEq] at hY
          · subst hY; obtain ⟨b, rfl, hb, hm⟩ := h; exact ⟨b, rfl, hb, hR.map b hm⟩
          · subst hY; trivial
          · subst hY; trivial
          · subst hY; obtain ⟨b, rfl, hb, hm⟩ := h; exact ⟨b, rfl, hb, hR.has b _ hm⟩
          · subst hY; trivial
          · subst hY; trivial
          · subst hY; obtain ⟨b, rfl, hm⟩ := h; exact ⟨b, rfl, hR.has b _ hm⟩
        have htake := trivial
        simp only [List.take_succ_cons, List.take_zero, List.drop_succ_cons, List.drop_zero]
        refine GrowN.g_new rfl (fun w2 hw hF => ?_) (fun v0 => ?_)
        · clear hF
          have hmk := LitMap.Lasts.made w2 hw.below.size
          have hrun : (Instr.makeMap 57 none).run Tryz.prog w2 = .ok (.map (some w2.heap.size)) (w2.alloc (.map #[] 0)) := rfl
          have hsz : wN.heap.size ≤ w2.heap.size := hw.below.size
          go_simp
          exact ⟨⟨_, rfl, hsz, hmk.2⟩, hmk.1⟩
        simp only [Act.put, List.setIfInBounds_toArray, List.set_cons_zero, List.set_cons_succ]
        refine GrowN.g_new rfl (fun w2 hw hF => ?_) (fun v1 => ?_)
        · obtain ⟨b, rfl, hNb, hM⟩ := hF _ (.head _) (by kernel_rfl)
          clear hF
          obtain ⟨w3, hrun, hh, hl⟩ := LitMap.insert_step (P := Tryz.prog) Tryz.underlying57 Tryz.underlying3 hM hNb 4
          replace hrun : (Instr.mapUpdate 57 (.map (some b)) (.int .i64 4) (.string ⟨#[67, 65, 78, 67, 69, 76, 32]⟩)).run Tryz.prog w2 = .ok () w3 := hrun
          go_simp
          all_goals exact hl
        simp only [Act.put, List.setIfInBounds_toArray, List.set_cons_zero, List.set_cons_succ]
        refine GrowN.g_new rfl (fun w2 hw hF => ?_) (fun v2 => ?_)
        · obtain ⟨b, rfl, hNb, hM⟩ := hF _ (.tail _ (.head _)) (by kernel_rfl)
          clear hF
          obtain ⟨w3, hrun, hh, hl⟩ := LitMap.insert_step (P := Tryz.prog) Tryz.underlying57 Tryz.underlying3 hM hNb 10
          replace hrun : (Instr.mapUpdate 57 (.map (some b)) (.int .i64 10) (.string ⟨#[83, 84, 65, 84, 85, 83, 32]⟩)).run Tryz.prog w2 = .ok () w3 := hrun
          go_simp
          all_goals exact hl
        simp only [Act.put, List.setIfInBounds_toArray, List.set_cons_zero, List.set_cons_succ]
        refine GrowN.g_new rfl (fun w2 hw hF => ?_) (fun v3 => ?_)
        · obtain ⟨b, rfl, hNb, hM⟩ := hF _ (.tail _ (.tail _ (.head _))) (by kernel_rfl)
          clear hF
          obtain ⟨w3, hrun, hh, hl⟩ := LitMap.insert_step (P := Tryz.prog) Tryz.underlying57 Tryz.underlying3 hM hNb 11
          replace hrun : (Instr.mapUpdate 57 (.map (some b)) (.int .i64 11) (.string ⟨#[80, 73, 67, 75, 32]⟩)).run Tryz.prog w2 = .ok () w3 := hrun
          go_simp
          first
          | exact ⟨⟨b, rfl, hNb, hh⟩, hl⟩
          | exact ⟨b, rfl, hNb, hh⟩
          | exact ⟨rfl, hNb, hh⟩
        simp only [Act.put, List.setIfInBounds_toArray, List.set_cons_zero, List.set_cons_succ]
        refine GrowN.g_new rfl (fun w2 hw hF => ?_) (fun v4 => ?_)
        · obtain ⟨b, rfl, hNb, hM⟩ := hF _ (.tail _ (.tail _ (.tail _ (.head _)))) (by kernel_rfl)
          clear hF
          obtain ⟨w3, hrun, hh, hl⟩ := LitMap.insert_step (P := Tryz.prog) Tryz.underlying57 Tryz.underlying3 hM hNb 12
          replace hrun : (Instr.mapUpdate 57 (.map (some b)) (.int .i64 12) (.string ⟨#[80, 65, 83, 83, 32]⟩)).run Tryz.prog w2 = .ok () w3 := hrun
          go_simp
          all_goals exact hl
        simp only [Act.put, List.setIfInBounds_toArray, List.set_cons_zero, List.set_cons_succ]
        refine GrowN.g_new rfl (fun w2 hw hF => ?_) (fun v5 => ?_)
        · obtain ⟨b, rfl, hNb, hM⟩ := hF _ (.tail _ (.tail _ (.tail _ (.tail _ (.head _))))) (by kernel_rfl)
          clear hF
          obtain ⟨w3, hrun, hh, hl⟩ := LitMap.insert_step (P := Tryz.prog) Tryz.underlying57 Tryz.underlying3 hM hNb 13
          replace hrun : (Instr.mapUpdate 57 (.map (some b)) (.int .i64 13) (.string ⟨#[70, 85, 83, 69, 32]⟩)).run Tryz.prog w2 = .ok () w3 := hrun
          go_simp
          all_goals exact hl
        simp only [Act.put, List.setIfInBounds_toArray, List.set_cons_zero, List.set_cons_succ]
        refine GrowN.g_new rfl (fun w2 hw hF => ?_) (fun v6 => ?_)
        · obtain ⟨b, rfl, hNb, hM⟩ := hF _ (.tail _ (.tail _ (.tail _ (.tail _ (.tail _ (.head _)))))) (by kernel_rfl)
          obtain ⟨b2, hl, hNb2, hH⟩ := hF _ (.tail _ (.tail _ (.head _))) (by kernel_rfl)
          clear hF
          replace hl : [some (Value.map (some b))] = [some (Value.map (some b2))] := hl
          simp only [List.cons.injEq, Option.some.injEq, Value.map.injEq, and_true] at hl
          subst hl
          go_simp
          exact ⟨⟨b, rfl, hH⟩, LitMap.Lasts.refl _ _⟩
        simp only [Act.put, List.setIfInBounds_toArray, List.set_cons_zero, List.set_cons_succ]
        refine GrowN.g_det rfl ?_
        apply Exists.intro
        refine ⟨fun w hw hF => ?_, ?_⟩
        · clear hF
          go_simp
          exact ⟨rfl, LitMap.Lasts.refl _ _⟩
        simp only [Act.put, List.setIfInBounds_toArray, List.set_cons_zero, List.set_cons_succ]
        refine GrowN.g_con rfl (fun w2 hw hF => ?_) ?_
        · clear hF
          have c0 := (HCN.out w2 hw).1
          go_simp
          exact LitMap.Lasts.refl _ _
        simp only [Act.put, List.setIfInBounds_toArray, List.set_cons_zero, List.set_cons_succ]
        refine GrowN.g_con rfl (fun w2 hw hF => ?_) ?_
        · obtain ⟨b, rfl, hH⟩ := hF _ (.head _) (by kernel_rfl)
          clear hF
          have hrun : (Instr.lookup 57 (.map (some b)) (.int .i64 11) false).run Tryz.prog w2 = .ok (.string ⟨#[80, 73, 67, 75, 32]⟩) w2 := LitMap.lookup_has Tryz.underlying57 Tryz.underlying3 hH
          go_simp
          exact LitMap.Lasts.refl _ _
        simp only [Act.put, List.setIfInBounds_toArray, List.set_cons_zero, List.set_cons_succ]
        refine GrowN.g_det rfl ?_
        apply Exists.intro
        refine ⟨fun w hw hF => ?_, ?_⟩
        · clear hF
          go_simp
          exact ⟨rfl, LitMap.Lasts.refl _ _⟩
        simp only [Act.put, List.setIfInBounds_toArray, List.set_cons_zero, List.set_cons_succ]
        refine GrowN.g_det rfl ?_
        apply Exists.intro
        refine ⟨fun w hw hF => ?_, ?_⟩
        · clear hF
          go_simp
          exact ⟨rfl, LitMap.Lasts.refl _ _⟩
        simp only [Act.put, List.setIfInBounds_toArray, List.set_cons_zero, List.set_cons_succ]
        refine GrowN.g_con rfl (fun w2 hw hF => ?_) ?_
        · clear hF
          have c2 := (HCN.out w2 hw).2
          go_simp
          exact LitMap.Lasts.refl _ _
        simp only [Act.put, List.setIfInBounds_toArray, List.set_cons_zero, List.set_cons_succ]
        refine GrowN.g_con rfl (fun w2 hw hF => ?_) ?_
        · clear hF
          go_simp
          exact (digits_any v.n HI.out.n.1 HI.out.n.2 w2).mono fun e w3 h => ⟨_, h.1, rfl, h.2 ▸ LitMap.Lasts.refl _ _⟩
        simp only [Act.put, List.setIfInBounds_toArray, List.set_cons_zero, List.set_cons_succ]
        refine GrowN.g_con rfl (fun w2 hw hF => ?_) ?_
        · clear hF
          go_simp
          rw [if_neg (by omega)]
          exact ⟨rfl, LitMap.Lasts.refl _ _⟩
        simp only [Act.put, List.setIfInBounds_toArray, List.set_cons_zero, List.set_cons_succ]
        refine GrowN.g_det rfl ?_
        apply Exists.intro
        refine ⟨fun w hw hF => ?_, ?_⟩
        · clear hF
          go_simp
          exact ⟨rfl, LitMap.Lasts.refl _ _⟩
        simp only [Act.put, List.setIfInBounds_toArray, List.set_cons_zero, List.set_cons_succ]
        refine GrowN.g_nil fun w3 hw3 hF => ?_
        clear hF
        refine wpList_nil ?_
        have hb : Below wN.heap.size wN w3 := (Below.refl _ _).drew.trans hw3.below
        have hlt : B10 < wN.heap.size := by have h := HTwN.out; exact (Array.getElem?_eq_some_iff.1 h).1
        have HTW : Hid (w3.heap[B10]? = some (.cells #[.int .i64 11, .int .i64 0, .int .i64 v.n, .int .i64 0, .int .i64 0, .string (S []), .string (S []), .string (S []), .string (S []), .string (S []), .slice none 0 0, .slice none 0 0, .slice none 0 0, .bool false] 25 (0, 0))) := by show w3.heap[B10]? = _; rw [hb.block _ hlt]; exact HTwN.out
        clear hw3 HTwN hlt HCN
        replace HX := Lib.hid (HX.out.below hb)
        replace HIN := Lib.hid (HIN.out.below hb)
        replace HB := Lib.hid (HB.out.trans (hb.mono HB.out.size))
        clear hb
        clear hNs
        clear wN
        generalize w3 = wA at *
        have c0 : wA.cell? ⟨W.heap.size, 0, none⟩ = some (.int .i64 v.kind) := HX.out 0 _ rfl
        rw [hk] at c0
        go_upto_region 56 with fail
        clear c0
        have c0 : wA.cell? ⟨W.heap.size, 0, none⟩ = some (.int .i64 v.kind) := HX.out 0 _ rfl
        have c1 : wA.cell? ⟨W.heap.size, 1, none⟩ = some (.int .i64 v.queue) := HX.out 1 _ rfl
        have c2 : wA.cell? ⟨W.heap.size, 2, none⟩ = some (.int .i64 v.n) := HX.out 2 _ rfl
        have c3 : wA.cell? ⟨W.heap.size, 3, none⟩ = some (.int .i64 v.aat) := HX.out 3 _ rfl
        have c4 : wA.cell? ⟨W.heap.size, 4, none⟩ = some (.int .i64 v.lack) := HX.out 4 _ rfl
        have c5 : wA.cell? ⟨W.heap.size, 5, none⟩ = some (.string (S v.topic)) := HX.out 5 _ rfl
        have c6 : wA.cell? ⟨W.heap.size, 6, none⟩ = some (.string (S v.group)) := HX.out 6 _ rfl
        have c7 : wA.cell? ⟨W.heap.size, 7, none⟩ = some (.string (S v.tag)) := HX.out 7 _ rfl
        have c8 : wA.cell? ⟨W.heap.size, 8, none⟩ = some (.string (S v.key)) := HX.out 8 _ rfl
        have c9 : wA.cell? ⟨W.heap.size, 9, none⟩ = some (.string (S v.body)) := HX.out 9 _ rfl
        have c10 : wA.cell? ⟨W.heap.size, 10, none⟩ = some (.slice s.ka v.keys.length s.kc) := HX.out 10 _ rfl
        have c11 : wA.cell? ⟨W.heap.size, 11, none⟩ = some (.slice s.ta v.tags.length s.tc) := HX.out 11 _ rfl
        have c12 : wA.cell? ⟨W.heap.size, 12, none⟩ = some (.slice s.pa v.keep.length s.pc) := HX.out 12 _ rfl
        have c13 : wA.cell? ⟨W.heap.size, 13, none⟩ = some (.bool v.sync) := HX.out 13 _ rfl
        rw [hk] at c0
        have hz9 := HTW.out
        have d0 : wA.cell? ⟨B10, 0, none⟩ = some (.int .i64 11) := by unfold World.cell?; rw [show wA.heap[(⟨B10, 0, none⟩ : Addr).block]? = _ from hz9]; rfl
        have d1 : wA.cell? ⟨B10, 1, none⟩ = some (.int .i64 0) := by unfold World.cell?; rw [show wA.heap[(⟨B10, 1, none⟩ : Addr).block]? = _ from hz9]; rfl
        have d2 : wA.cell? ⟨B10, 2, none⟩ = some (.int .i64 v.n) := by unfold World.cell?; rw [show wA.heap[(⟨B10, 2, none⟩ : Addr).block]? = _ from hz9]; rfl
        have d3 : wA.cell? ⟨B10, 3, none⟩ = some (.int .i64 0) := by unfold World.cell?; rw [show wA.heap[(⟨B10, 3, none⟩ : Addr).block]? = _ from hz9]; rfl
        have d4 : wA.cell? ⟨B10, 4, none⟩ = some (.int .i64 0) := by unfold World.cell?; rw [show wA.heap[(⟨B10, 4, none⟩ : Addr).block]? = _ from hz9]; rfl
        have d5 : wA.cell? ⟨B10, 5, none⟩ = some (.string (S [])) := by unfold World.cell?; rw [show wA.heap[(⟨B10, 5, none⟩ : Addr).block]? = _ from hz9]; rfl
        have d6 : wA.cell? ⟨B10, 6, none⟩ = some (.string (S [])) := by unfold World.cell?; rw [show wA.heap[(⟨B10, 6, none⟩ : Addr).block]? = _ from hz9]; rfl
        have d7 : wA.cell? ⟨B10, 7, none⟩ = some (.string (S [])) := by unfold World.cell?; rw [show wA.heap[(⟨B10, 7, none⟩ : Addr).block]? = _ from hz9]; rfl
        have d8 : wA.cell? ⟨B10, 8, none⟩ = some (.string (S [])) := by unfold World.cell?; rw [show wA.heap[(⟨B10, 8, none⟩ : Addr).block]? = _ from hz9]; rfl
        have d9 : wA.cell? ⟨B10, 9, none⟩ = some (.string (S [])) := by unfold World.cell?; rw [show wA.heap[(⟨B10, 9, none⟩ : Addr).block]? = _ from hz9]; rfl
        have d10 : wA.cell? ⟨B10, 10, none⟩ = some (.slice none 0 0) := by unfold World.cell?; rw [show wA.heap[(⟨B10, 10, none⟩ : Addr).block]? = _ from hz9]; rfl
        have d11 : wA.cell? ⟨B10, 11, none⟩ = some (.slice none 0 0) := by unfold World.cell?; rw [show wA.heap[(⟨B10, 11, none⟩ : Addr).block]? = _ from hz9]; rfl
        have d12 : wA.cell? ⟨B10, 12, none⟩ = some (.slice none 0 0) := by unfold World.cell?; rw [show wA.heap[(⟨B10, 12, none⟩ : Addr).block]? = _ from hz9]; rfl
        have d13 : wA.cell? ⟨B10, 13, none⟩ = some (.bool false) := by unfold World.cell?; rw [show wA.heap[(⟨B10, 13, none⟩ : Addr).block]? = _ from hz9]; rfl
        clear hz9
        have hwo : EvOk (wantE v 11) := ⟨Nat.zero_le _, Nat.zero_le _, Nat.zero_le _, Nat.zero_le _, Nat.zero_le _, Nat.zero_le _, Nat.zero_le _, Nat.zero_le _, fun t ht => (by cases ht), fun t ht => (by cases ht)⟩
        have hwi : EvIn wA (wantE v 11) ⟨none, 0, none, 0, none, 0⟩ := ⟨fun i hi => absurd hi (Nat.not_lt_zero _), fun i hi => absurd hi (Nat.not_lt_zero _), fun i hi => absurd hi (Nat.not_lt_zero _)⟩
        have HSC := Lib.hid (ev_same v (wantE v 11) s ⟨none, 0, none, 0, none, 0⟩ HSM.out hwo wA HIN.out hwi)
        rw [show v.cells s = #[.int .i64 11, .int .i64 v.queue, .int .i64 v.n, .int .i64 v.aat, .int .i64 v.lack, .string (S v.topic), .string (S v.group), .string (S v.tag), .string (S v.key), .string (S v.body), .slice s.ka v.keys.length s.kc, .slice s.ta v.tags.length s.tc, .slice s.pa v.keep.length s.pc, .bool v.sync] from by unfold Ev.cells; rw [hk], show Ev.cells (wantE v 11) ⟨none, 0, none, 0, none, 0⟩ = #[.int .i64 11, .int .i64 0, .int .i64 v.n, .int .i64 0, .int .i64 0, .string (S []), .string (S []), .string (S []), .string (S []), .string (S []), .slice none 0 0, .slice none 0 0, .slice none 0 0, .bool false] from rfl] at HSC
        rw [hsy0] at HSC
        clear hwo hwi
        go_wp2_with fail
        refine HSC.out.mono ?_
        rintro e wB ⟨rfl, hb⟩
        clear c0 c1 c2 c3 c4 c5 c6 c7 c8 c9 c10 c11 c12 c13 d0 d1 d2 d3 d4 d5 d6 d7 d8 d9 d10 d11 d12 d13 HSC HTW
        replace HX := Lib.hid (HX.out.below hb)
        replace HIN := Lib.hid (HIN.out.below hb)
        replace HB := Lib.hid (HB.out.trans (hb.mono HB.out.size))
        clear hb
        have HC : Hid (condB v 11 = (sameE v (wantE v 11) && true && true)) := by show _ = _; unfold condB; rfl
        generalize sameE v (wantE v 11) = sb at *
        cases sb with
        | false =>
          have HT : Hid (RR = []) := by show _ = _; rw [← HRR.out, HC.out]; rfl
          have c0 : wB.cell? ⟨W.heap.size, 0, none⟩ = some (.int .i64 v.kind) := HX.out 0 _ rfl
          have c5 : wB.cell? ⟨W.heap.size, 5, none⟩ = some (.string (S v.topic)) := HX.out 5 _ rfl
          have c6 : wB.cell? ⟨W.heap.size, 6, none⟩ = some (.string (S v.group)) := HX.out 6 _ rfl
          rw [hk] at c0
          go_wp2_with fail
          go_ret
          rw [HT.out]
          exact ⟨rfl, HB.out⟩
        | true =>
          have HT : Hid (S RR = S (lineS v 11)) := by show _ = _; rw [← HRR.out, HC.out]; rfl
          have c0 : wB.cell? ⟨W.heap.size, 0, none⟩ = some (.int .i64 v.kind) := HX.out 0 _ rfl
          have c5 : wB.cell? ⟨W.heap.size, 5, none⟩ = some (.string (S v.topic)) := HX.out 5 _ rfl
          have c6 : wB.cell? ⟨W.heap.size, 6, none⟩ = some (.string (S v.group)) := HX.out 6 _ rfl
          rw [hk] at c0
          go_wp2_with fail
          go_ret
          rw [HT.out]
          exact ⟨rfl, HB.out⟩

        skip
end Go.Proofs.YtadhkeboaapfcaaGreatDoor.EvW
