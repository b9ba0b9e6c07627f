/- reveillelaw30.line at kind 2. -/
import Derived.Test.YtadhkeboaapfcaaGreatDoorLineH
import Derived.Test.YtadhkeboaapfcaaGreatDoorLow
import Derived.Deep.DeepCutAuto
import Derived.BigRegion
import Derived.BigQuiet
namespace Go.Proofs.YtadhkeboaapfcaaGreatDoor.EvW
open Go.RowKit OctMath NameMath HexMath
set_option linter.unusedVariables false
set_option linter.unusedSimpArgs false
set_option maxRecDepth 100000


set_option maxHeartbeats 12800000 in
theorem line_2 (v : Ev) (s : EvS) (hsm : EvOk v) (hi : EvI v) (W : World) (hin : EvIn W v s) (hcap : v.tags.length ≤ s.tc) (hk : v.kind = 2) (hg : guardB v = true) (hbk : v.keys.any badK = false) :
    Calls Tryz.prog 10 #[.agg (v.cells s)] W fun e w' => e = .returned (.string (S (if condB v 2 then lineS v 2 else []))) ∧ Below W.heap.size W w' := by
  generalize hRR : (if condB v 2 then lineS v 2 else []) = RR
  have HRR := Lib.hid hRR
  clear hRR
  have HP := Lib.hid (guard_parts hg)
  have HK := Lib.hid hbk
  have HG := Lib.hid hg
  have HSM := Lib.hid hsm
  have HI := Lib.hid hi
  have HB : Hid (Below W.heap.size W (W.alloc (.cells (v.cells s) 25))) := (Below.refl _ W).alloc (Nat.le_refl _) _
  have HIN := Lib.hid (hin.below HB.out)
  have HX : Hid (Boxed (W.alloc (.cells (v.cells s) 25)) W.heap.size (v.cells s)) := Boxed.new W _ _
  have hcv : (v.cells s).size = 14 := rfl
  have hsz := S_size
  clear hsm hi hin hg hbk
  go_enter Tryz.func10, Tryz.ntmps10
  go_upto_region 1 with fail
  generalize (W.alloc (.cells (v.cells s) 25)) = w1 at *
  clear hcv
  have c0 : w1.cell? ⟨W.heap.size, 0, none⟩ = some (.int .i64 v.kind) := HX.out 0 _ rfl
  have c1 : w1.cell? ⟨W.heap.size, 1, none⟩ = some (.int .i64 v.queue) := HX.out 1 _ rfl
  have c2 : w1.cell? ⟨W.heap.size, 2, none⟩ = some (.int .i64 v.n) := HX.out 2 _ rfl
  have c3 : w1.cell? ⟨W.heap.size, 3, none⟩ = some (.int .i64 v.aat) := HX.out 3 _ rfl
  have c4 : w1.cell? ⟨W.heap.size, 4, none⟩ = some (.int .i64 v.lack) := HX.out 4 _ rfl
  rw [hk] at c0
  have HNB := Lib.hid (small_any (some ⟨w1.heap.size, 0, none⟩) 4 [v.queue, v.n, v.aat, v.lack] (by simp))
  rw [HP.out.1] at HNB
  go_wp2_with fail
  refine (HNB.out _ ?nrow).mono ?_
  case nrow => exact fun i hi => ⟨_, 0, rfl, by rw [World.cell?_alloc_new]; match i, hi with | 0, _ => rfl | 1, _ => rfl | 2, _ => rfl | 3, _ => rfl⟩
  rintro e w2 ⟨rfl, hd⟩
  have hb : Below w1.heap.size w1 w2 := ((Below.refl _ w1).alloc (Nat.le_refl _) _).trans (hd.below _)
  clear hd c0 c1 c2 c3 c4 HNB
  replace HX := Lib.hid (HX.out.below hb)
  replace HIN := Lib.hid (HIN.out.below hb)
  replace HB := Lib.hid (HB.out.trans (hb.mono HB.out.size))
  clear hb
  have c7 : w2.cell? ⟨W.heap.size, 7, none⟩ = some (.string (S v.tag)) := HX.out 7 _ rfl
  have HTG := Lib.hid (fun w => NameW.rtag_any v.tag (by have := HSM.out.tag; omega) w)
  rw [HP.out.2.1] at HTG
  go_wp2_with fail
  refine (HTG.out _).mono ?_
  rintro e w3 ⟨rfl, hd⟩
  have hb := hd.below w2.heap.size
  clear hd c7 HTG
  replace HX := Lib.hid (HX.out.below hb)
  replace HIN := Lib.hid (HIN.out.below hb)
  replace HB := Lib.hid (HB.out.trans (hb.mono HB.out.size))
  clear hb
  have c8 : w3.cell? ⟨W.heap.size, 8, none⟩ = some (.string (S v.key)) := HX.out 8 _ rfl
  have c9 : w3.cell? ⟨W.heap.size, 9, none⟩ = some (.string (S v.body)) := HX.out 9 _ rfl
  have c10 : w3.cell? ⟨W.heap.size, 10, none⟩ = some (.slice s.ka v.keys.length s.kc) := HX.out 10 _ rfl
  have c11 : w3.cell? ⟨W.heap.size, 11, none⟩ = some (.slice s.ta v.tags.length s.tc) := HX.out 11 _ rfl
  have c12 : w3.cell? ⟨W.heap.size, 12, none⟩ = some (.slice s.pa v.keep.length s.pc) := HX.out 12 _ rfl
  have HFL := Lib.hid (fun w h => lfilter_any s.ta s.tc v.tags (by have := HSM.out.tags; omega) hcap HSM.out.tagsz w h)
  rw [HP.out.2.2.1] at HFL
  go_wp2_with fail
  refine (HFL.out _ HIN.out.tags).mono ?_
  rintro e w4 ⟨rfl, hd⟩
  have hb := hd.below w3.heap.size
  clear hd c8 c9 c10 c11 c12 HFL
  replace HX := Lib.hid (HX.out.below hb)
  replace HIN := Lib.hid (HIN.out.below hb)
  replace HB := Lib.hid (HB.out.trans (hb.mono HB.out.size))
  clear hb
  have c8 : w4.cell? ⟨W.heap.size, 8, none⟩ = some (.string (S v.key)) := HX.out 8 _ rfl
  have c9 : w4.cell? ⟨W.heap.size, 9, none⟩ = some (.string (S v.body)) := HX.out 9 _ rfl
  have c10 : w4.cell? ⟨W.heap.size, 10, none⟩ = some (.slice s.ka v.keys.length s.kc) := HX.out 10 _ rfl
  have c12 : w4.cell? ⟨W.heap.size, 12, none⟩ = some (.slice s.pa v.keep.length s.pc) := HX.out 12 _ rfl
  have hp1 := HP.out.2.2.2.1
  have hp2 := HP.out.2.2.2.2.1
  have hp3 := HP.out.2.2.2.2.2.1
  have hp4 := HP.out.2.2.2.2.2.2
  have g1 : decide (300 < (v.body.length : Int)) = false := decide_eq_false (by omega)
  have g2 : decide (300 < (v.key.length : Int)) = false := decide_eq_false (by omega)
  have g3 : decide (10 < (v.keys.length : Int)) = false := decide_eq_false (by omega)
  have g4 : decide (100 < (v.keep.length : Int)) = false := decide_eq_false (by omega)
  go_wp2_with fail
  clear g1 g2 g3 g4
  have HKL : Hid (Row1 w4 s.ka (v.keys.map fun x => .string (S x))) := row_strs HIN.out.keys
  have htl := NameW.S_toList
  go_loopw [74] (fun i wr => ∃ k : Nat, k ≤ v.keys.length ∧ i = .int .i64 (k : Int) ∧ wr = w4) (fun i _ => v.keys.length + 1 - (intOf i).toNat)
  case atStart => exact ⟨0, by omega, rfl, rfl⟩
  case round =>
    obtain ⟨k, hkk, rfl, rfl⟩ := hrel
    by_cases hlt : k < v.keys.length
    · obtain ⟨b, off, hbo, hcell⟩ := HKL.out k (by rw [List.length_map]; exact hlt)
      rw [List.getElem_map] at hcell
      have hgood := key_good HK.out (List.getElem_mem hlt)
      generalize v.keys[k] = x at *
      have hxe : (x == []) = false := by simp [hgood.1]
      have hx3 := hgood.2
      clear hgood c8 c9 c10 c12
      rw [hbo] at *
      go_wp2_with fail
      go_roundw
      case rel => exact ⟨k + 1, by omega, by go_num, trivial⟩
      case measure => simp [intOf]; omega
    · obtain rfl : k = v.keys.length := by omega
      clear HKL c8 c9 c10 c12 hlt hkk
      have c0 : wr.cell? ⟨W.heap.size, 0, none⟩ = some (.int .i64 v.kind) := HX.out 0 _ rfl
      have c1 : wr.cell? ⟨W.heap.size, 1, none⟩ = some (.int .i64 v.queue) := HX.out 1 _ rfl
      have c2 : wr.cell? ⟨W.heap.size, 2, none⟩ = some (.int .i64 v.n) := HX.out 2 _ rfl
      have c3 : wr.cell? ⟨W.heap.size, 3, none⟩ = some (.int .i64 v.aat) := HX.out 3 _ rfl
      have c4 : wr.cell? ⟨W.heap.size, 4, none⟩ = some (.int .i64 v.lack) := HX.out 4 _ rfl
      have c5 : wr.cell? ⟨W.heap.size, 5, none⟩ = some (.string (S v.topic)) := HX.out 5 _ rfl
      have c6 : wr.cell? ⟨W.heap.size, 6, none⟩ = some (.string (S v.group)) := HX.out 6 _ rfl
      have c7 : wr.cell? ⟨W.heap.size, 7, none⟩ = some (.string (S v.tag)) := HX.out 7 _ rfl
      have c8 : wr.cell? ⟨W.heap.size, 8, none⟩ = some (.string (S v.key)) := HX.out 8 _ rfl
      have c9 : wr.cell? ⟨W.heap.size, 9, none⟩ = some (.string (S v.body)) := HX.out 9 _ rfl
      have c10 : wr.cell? ⟨W.heap.size, 10, none⟩ = some (.slice s.ka v.keys.length s.kc) := HX.out 10 _ rfl
      have c11 : wr.cell? ⟨W.heap.size, 11, none⟩ = some (.slice s.ta v.tags.length s.tc) := HX.out 11 _ rfl
      have c12 : wr.cell? ⟨W.heap.size, 12, none⟩ = some (.slice s.pa v.keep.length s.pc) := HX.out 12 _ rfl
      have c13 : wr.cell? ⟨W.heap.size, 13, none⟩ = some (.bool v.sync) := HX.out 13 _ rfl
      rw [hk] at c0
      have hdq : ∀ (x : Int), (-9223372036854775808 ≤ x ∧ x ≤ 9223372036854775807) → ∀ (w : World) (n : Nat), Calls Tryz.prog 17 #[.int .i64 x] (w.drewN n) fun e w'' => e = .returned (.string (S (Lib.itoa x))) ∧ ∃ m, w'' = w.drewN m := fun x hx w n => (digits_any x hx.1 hx.2 _).mono fun _ _ h => ⟨h.1, n, h.2⟩
      have HDQ1 := Lib.hid (hdq v.queue HI.out.queue)
      have HDQ2 := Lib.hid (hdq v.n HI.out.n)
      have HDQ3 := Lib.hid (hdq v.aat HI.out.aat)
      have HDQ4 := Lib.hid (hdq v.lack HI.out.lack)
      clear hdq
      have hz := part_sizes HSM.out HI.out HG.out HK.out
      have hz1 := hz.1
      have hz2 := hz.2.1
      have hz3 := hz.2.2.1
      have hz4 := hz.2.2.2.1
      have hz5 := hz.2.2.2.2.1
      have hz6 := hz.2.2.2.2.2.1
      have hz7 := hz.2.2.2.2.2.2.1
      have hz8 := hz.2.2.2.2.2.2.2.1
      have hz9 := hz.2.2.2.2.2.2.2.2
      clear hz
      have HKS : Hid (∀ (n : Nat), Calls Tryz.prog 29 #[.slice s.ka v.keys.length s.kc] (wr.drewN n) fun e w'' => e = .returned (.string (S (keysL v.keys))) ∧ ∃ m, w'' = wr.drewN m) := fun n => quiet_drawn (keys30_any s.ka s.kc v.keys (by have := HP.out.2.2.2.2.2.1; omega) (fun t ht => by have := (key_good HK.out ht).2; omega) _ (HIN.out.keys.below (Drawn.below ⟨n, rfl⟩ _)))
      have HTS : Hid (∀ (w : World) (n : Nat), Calls Tryz.prog 28 #[.string (S v.tag)] (w.drewN n) fun e w'' => e = .returned (.string (S (tagW v))) ∧ ∃ m, w'' = w.drewN m) := fun w n => (tag30_any v.tag _).mono fun _ _ h => ⟨h.1, n, h.2⟩
      have HHB : Hid (∀ (w : World) (n : Nat), Calls Tryz.prog 15 #[.string (S v.body)] (w.drewN n) fun e w'' => e = .returned (.string (S (hexL v.body))) ∧ ∃ m, w'' = w.drewN m) := fun w n => quiet_drawn (LinW.rhex_any v.body (by have := HP.out.2.2.2.1; omega) _)
      clear hsz htl hp1 hp2 hp3 hp4
      generalize hsy0 : v.sync = sy at c13
      cases sy
      all_goals
        go_wp2_with fail
        go_quiet (first | (go_at_call_of 17 (Value.int .i64 v.queue); exact HDQ1.out _ _) | (go_at_call_of 17 (Value.int .i64 v.n); exact HDQ2.out _ _) | (go_at_call_of 17 (Value.int .i64 v.aat); exact HDQ3.out _ _) | (go_at_call_of 17 (Value.int .i64 v.lack); exact HDQ4.out _ _) | (go_at_call 28; exact HTS.out _ _) | (go_at_call 29; exact HKS.out _) | (go_at_call 15; exact HHB.out _ _))
        obtain ⟨wq, hwq⟩ : ∃ wz, wr.drewN nq = wz := ⟨_, rfl⟩
        rw [hwq]
        have hd : Drawn wr wq := ⟨nq, hwq.symm⟩
        have hb := hd.below wr.heap.size
        clear hwq hd c0 c1 c2 c3 c4 c5 c6 c7 c8 c9 c10 c11 c12 c13
        replace HX := Lib.hid (HX.out.below hb)
        replace HIN := Lib.hid (HIN.out.below hb)
        replace HB := Lib.hid (HB.out.trans (hb.mono HB.out.size))
        clear hb
        first
        | rw [send_f hsy0]
        | rw [send_t hsy0]
        have c0 : wq.cell? ⟨W.heap.size, 0, none⟩ = some (.int .i64 v.kind) := HX.out 0 _ rfl
        have c1 : wq.cell? ⟨W.heap.size, 1, none⟩ = some (.int .i64 v.queue) := HX.out 1 _ rfl
        have c3 : wq.cell? ⟨W.heap.size, 3, none⟩ = some (.int .i64 v.aat) := HX.out 3 _ rfl
        have c5 : wq.cell? ⟨W.heap.size, 5, none⟩ = some (.string (S v.topic)) := HX.out 5 _ rfl
        have c6 : wq.cell? ⟨W.heap.size, 6, none⟩ = some (.string (S v.group)) := HX.out 6 _ rfl
        rw [hk] at c0
        go_wp2_with fail
        go_quiet (first | (go_at_call_of 17 (Value.int .i64 v.queue); exact HDQ1.out _ _) | (go_at_call_of 17 (Value.int .i64 v.n); exact HDQ2.out _ _) | (go_at_call_of 17 (Value.int .i64 v.aat); exact HDQ3.out _ _) | (go_at_call_of 17 (Value.int .i64 v.lack); exact HDQ4.out _ _) | (go_at_call 28; exact HTS.out _ _) | (go_at_call 29; exact HKS.out _) | (go_at_call 15; exact HHB.out _ _))
        obtain ⟨wq2, hwq⟩ : ∃ wz, wq.drewN nq = wz := ⟨_, rfl⟩
        rw [hwq]
        have hd : Drawn wq wq2 := ⟨nq, hwq.symm⟩
        have hb := hd.below wq.heap.size
        clear hwq hd c0 c1 c3 c5 c6
        replace HX := Lib.hid (HX.out.below hb)
        replace HIN := Lib.hid (HIN.out.below hb)
        replace HB := Lib.hid (HB.out.trans (hb.mono HB.out.size))
        clear hb
        rw [group_eq v]
        have c0 : wq2.cell? ⟨W.heap.size, 0, none⟩ = some (.int .i64 v.kind) := HX.out 0 _ rfl
        rw [hk] at c0
        go_upto_region 17 with fail
        clear c0
        have HT10 : Hid ((wq2.alloc (.cells #[.int .i64 2, .int .i64 0, .int .i64 0, .int .i64 0, .int .i64 0, .string ⟨#[]⟩, .string ⟨#[]⟩, .string ⟨#[]⟩, .string ⟨#[]⟩, .string ⟨#[]⟩, .slice none 0 0, .slice none 0 0, .slice none 0 0, .bool false] 25)).heap[wq2.heap.size]? = some (.cells ((ev0 2).cells evs0) 25 (0, 0))) := World.alloc_heap_new _ _
        have hb : Below wq2.heap.size wq2 (wq2.alloc (.cells #[.int .i64 2, .int .i64 0, .int .i64 0, .int .i64 0, .int .i64 0, .string ⟨#[]⟩, .string ⟨#[]⟩, .string ⟨#[]⟩, .string ⟨#[]⟩, .string ⟨#[]⟩, .slice none 0 0, .slice none 0 0, .slice none 0 0, .bool false] 25)) := (Below.refl _ _).alloc (Nat.le_refl _) _
        have hB10 : W.heap.size < wq2.heap.size := by have := HX.out 0 _ rfl; exact cell_lt this
        obtain ⟨wA, hwA⟩ : ∃ wA, (wq2.alloc (.cells #[.int .i64 2, .int .i64 0, .int .i64 0, .int .i64 0, .int .i64 0, .string ⟨#[]⟩, .string ⟨#[]⟩, .string ⟨#[]⟩, .string ⟨#[]⟩, .string ⟨#[]⟩, .slice none 0 0, .slice none 0 0, .slice none 0 0, .bool false] 25)) = wA := ⟨_, rfl⟩
        rw [hwA] at HT10 hb ⊢
        generalize hB10e : wq2.heap.size = B10 at HT10 hb hB10 ⊢
        clear hwA
        have HBL := Lib.hid hb
        have HXq := HX
        have HINq := HIN
        have HBq := HB
        have HBE := Lib.hid hB10e
        replace HX := Lib.hid (HX.out.below (hB10e ▸ hb))
        replace HIN := Lib.hid (HIN.out.below (hB10e ▸ hb))
        replace HB := Lib.hid (HB.out.trans (hb.mono (by omega)))
        clear hb hB10e
        have c0 : wA.cell? ⟨W.heap.size, 0, none⟩ = some (.int .i64 v.kind) := HX.out 0 _ rfl
        rw [hk] at c0
        go_upto_region 24 with fail
        clear c0
        obtain ⟨sy, hsy⟩ : ∃ b, v.sync = b := ⟨_, rfl⟩
        have HSY := Lib.hid hsy
        clear hsy
        have HCN : Hid (∀ w, (LitMap.Sets B10 25 #[.int .i64 2, .int .i64 v.queue, .int .i64 0, .int .i64 0, .int .i64 0, .string (S v.topic), .string (S []), .string (S v.tag), .string (S []), .string (S v.body), .slice s.ka v.keys.length s.kc, .slice none 0 0, .slice none 0 0, .bool sy]) wA.drew w → w.cell? ⟨W.heap.size, 5, none⟩ = some (.string (S v.topic)) ∧ w.cell? ⟨W.heap.size, 1, none⟩ = some (.int .i64 v.queue) ∧ w.cell? ⟨W.heap.size, 7, none⟩ = some (.string (S v.tag)) ∧ w.cell? ⟨W.heap.size, 10, none⟩ = some (.slice s.ka v.keys.length s.kc) ∧ w.cell? ⟨W.heap.size, 9, none⟩ = some (.string (S v.body)) ∧ w.cell? ⟨W.heap.size, 13, none⟩ = some (.bool sy)) := by
          intro w hw
          have hx := HXq.out.below (HBE.out ▸ ((HBL.out.drew).trans hw.below))
          have h13 : w.cell? ⟨W.heap.size, 13, none⟩ = some (.bool v.sync) := hx 13 _ rfl
          rw [HSY.out] at h13
          exact ⟨hx 5 _ rfl, hx 1 _ rfl, hx 7 _ rfl, hx 10 _ rfl, hx 9 _ rfl, h13⟩
        have hrow : LitMap.RowAt B10 25 14 wA.drew := ⟨_, HT10.out, rfl⟩
        refine GrowN.wp_region_n 24 [none, some (.inl (.string (S v.topic))), none, some (.inl (.int .i64 v.queue)), none, some (.inl (.string (S v.tag))), none, some (.inl (.slice s.ka v.keys.length s.kc)), none, some (.inl (.string (S v.body))), none, some (.inl (.bool sy)), none, some (.inr fun _ _ w => LitMap.At B10 25 #[.int .i64 2, .int .i64 v.queue, .int .i64 0, .int .i64 0, .int .i64 0, .string (S v.topic), .string (S []), .string (S v.tag), .string (S []), .string (S v.body), .slice s.ka v.keys.length s.kc, .slice none 0 0, .slice none 0 0, .bool sy] 5 w), none, some (.inr fun _ _ w => LitMap.At B10 25 #[.int .i64 2, .int .i64 v.queue, .int .i64 0, .int .i64 0, .int .i64 0, .string (S v.topic), .string (S []), .string (S v.tag), .string (S []), .string (S v.body), .slice s.ka v.keys.length s.kc, .slice none 0 0, .slice none 0 0, .bool sy] 1 w), none, some (.inr fun _ _ w => LitMap.At B10 25 #[.int .i64 2, .int .i64 v.queue, .int .i64 0, .int .i64 0, .int .i64 0, .string (S v.topic), .string (S []), .string (S v.tag), .string (S []), .string (S v.body), .slice s.ka v.keys.length s.kc, .slice none 0 0, .slice none 0 0, .bool sy] 7 w), none, some (.inr fun _ _ w => LitMap.At B10 25 #[.int .i64 2, .int .i64 v.queue, .int .i64 0, .int .i64 0, .int .i64 0, .string (S v.topic), .string (S []), .string (S v.tag), .string (S []), .string (S v.body), .slice s.ka v.keys.length s.kc, .slice none 0 0, .slice none 0 0, .bool sy] 10 w), none, some (.inr fun _ _ w => LitMap.At B10 25 #[.int .i64 2, .int .i64 v.queue, .int .i64 0, .int .i64 0, .int .i64 0, .string (S v.topic), .string (S []), .string (S v.tag), .string (S []), .string (S v.body), .slice s.ka v.keys.length s.kc, .slice none 0 0, .slice none 0 0, .bool sy] 9 w), none, some (.inr fun _ _ w => LitMap.At B10 25 #[.int .i64 2, .int .i64 v.queue, .int .i64 0, .int .i64 0, .int .i64 0, .string (S v.topic), .string (S []), .string (S v.tag), .string (S []), .string (S v.body), .slice s.ka v.keys.length s.kc, .slice none 0 0, .slice none 0 0, .bool sy] 13 w)] (LitMap.Sets B10 25 #[.int .i64 2, .int .i64 v.queue, .int .i64 0, .int .i64 0, .int .i64 0, .string (S v.topic), .string (S []), .string (S v.tag), .string (S []), .string (S v.body), .slice s.ka v.keys.length s.kc, .slice none 0 0, .slice none 0 0, .bool sy]) (by kernel_rfl) (by kernel_rfl) (by kernel_rfl) (LitMap.Sets.refl _ _ _) (fun _ _ _ => LitMap.Sets.trans) ?_ ?_
        · intro K hK Y hY l u w w' hR h
          simp only [List.mem_cons, List.not_mem_nil, or_false] at hK
          rcases hK with rfl | rfl | rfl | rfl | rfl | rfl | rfl | rfl | rfl | rfl | rfl | rfl | rfl | rfl | rfl | rfl | rfl | rfl | rfl | rfl | rfl | rfl | rfl | rfl <;> simp only [reduceCtorEq, Option.some.injEq, Sum.inr.injEq] at hY
          all_goals (subst hY; exact LitMap.At.lasts h hR)
        simp only [List.take_succ_cons, List.take_zero, List.drop_succ_cons, List.drop_zero]
        refine GrowN.g_det rfl ?_
        apply Exists.intro
        refine ⟨fun w hw hF => ?_, ?_⟩
        · clear hF
          go_simp
          exact ⟨rfl, LitMap.Sets.refl _ _ _ _⟩
        simp only [Act.put, List.setIfInBounds_toArray, List.set_cons_zero, List.set_cons_succ]
        refine GrowN.g_con rfl (fun w2 hw hF => ?_) ?_
        · clear hF
          have cf := (HCN.out w2 hw).1
          go_simp
          all_goals exact LitMap.Sets.refl _ _ _ _
        simp only [Act.put, List.setIfInBounds_toArray, List.set_cons_zero, List.set_cons_succ]
        refine GrowN.g_det rfl ?_
        apply Exists.intro
        refine ⟨fun w hw hF => ?_, ?_⟩
        · clear hF
          go_simp
          exact ⟨rfl, LitMap.Sets.refl _ _ _ _⟩
        simp only [Act.put, List.setIfInBounds_toArray, List.set_cons_zero, List.set_cons_succ]
        refine GrowN.g_con rfl (fun w2 hw hF => ?_) ?_
        · clear hF
          have cf := (HCN.out w2 hw).2.1
          go_simp
          all_goals exact LitMap.Sets.refl _ _ _ _
        simp only [Act.put, List.setIfInBounds_toArray, List.set_cons_zero, List.set_cons_succ]
        refine GrowN.g_det rfl ?_
        apply Exists.intro
        refine ⟨fun w hw hF => ?_, ?_⟩
        · clear hF
          go_simp
          exact ⟨rfl, LitMap.Sets.refl _ _ _ _⟩
        simp only [Act.put, List.setIfInBounds_toArray, List.set_cons_zero, List.set_cons_succ]
        refine GrowN.g_con rfl (fun w2 hw hF => ?_) ?_
        · clear hF
          have cf := (HCN.out w2 hw).2.2.1
          go_simp
          all_goals exact LitMap.Sets.refl _ _ _ _
        simp only [Act.put, List.setIfInBounds_toArray, List.set_cons_zero, List.set_cons_succ]
        refine GrowN.g_det rfl ?_
        apply Exists.intro
        refine ⟨fun w hw hF => ?_, ?_⟩
        · clear hF
          go_simp
          exact ⟨rfl, LitMap.Sets.refl _ _ _ _⟩
        simp only [Act.put, List.setIfInBounds_toArray, List.set_cons_zero, List.set_cons_succ]
        refine GrowN.g_con rfl (fun w2 hw hF => ?_) ?_
        · clear hF
          have cf := (HCN.out w2 hw).2.2.2.1
          go_simp
          all_goals exact LitMap.Sets.refl _ _ _ _
        simp only [Act.put, List.setIfInBounds_toArray, List.set_cons_zero, List.set_cons_succ]
        refine GrowN.g_det rfl ?_
        apply Exists.intro
        refine ⟨fun w hw hF => ?_, ?_⟩
        · clear hF
          go_simp
          exact ⟨rfl, LitMap.Sets.refl _ _ _ _⟩
        simp only [Act.put, List.setIfInBounds_toArray, List.set_cons_zero, List.set_cons_succ]
        refine GrowN.g_con rfl (fun w2 hw hF => ?_) ?_
        · clear hF
          have cf := (HCN.out w2 hw).2.2.2.2.1
          go_simp
          all_goals exact LitMap.Sets.refl _ _ _ _
        simp only [Act.put, List.setIfInBounds_toArray, List.set_cons_zero, List.set_cons_succ]
        refine GrowN.g_det rfl ?_
        apply Exists.intro
        refine ⟨fun w hw hF => ?_, ?_⟩
        · clear hF
          go_simp
          exact ⟨rfl, LitMap.Sets.refl _ _ _ _⟩
        simp only [Act.put, List.setIfInBounds_toArray, List.set_cons_zero, List.set_cons_succ]
        refine GrowN.g_con rfl (fun w2 hw hF => ?_) ?_
        · clear hF
          have cf := (HCN.out w2 hw).2.2.2.2.2
          go_simp
          all_goals exact LitMap.Sets.refl _ _ _ _
        simp only [Act.put, List.setIfInBounds_toArray, List.set_cons_zero, List.set_cons_succ]
        refine GrowN.g_det rfl ?_
        apply Exists.intro
        refine ⟨fun w hw hF => ?_, ?_⟩
        · clear hF
          go_simp
          exact ⟨rfl, LitMap.Sets.refl _ _ _ _⟩
        simp only [Act.put, List.setIfInBounds_toArray, List.set_cons_zero, List.set_cons_succ]
        refine GrowN.g_new rfl (fun w2 hw hF => ?_) (fun _ => ?_)
        · clear hF
          obtain ⟨cold, hcold, hfr, hset, hat⟩ := LitMap.Sets.store hw hrow 5 (.string (S v.topic)) rfl
          go_simp
          all_goals exact ⟨hat, hset⟩
        simp only [Act.put, List.setIfInBounds_toArray, List.set_cons_zero, List.set_cons_succ]
        refine GrowN.g_det rfl ?_
        apply Exists.intro
        refine ⟨fun w hw hF => ?_, ?_⟩
        · clear hF
          go_simp
          exact ⟨rfl, LitMap.Sets.refl _ _ _ _⟩
        simp only [Act.put, List.setIfInBounds_toArray, List.set_cons_zero, List.set_cons_succ]
        refine GrowN.g_new rfl (fun w2 hw hF => ?_) (fun _ => ?_)
        · clear hF
          obtain ⟨cold, hcold, hfr, hset, hat⟩ := LitMap.Sets.store hw hrow 1 (.int .i64 v.queue) rfl
          go_simp
          all_goals exact ⟨hat, hset⟩
        simp only [Act.put, List.setIfInBounds_toArray, List.set_cons_zero, List.set_cons_succ]
        refine GrowN.g_det rfl ?_
        apply Exists.intro
        refine ⟨fun w hw hF => ?_, ?_⟩
        · clear hF
          go_simp
          exact ⟨rfl, LitMap.Sets.refl _ _ _ _⟩
        simp only [Act.put, List.setIfInBounds_toArray, List.set_cons_zero, List.set_cons_succ]
        refine GrowN.g_new rfl (fun w2 hw hF => ?_) (fun _ => ?_)
        · clear hF
          obtain ⟨cold, hcold, hfr, hset, hat⟩ := LitMap.Sets.store hw hrow 7 (.string (S v.tag)) rfl
          go_simp
          all_goals exact ⟨hat, hset⟩
        simp only [Act.put, List.setIfInBounds_toArray, List.set_cons_zero, List.set_cons_succ]
        refine GrowN.g_det rfl ?_
        apply Exists.intro
        refine ⟨fun w hw hF => ?_, ?_⟩
        · clear hF
          go_simp
          exact ⟨rfl, LitMap.Sets.refl _ _ _ _⟩
        simp only [Act.put, List.setIfInBounds_toArray, List.set_cons_zero, List.set_cons_succ]
        refine GrowN.g_new rfl (fun w2 hw hF => ?_) (fun _ => ?_)
        · clear hF
          obtain ⟨cold, hcold, hfr, hset, hat⟩ := LitMap.Sets.store hw hrow 10 (.slice s.ka v.keys.length s.kc) rfl
          go_simp
          all_goals exact ⟨hat, hset⟩
        simp only [Act.put, List.setIfInBounds_toArray, List.set_cons_zero, List.set_cons_succ]
        refine GrowN.g_det rfl ?_
        apply Exists.intro
        refine ⟨fun w hw hF => ?_, ?_⟩
        · clear hF
          go_simp
          exact ⟨rfl, LitMap.Sets.refl _ _ _ _⟩
        simp only [Act.put, List.setIfInBounds_toArray, List.set_cons_zero, List.set_cons_succ]
        refine GrowN.g_new rfl (fun w2 hw hF => ?_) (fun _ => ?_)
        · clear hF
          obtain ⟨cold, hcold, hfr, hset, hat⟩ := LitMap.Sets.store hw hrow 9 (.string (S v.body)) rfl
          go_simp
          all_goals exact ⟨hat, hset⟩
        simp only [Act.put, List.setIfInBounds_toArray, List.set_cons_zero, List.set_cons_succ]
        refine GrowN.g_det rfl ?_
        apply Exists.intro
        refine ⟨fun w hw hF => ?_, ?_⟩
        · clear hF
          go_simp
          exact ⟨rfl, LitMap.Sets.refl _ _ _ _⟩
        simp only [Act.put, List.setIfInBounds_toArray, List.set_cons_zero, List.set_cons_succ]
        refine GrowN.g_new rfl (fun w2 hw hF => ?_) (fun _ => ?_)
        · clear hF
          obtain ⟨cold, hcold, hfr, hset, hat⟩ := LitMap.Sets.store hw hrow 13 (.bool sy) rfl
          go_simp
          all_goals exact ⟨hat, hset⟩
        simp only [Act.put, List.setIfInBounds_toArray, List.set_cons_zero, List.set_cons_succ]
        refine GrowN.g_nil fun wN hw3 hF => ?_
        refine wpList_nil ?_
        have HTwN : Hid (wN.heap[B10]? = some (.cells #[.int .i64 2, .int .i64 v.queue, .int .i64 0, .int .i64 0, .int .i64 0, .string (S v.topic), .string (S []), .string (S v.tag), .string (S []), .string (S v.body), .slice s.ka v.keys.length s.kc, .slice none 0 0, .slice none 0 0, .bool sy] 25 (0, 0))) := LitMap.Sets.done hw3 HT10.out rfl (fun i hi => match i, hi with
          | 0, _ => .inl rfl
          | 1, _ => .inr (hF (15, LitMap.At B10 25 #[.int .i64 2, .int .i64 v.queue, .int .i64 0, .int .i64 0, .int .i64 0, .string (S v.topic), .string (S []), .string (S v.tag), .string (S []), .string (S v.body), .slice s.ka v.keys.length s.kc, .slice none 0 0, .slice none 0 0, .bool sy] 1) (by simp only [List.mem_cons, true_or, or_true]))
          | 2, _ => .inl rfl
          | 3, _ => .inl rfl
          | 4, _ => .inl rfl
          | 5, _ => .inr (hF (13, LitMap.At B10 25 #[.int .i64 2, .int .i64 v.queue, .int .i64 0, .int .i64 0, .int .i64 0, .string (S v.topic), .string (S []), .string (S v.tag), .string (S []), .string (S v.body), .slice s.ka v.keys.length s.kc, .slice none 0 0, .slice none 0 0, .bool sy] 5) (by simp only [List.mem_cons, true_or, or_true]))
          | 6, _ => .inl rfl
          | 7, _ => .inr (hF (17, LitMap.At B10 25 #[.int .i64 2, .int .i64 v.queue, .int .i64 0, .int .i64 0, .int .i64 0, .string (S v.topic), .string (S []), .string (S v.tag), .string (S []), .string (S v.body), .slice s.ka v.keys.length s.kc, .slice none 0 0, .slice none 0 0, .bool sy] 7) (by simp only [List.mem_cons, true_or, or_true]))
          | 8, _ => .inl rfl
          | 9, _ => .inr (hF (21, LitMap.At B10 25 #[.int .i64 2, .int .i64 v.queue, .int .i64 0, .int .i64 0, .int .i64 0, .string (S v.topic), .string (S []), .string (S v.tag), .string (S []), .string (S v.body), .slice s.ka v.keys.length s.kc, .slice none 0 0, .slice none 0 0, .bool sy] 9) (by simp only [List.mem_cons, true_or, or_true]))
          | 10, _ => .inr (hF (19, LitMap.At B10 25 #[.int .i64 2, .int .i64 v.queue, .int .i64 0, .int .i64 0, .int .i64 0, .string (S v.topic), .string (S []), .string (S v.tag), .string (S []), .string (S v.body), .slice s.ka v.keys.length s.kc, .slice none 0 0, .slice none 0 0, .bool sy] 10) (by simp only [List.mem_cons, true_or, or_true]))
          | 11, _ => .inl rfl
          | 12, _ => .inl rfl
          | 13, _ => .inr (hF (23, LitMap.At B10 25 #[.int .i64 2, .int .i64 v.queue, .int .i64 0, .int .i64 0, .int .i64 0, .string (S v.topic), .string (S []), .string (S v.tag), .string (S []), .string (S v.body), .slice s.ka v.keys.length s.kc, .slice none 0 0, .slice none 0 0, .bool sy] 13) (by simp only [List.mem_cons, true_or, or_true]))
          | i + 14, h => absurd h (by simp))
        have hb : Below B10 wq2 wN := (HBL.out.drew).trans hw3.below
        clear hw3 hF HCN hrow
        replace HX := Lib.hid (HXq.out.below (HBE.out ▸ hb))
        replace HIN := Lib.hid (HINq.out.below (HBE.out ▸ hb))
        replace HB := Lib.hid (HBq.out.trans (hb.mono (Nat.le_of_lt hB10)))
        have HBN := Lib.hid hb
        clear hb HT10 HBL wA
        have hzs := sendL_size HSM.out HI.out HG.out HK.out
        rw [← HSY.out] at HTwN
        have HTW := HTwN
        clear HTwN HSY
        generalize wN = wA at *
        clear HXq HINq HBq HBN
        have c0 : wA.cell? ⟨W.heap.size, 0, none⟩ = some (.int .i64 v.kind) := HX.out 0 _ rfl
        rw [hk] at c0
        go_upto_region 56 with fail
        clear c0
        have c0 : wA.cell? ⟨W.heap.size, 0, none⟩ = some (.int .i64 v.kind) := HX.out 0 _ rfl
        have c1 : wA.cell? ⟨W.heap.size, 1, none⟩ = some (.int .i64 v.queue) := HX.out 1 _ rfl
        have c2 : wA.cell? ⟨W.heap.size, 2, none⟩ = some (.int .i64 v.n) := HX.out 2 _ rfl
        have c3 : wA.cell? ⟨W.heap.size, 3, none⟩ = some (.int .i64 v.aat) := HX.out 3 _ rfl
        have c4 : wA.cell? ⟨W.heap.size, 4, none⟩ = some (.int .i64 v.lack) := HX.out 4 _ rfl
        have c5 : wA.cell? ⟨W.heap.size, 5, none⟩ = some (.string (S v.topic)) := HX.out 5 _ rfl
        have c6 : wA.cell? ⟨W.heap.size, 6, none⟩ = some (.string (S v.group)) := HX.out 6 _ rfl
        have c7 : wA.cell? ⟨W.heap.size, 7, none⟩ = some (.string (S v.tag)) := HX.out 7 _ rfl
        have c8 : wA.cell? ⟨W.heap.size, 8, none⟩ = some (.string (S v.key)) := HX.out 8 _ rfl
        have c9 : wA.cell? ⟨W.heap.size, 9, none⟩ = some (.string (S v.body)) := HX.out 9 _ rfl
        have c10 : wA.cell? ⟨W.heap.size, 10, none⟩ = some (.slice s.ka v.keys.length s.kc) := HX.out 10 _ rfl
        have c11 : wA.cell? ⟨W.heap.size, 11, none⟩ = some (.slice s.ta v.tags.length s.tc) := HX.out 11 _ rfl
        have c12 : wA.cell? ⟨W.heap.size, 12, none⟩ = some (.slice s.pa v.keep.length s.pc) := HX.out 12 _ rfl
        have c13 : wA.cell? ⟨W.heap.size, 13, none⟩ = some (.bool v.sync) := HX.out 13 _ rfl
        rw [hk] at c0
        have hz9 := HTW.out
        have d0 : wA.cell? ⟨B10, 0, none⟩ = some (.int .i64 2) := by unfold World.cell?; rw [show wA.heap[(⟨B10, 0, none⟩ : Addr).block]? = _ from hz9]; rfl
        have d1 : wA.cell? ⟨B10, 1, none⟩ = some (.int .i64 v.queue) := by unfold World.cell?; rw [show wA.heap[(⟨B10, 1, none⟩ : Addr).block]? = _ from hz9]; rfl
        have d2 : wA.cell? ⟨B10, 2, none⟩ = some (.int .i64 0) := by unfold World.cell?; rw [show wA.heap[(⟨B10, 2, none⟩ : Addr).block]? = _ from hz9]; rfl
        have d3 : wA.cell? ⟨B10, 3, none⟩ = some (.int .i64 0) := by unfold World.cell?; rw [show wA.heap[(⟨B10, 3, none⟩ : Addr).block]? = _ from hz9]; rfl
        have d4 : wA.cell? ⟨B10, 4, none⟩ = some (.int .i64 0) := by unfold World.cell?; rw [show wA.heap[(⟨B10, 4, none⟩ : Addr).block]? = _ from hz9]; rfl
        have d5 : wA.cell? ⟨B10, 5, none⟩ = some (.string (S v.topic)) := by unfold World.cell?; rw [show wA.heap[(⟨B10, 5, none⟩ : Addr).block]? = _ from hz9]; rfl
        have d6 : wA.cell? ⟨B10, 6, none⟩ = some (.string (S [])) := by unfold World.cell?; rw [show wA.heap[(⟨B10, 6, none⟩ : Addr).block]? = _ from hz9]; rfl
        have d7 : wA.cell? ⟨B10, 7, none⟩ = some (.string (S v.tag)) := by unfold World.cell?; rw [show wA.heap[(⟨B10, 7, none⟩ : Addr).block]? = _ from hz9]; rfl
        have d8 : wA.cell? ⟨B10, 8, none⟩ = some (.string (S [])) := by unfold World.cell?; rw [show wA.heap[(⟨B10, 8, none⟩ : Addr).block]? = _ from hz9]; rfl
        have d9 : wA.cell? ⟨B10, 9, none⟩ = some (.string (S v.body)) := by unfold World.cell?; rw [show wA.heap[(⟨B10, 9, none⟩ : Addr).block]? = _ from hz9]; rfl
        have d10 : wA.cell? ⟨B10, 10, none⟩ = some (.slice s.ka v.keys.length s.kc) := by unfold World.cell?; rw [show wA.heap[(⟨B10, 10, none⟩ : Addr).block]? = _ from hz9]; rfl
        have d11 : wA.cell? ⟨B10, 11, none⟩ = some (.slice none 0 0) := by unfold World.cell?; rw [show wA.heap[(⟨B10, 11, none⟩ : Addr).block]? = _ from hz9]; rfl
        have d12 : wA.cell? ⟨B10, 12, none⟩ = some (.slice none 0 0) := by unfold World.cell?; rw [show wA.heap[(⟨B10, 12, none⟩ : Addr).block]? = _ from hz9]; rfl
        have d13 : wA.cell? ⟨B10, 13, none⟩ = some (.bool v.sync) := by unfold World.cell?; rw [show wA.heap[(⟨B10, 13, none⟩ : Addr).block]? = _ from hz9]; rfl
        clear hz9
        have hwo : EvOk (wantE v 2) := ⟨HSM.out.topic, Nat.zero_le _, HSM.out.tag, Nat.zero_le _, HSM.out.body, HSM.out.keys, Nat.zero_le _, Nat.zero_le _, HSM.out.keysz, fun t ht => (by cases ht)⟩
        have hwi : EvIn wA (wantE v 2) ⟨s.ka, s.kc, none, 0, none, 0⟩ := ⟨HIN.out.keys, fun i hi => absurd hi (Nat.not_lt_zero _), fun i hi => absurd hi (Nat.not_lt_zero _)⟩
        have HSC := Lib.hid (ev_same v (wantE v 2) s ⟨s.ka, s.kc, none, 0, none, 0⟩ HSM.out hwo wA HIN.out hwi)
        rw [show v.cells s = #[.int .i64 2, .int .i64 v.queue, .int .i64 v.n, .int .i64 v.aat, .int .i64 v.lack, .string (S v.topic), .string (S v.group), .string (S v.tag), .string (S v.key), .string (S v.body), .slice s.ka v.keys.length s.kc, .slice s.ta v.tags.length s.tc, .slice s.pa v.keep.length s.pc, .bool v.sync] from by unfold Ev.cells; rw [hk], show Ev.cells (wantE v 2) ⟨s.ka, s.kc, none, 0, none, 0⟩ = #[.int .i64 2, .int .i64 v.queue, .int .i64 0, .int .i64 0, .int .i64 0, .string (S v.topic), .string (S []), .string (S v.tag), .string (S []), .string (S v.body), .slice s.ka v.keys.length s.kc, .slice none 0 0, .slice none 0 0, .bool v.sync] from rfl] at HSC
        rw [hsy0] at HSC
        clear hwo hwi
        go_wp2_with fail
        refine HSC.out.mono ?_
        rintro e wB ⟨rfl, hb⟩
        clear c0 c1 c2 c3 c4 c5 c6 c7 c8 c9 c10 c11 c12 c13 d0 d1 d2 d3 d4 d5 d6 d7 d8 d9 d10 d11 d12 d13 HSC HTW
        replace HX := Lib.hid (HX.out.below hb)
        replace HIN := Lib.hid (HIN.out.below hb)
        replace HB := Lib.hid (HB.out.trans (hb.mono HB.out.size))
        clear hb
        have HC : Hid (condB v 2 = (sameE v (wantE v 2) && topicL v.topic && true)) := by show _ = _; unfold condB; rfl
        generalize sameE v (wantE v 2) = sb at *
        cases sb with
        | false =>
          have HT : Hid (RR = []) := by show _ = _; rw [← HRR.out, HC.out]; rfl
          have c0 : wB.cell? ⟨W.heap.size, 0, none⟩ = some (.int .i64 v.kind) := HX.out 0 _ rfl
          have c5 : wB.cell? ⟨W.heap.size, 5, none⟩ = some (.string (S v.topic)) := HX.out 5 _ rfl
          have c6 : wB.cell? ⟨W.heap.size, 6, none⟩ = some (.string (S v.group)) := HX.out 6 _ rfl
          rw [hk] at c0
          go_wp2_with fail
          go_ret
          rw [HT.out]
          exact ⟨rfl, HB.out⟩
        | true =>
          have c0 : wB.cell? ⟨W.heap.size, 0, none⟩ = some (.int .i64 v.kind) := HX.out 0 _ rfl
          have c5 : wB.cell? ⟨W.heap.size, 5, none⟩ = some (.string (S v.topic)) := HX.out 5 _ rfl
          have c6 : wB.cell? ⟨W.heap.size, 6, none⟩ = some (.string (S v.group)) := HX.out 6 _ rfl
          rw [hk] at c0
          have HTP := Lib.hid (fun w => NameW.rtopic_any v.topic (by have := HSM.out.topic; omega) w)
          generalize topicL v.topic = tb at *
          go_wp2_with fail
          refine (HTP.out _).mono ?_
          rintro e wC ⟨rfl, hd⟩
          have hb := hd.below wB.heap.size
          clear hd c0 c5 c6 HTP
          replace HX := Lib.hid (HX.out.below hb)
          replace HIN := Lib.hid (HIN.out.below hb)
          replace HB := Lib.hid (HB.out.trans (hb.mono HB.out.size))
          clear hb
          have c0 : wC.cell? ⟨W.heap.size, 0, none⟩ = some (.int .i64 v.kind) := HX.out 0 _ rfl
          have c5 : wC.cell? ⟨W.heap.size, 5, none⟩ = some (.string (S v.topic)) := HX.out 5 _ rfl
          have c6 : wC.cell? ⟨W.heap.size, 6, none⟩ = some (.string (S v.group)) := HX.out 6 _ rfl
          rw [hk] at c0
          cases tb with
          | false =>
            have HT : Hid (RR = []) := by show _ = _; rw [← HRR.out, HC.out]; rfl
            go_wp2_with fail
            go_ret
            rw [HT.out]
            exact ⟨rfl, HB.out⟩
          | true =>
            have HT : Hid (S RR = S (lineS v 2)) := by show _ = _; rw [← HRR.out, HC.out]; rfl
            go_wp2_with fail
            go_ret
            rw [HT.out]
            exact ⟨rfl, HB.out⟩

        skip
end Go.Proofs.YtadhkeboaapfcaaGreatDoor.EvW
namespace Go.Proofs.YtadhkeboaapfcaaGreatDoor.EvW
open Go.RowKit OctMath NameMath HexMath
set_option linter.unusedVariables false
set_option linter.unusedSimpArgs false
set_option maxRecDepth 100000


set_option maxHeartbeats 12800000 in
theorem line_3 (v : Ev) (s : EvS) (hsm : EvOk v) (hi : EvI v) (W : World) (hin : EvIn W v s) (hcap : v.tags.length ≤ s.tc) (hk : v.kind = 3) (hg : guardB v = true) (hbk : v.keys.any badK = false) :
    Calls Tryz.prog 10 #[.agg (v.cells s)] W fun e w' => e = .returned (.string (S (if condB v 3 then lineS v 3 else []))) ∧ Below W.heap.size W w' := by
  generalize hRR : (if condB v 3 then lineS v 3 else []) = RR
  have HRR := Lib.hid hRR
  clear hRR
  have HP := Lib.hid (guard_parts hg)
  have HK := Lib.hid hbk
  have HG := Lib.hid hg
  have HSM := Lib.hid hsm
  have HI := Lib.hid hi
  have HB : Hid (Below W.heap.size W (W.alloc (.cells (v.cells s) 25))) := (Below.refl _ W).alloc (Nat.le_refl _) _
  have HIN := Lib.hid (hin.below HB.out)
  have HX : Hid (Boxed (W.alloc (.cells (v.cells s) 25)) W.heap.size (v.cells s)) := Boxed.new W _ _
  have hcv : (v.cells s).size = 14 := rfl
  have hsz := S_size
  clear hsm hi hin hg hbk
  go_enter Tryz.func10, Tryz.ntmps10
  go_upto_region 1 with fail
  generalize (W.alloc (.cells (v.cells s) 25)) = w1 at *
  clear hcv
  have c0 : w1.cell? ⟨W.heap.size, 0, none⟩ = some (.int .i64 v.kind) := HX.out 0 _ rfl
  have c1 : w1.cell? ⟨W.heap.size, 1, none⟩ = some (.int .i64 v.queue) := HX.out 1 _ rfl
  have c2 : w1.cell? ⟨W.heap.size, 2, none⟩ = some (.int .i64 v.n) := HX.out 2 _ rfl
  have c3 : w1.cell? ⟨W.heap.size, 3, none⟩ = some (.int .i64 v.aat) := HX.out 3 _ rfl
  have c4 : w1.cell? ⟨W.heap.size, 4, none⟩ = some (.int .i64 v.lack) := HX.out 4 _ rfl
  rw [hk] at c0
  have HNB := Lib.hid (small_any (some ⟨w1.heap.size, 0, none⟩) 4 [v.queue, v.n, v.aat, v.lack] (by simp))
  rw [HP.out.1] at HNB
  go_wp2_with fail
  refine (HNB.out _ ?nrow).mono ?_
  case nrow => exact fun i hi => ⟨_, 0, rfl, by rw [World.cell?_alloc_new]; match i, hi with | 0, _ => rfl | 1, _ => rfl | 2, _ => rfl | 3, _ => rfl⟩
  rintro e w2 ⟨rfl, hd⟩
  have hb : Below w1.heap.size w1 w2 := ((Below.refl _ w1).alloc (Nat.le_refl _) _).trans (hd.below _)
  clear hd c0 c1 c2 c3 c4 HNB
  replace HX := Lib.hid (HX.out.below hb)
  replace HIN := Lib.hid (HIN.out.below hb)
  replace HB := Lib.hid (HB.out.trans (hb.mono HB.out.size))
  clear hb
  have c7 : w2.cell? ⟨W.heap.size, 7, none⟩ = some (.string (S v.tag)) := HX.out 7 _ rfl
  have HTG := Lib.hid (fun w => NameW.rtag_any v.tag (by have := HSM.out.tag; omega) w)
  rw [HP.out.2.1] at HTG
  go_wp2_with fail
  refine (HTG.out _).mono ?_
  rintro e w3 ⟨rfl, hd⟩
  have hb := hd.below w2.heap.size
  clear hd c7 HTG
  replace HX := Lib.hid (HX.out.below hb)
  replace HIN := Lib.hid (HIN.out.below hb)
  replace HB := Lib.hid (HB.out.trans (hb.mono HB.out.size))
  clear hb
  have c8 : w3.cell? ⟨W.heap.size, 8, none⟩ = some (.string (S v.key)) := HX.out 8 _ rfl
  have c9 : w3.cell? ⟨W.heap.size, 9, none⟩ = some (.string (S v.body)) := HX.out 9 _ rfl
  have c10 : w3.cell? ⟨W.heap.size, 10, none⟩ = some (.slice s.ka v.keys.length s.kc) := HX.out 10 _ rfl
  have c11 : w3.cell? ⟨W.heap.size, 11, none⟩ = some (.slice s.ta v.tags.length s.tc) := HX.out 11 _ rfl
  have c12 : w3.cell? ⟨W.heap.size, 12, none⟩ = some (.slice s.pa v.keep.length s.pc) := HX.out 12 _ rfl
  have HFL := Lib.hid (fun w h => lfilter_any s.ta s.tc v.tags (by have := HSM.out.tags; omega) hcap HSM.out.tagsz w h)
  rw [HP.out.2.2.1] at HFL
  go_wp2_with fail
  refine (HFL.out _ HIN.out.tags).mono ?_
  rintro e w4 ⟨rfl, hd⟩
  have hb := hd.below w3.heap.size
  clear hd c8 c9 c10 c11 c12 HFL
  replace HX := Lib.hid (HX.out.below hb)
  replace HIN := Lib.hid (HIN.out.below hb)
  replace HB := Lib.hid (HB.out.trans (hb.mono HB.out.size))
  clear hb
  have c8 : w4.cell? ⟨W.heap.size, 8, none⟩ = some (.string (S v.key)) := HX.out 8 _ rfl
  have c9 : w4.cell? ⟨W.heap.size, 9, none⟩ = some (.string (S v.body)) := HX.out 9 _ rfl
  have c10 : w4.cell? ⟨W.heap.size, 10, none⟩ = some (.slice s.ka v.keys.length s.kc) := HX.out 10 _ rfl
  have c12 : w4.cell? ⟨W.heap.size, 12, none⟩ = some (.slice s.pa v.keep.length s.pc) := HX.out 12 _ rfl
  have hp1 := HP.out.2.2.2.1
  have hp2 := HP.out.2.2.2.2.1
  have hp3 := HP.out.2.2.2.2.2.1
  have hp4 := HP.out.2.2.2.2.2.2
  have g1 : decide (300 < (v.body.length : Int)) = false := decide_eq_false (by omega)
  have g2 : decide (300 < (v.key.length : Int)) = false := decide_eq_false (by omega)
  have g3 : decide (10 < (v.keys.length : Int)) = false := decide_eq_false (by omega)
  have g4 : decide (100 < (v.keep.length : Int)) = false := decide_eq_false (by omega)
  go_wp2_with fail
  clear g1 g2 g3 g4
  have HKL : Hid (Row1 w4 s.ka (v.keys.map fun x => .string (S x))) := row_strs HIN.out.keys
  have htl := NameW.S_toList
  go_loopw [74] (fun i wr => ∃ k : Nat, k ≤ v.keys.length ∧ i = .int .i64 (k : Int) ∧ wr = w4) (fun i _ => v.keys.length + 1 - (intOf i).toNat)
  case atStart => exact ⟨0, by omega, rfl, rfl⟩
  case round =>
    obtain ⟨k, hkk, rfl, rfl⟩ := hrel
    by_cases hlt : k < v.keys.length
    · obtain ⟨b, off, hbo, hcell⟩ := HKL.out k (by rw [List.length_map]; exact hlt)
      rw [List.getElem_map] at hcell
      have hgood := key_good HK.out (List.getElem_mem hlt)
      generalize v.keys[k] = x at *
      have hxe : (x == []) = false := by simp [hgood.1]
      have hx3 := hgood.2
      clear hgood c8 c9 c10 c12
      rw [hbo] at *
      go_wp2_with fail
      go_roundw
      case rel => exact ⟨k + 1, by omega, by go_num, trivial⟩
      case measure => simp [intOf]; omega
    · obtain rfl : k = v.keys.length := by omega
      clear HKL c8 c9 c10 c12 hlt hkk
      have c0 : wr.cell? ⟨W.heap.size, 0, none⟩ = some (.int .i64 v.kind) := HX.out 0 _ rfl
      have c1 : wr.cell? ⟨W.heap.size, 1, none⟩ = some (.int .i64 v.queue) := HX.out 1 _ rfl
      have c2 : wr.cell? ⟨W.heap.size, 2, none⟩ = some (.int .i64 v.n) := HX.out 2 _ rfl
      have c3 : wr.cell? ⟨W.heap.size, 3, none⟩ = some (.int .i64 v.aat) := HX.out 3 _ rfl
      have c4 : wr.cell? ⟨W.heap.size, 4, none⟩ = some (.int .i64 v.lack) := HX.out 4 _ rfl
      have c5 : wr.cell? ⟨W.heap.size, 5, none⟩ = some (.string (S v.topic)) := HX.out 5 _ rfl
      have c6 : wr.cell? ⟨W.heap.size, 6, none⟩ = some (.string (S v.group)) := HX.out 6 _ rfl
      have c7 : wr.cell? ⟨W.heap.size, 7, none⟩ = some (.string (S v.tag)) := HX.out 7 _ rfl
      have c8 : wr.cell? ⟨W.heap.size, 8, none⟩ = some (.string (S v.key)) := HX.out 8 _ rfl
      have c9 : wr.cell? ⟨W.heap.size, 9, none⟩ = some (.string (S v.body)) := HX.out 9 _ rfl
      have c10 : wr.cell? ⟨W.heap.size, 10, none⟩ = some (.slice s.ka v.keys.length s.kc) := HX.out 10 _ rfl
      have c11 : wr.cell? ⟨W.heap.size, 11, none⟩ = some (.slice s.ta v.tags.length s.tc) := HX.out 11 _ rfl
      have c12 : wr.cell? ⟨W.heap.size, 12, none⟩ = some (.slice s.pa v.keep.length s.pc) := HX.out 12 _ rfl
      have c13 : wr.cell? ⟨W.heap.size, 13, none⟩ = some (.bool v.sync) := HX.out 13 _ rfl
      rw [hk] at c0
      have hdq : ∀ (x : Int), (-9223372036854775808 ≤ x ∧ x ≤ 9223372036854775807) → ∀ (w : World) (n : Nat), Calls Tryz.prog 17 #[.int .i64 x] (w.drewN n) fun e w'' => e = .returned (.string (S (Lib.itoa x))) ∧ ∃ m, w'' = w.drewN m := fun x hx w n => (digits_any x hx.1 hx.2 _).mono fun _ _ h => ⟨h.1, n, h.2⟩
      have HDQ1 := Lib.hid (hdq v.queue HI.out.queue)
      have HDQ2 := Lib.hid (hdq v.n HI.out.n)
      have HDQ3 := Lib.hid (hdq v.aat HI.out.aat)
      have HDQ4 := Lib.hid (hdq v.lack HI.out.lack)
      clear hdq
      have hz := part_sizes HSM.out HI.out HG.out HK.out
      have hz1 := hz.1
      have hz2 := hz.2.1
      have hz3 := hz.2.2.1
      have hz4 := hz.2.2.2.1
      have hz5 := hz.2.2.2.2.1
      have hz6 := hz.2.2.2.2.2.1
      have hz7 := hz.2.2.2.2.2.2.1
      have hz8 := hz.2.2.2.2.2.2.2.1
      have hz9 := hz.2.2.2.2.2.2.2.2
      clear hz
      have HKS : Hid (∀ (n : Nat), Calls Tryz.prog 29 #[.slice s.ka v.keys.length s.kc] (wr.drewN n) fun e w'' => e = .returned (.string (S (keysL v.keys))) ∧ ∃ m, w'' = wr.drewN m) := fun n => quiet_drawn (keys30_any s.ka s.kc v.keys (by have := HP.out.2.2.2.2.2.1; omega) (fun t ht => by have := (key_good HK.out ht).2; omega) _ (HIN.out.keys.below (Drawn.below ⟨n, rfl⟩ _)))
      have HTS : Hid (∀ (w : World) (n : Nat), Calls Tryz.prog 28 #[.string (S v.tag)] (w.drewN n) fun e w'' => e = .returned (.string (S (tagW v))) ∧ ∃ m, w'' = w.drewN m) := fun w n => (tag30_any v.tag _).mono fun _ _ h => ⟨h.1, n, h.2⟩
      have HHB : Hid (∀ (w : World) (n : Nat), Calls Tryz.prog 15 #[.string (S v.body)] (w.drewN n) fun e w'' => e = .returned (.string (S (hexL v.body))) ∧ ∃ m, w'' = w.drewN m) := fun w n => quiet_drawn (LinW.rhex_any v.body (by have := HP.out.2.2.2.1; omega) _)
      clear hsz htl hp1 hp2 hp3 hp4
      generalize hsy0 : v.sync = sy at c13
      cases sy
      all_goals
        go_wp2_with fail
        go_quiet (first | (go_at_call_of 17 (Value.int .i64 v.queue); exact HDQ1.out _ _) | (go_at_call_of 17 (Value.int .i64 v.n); exact HDQ2.out _ _) | (go_at_call_of 17 (Value.int .i64 v.aat); exact HDQ3.out _ _) | (go_at_call_of 17 (Value.int .i64 v.lack); exact HDQ4.out _ _) | (go_at_call 28; exact HTS.out _ _) | (go_at_call 29; exact HKS.out _) | (go_at_call 15; exact HHB.out _ _))
        obtain ⟨wq, hwq⟩ : ∃ wz, wr.drewN nq = wz := ⟨_, rfl⟩
        rw [hwq]
        have hd : Drawn wr wq := ⟨nq, hwq.symm⟩
        have hb := hd.below wr.heap.size
        clear hwq hd c0 c1 c2 c3 c4 c5 c6 c7 c8 c9 c10 c11 c12 c13
        replace HX := Lib.hid (HX.out.below hb)
        replace HIN := Lib.hid (HIN.out.below hb)
        replace HB := Lib.hid (HB.out.trans (hb.mono HB.out.size))
        clear hb
        first
        | rw [send_f hsy0]
        | rw [send_t hsy0]
        have c0 : wq.cell? ⟨W.heap.size, 0, none⟩ = some (.int .i64 v.kind) := HX.out 0 _ rfl
        have c1 : wq.cell? ⟨W.heap.size, 1, none⟩ = some (.int .i64 v.queue) := HX.out 1 _ rfl
        have c3 : wq.cell? ⟨W.heap.size, 3, none⟩ = some (.int .i64 v.aat) := HX.out 3 _ rfl
        have c5 : wq.cell? ⟨W.heap.size, 5, none⟩ = some (.string (S v.topic)) := HX.out 5 _ rfl
        have c6 : wq.cell? ⟨W.heap.size, 6, none⟩ = some (.string (S v.group)) := HX.out 6 _ rfl
        rw [hk] at c0
        go_wp2_with fail
        go_quiet (first | (go_at_call_of 17 (Value.int .i64 v.queue); exact HDQ1.out _ _) | (go_at_call_of 17 (Value.int .i64 v.n); exact HDQ2.out _ _) | (go_at_call_of 17 (Value.int .i64 v.aat); exact HDQ3.out _ _) | (go_at_call_of 17 (Value.int .i64 v.lack); exact HDQ4.out _ _) | (go_at_call 28; exact HTS.out _ _) | (go_at_call 29; exact HKS.out _) | (go_at_call 15; exact HHB.out _ _))
        obtain ⟨wq2, hwq⟩ : ∃ wz, wq.drewN nq = wz := ⟨_, rfl⟩
        rw [hwq]
        have hd : Drawn wq wq2 := ⟨nq, hwq.symm⟩
        have hb := hd.below wq.heap.size
        clear hwq hd c0 c1 c3 c5 c6
        replace HX := Lib.hid (HX.out.below hb)
        replace HIN := Lib.hid (HIN.out.below hb)
        replace HB := Lib.hid (HB.out.trans (hb.mono HB.out.size))
        clear hb
        rw [group_eq v]
        have c0 : wq2.cell? ⟨W.heap.size, 0, none⟩ = some (.int .i64 v.kind) := HX.out 0 _ rfl
        rw [hk] at c0
        go_upto_region 17 with fail
        clear c0
        have HT10 : Hid ((wq2.alloc (.cells #[.int .i64 3, .int .i64 0, .int .i64 0, .int .i64 0, .int .i64 0, .string ⟨#[]⟩, .string ⟨#[]⟩, .string ⟨#[]⟩, .string ⟨#[]⟩, .string ⟨#[]⟩, .slice none 0 0, .slice none 0 0, .slice none 0 0, .bool false] 25)).heap[wq2.heap.size]? = some (.cells ((ev0 3).cells evs0) 25 (0, 0))) := World.alloc_heap_new _ _
        have hb : Below wq2.heap.size wq2 (wq2.alloc (.cells #[.int .i64 3, .int .i64 0, .int .i64 0, .int .i64 0, .int .i64 0, .string ⟨#[]⟩, .string ⟨#[]⟩, .string ⟨#[]⟩, .string ⟨#[]⟩, .string ⟨#[]⟩, .slice none 0 0, .slice none 0 0, .slice none 0 0, .bool false] 25)) := (Below.refl _ _).alloc (Nat.le_refl _) _
        have hB10 : W.heap.size < wq2.heap.size := by have := HX.out 0 _ rfl; exact cell_lt this
        obtain ⟨wA, hwA⟩ : ∃ wA, (wq2.alloc (.cells #[.int .i64 3, .int .i64 0, .int .i64 0, .int .i64 0, .int .i64 0, .string ⟨#[]⟩, .string ⟨#[]⟩, .string ⟨#[]⟩, .string ⟨#[]⟩, .string ⟨#[]⟩, .slice none 0 0, .slice none 0 0, .slice none 0 0, .bool false] 25)) = wA := ⟨_, rfl⟩
        rw [hwA] at HT10 hb ⊢
        generalize hB10e : wq2.heap.size = B10 at HT10 hb hB10 ⊢
        clear hwA
        have HBL := Lib.hid hb
        have HXq := HX
        have HINq := HIN
        have HBq := HB
        have HBE := Lib.hid hB10e
        replace HX := Lib.hid (HX.out.below (hB10e ▸ hb))
        replace HIN := Lib.hid (HIN.out.below (hB10e ▸ hb))
        replace HB := Lib.hid (HB.out.trans (hb.mono (by omega)))
        clear hb hB10e
        have c0 : wA.cell? ⟨W.heap.size, 0, none⟩ = some (.int .i64 v.kind) := HX.out 0 _ rfl
        rw [hk] at c0
        go_upto_region 24 with fail
        clear c0
        obtain ⟨sy, hsy⟩ : ∃ b, v.sync = b := ⟨_, rfl⟩
        have HSY := Lib.hid hsy
        clear hsy
        have HCN : Hid (∀ w, (LitMap.Sets B10 25 #[.int .i64 3, .int .i64 v.queue, .int .i64 0, .int .i64 0, .int .i64 0, .string (S v.topic), .string (S []), .string (S v.tag), .string (S []), .string (S v.body), .slice s.ka v.keys.length s.kc, .slice none 0 0, .slice none 0 0, .bool sy]) wA.drew w → w.cell? ⟨W.heap.size, 5, none⟩ = some (.string (S v.topic)) ∧ w.cell? ⟨W.heap.size, 1, none⟩ = some (.int .i64 v.queue) ∧ w.cell? ⟨W.heap.size, 7, none⟩ = some (.string (S v.tag)) ∧ w.cell? ⟨W.heap.size, 10, none⟩ = some (.slice s.ka v.keys.length s.kc) ∧ w.cell? ⟨W.heap.size, 9, none⟩ = some (.string (S v.body)) ∧ w.cell? ⟨W.heap.size, 13, none⟩ = some (.bool sy)) := by
          intro w hw
          have hx := HXq.out.below (HBE.out ▸ ((HBL.out.drew).trans hw.below))
          have h13 : w.cell? ⟨W.heap.size, 13, none⟩ = some (.bool v.sync) := hx 13 _ rfl
          rw [HSY.out] at h13
          exact ⟨hx 5 _ rfl, hx 1 _ rfl, hx 7 _ rfl, hx 10 _ rfl, hx 9 _ rfl, h13⟩
        have hrow : LitMap.RowAt B10 25 14 wA.drew := ⟨_, HT10.out, rfl⟩
        refine GrowN.wp_region_n 24 [none, some (.inl (.string (S v.topic))), none, some (.inl (.int .i64 v.queue)), none, some (.inl (.string (S v.tag))), none, some (.inl (.slice s.ka v.keys.length s.kc)), none, some (.inl (.string (S v.body))), none, some (.inl (.bool sy)), none, some (.inr fun _ _ w => LitMap.At B10 25 #[.int .i64 3, .int .i64 v.queue, .int .i64 0, .int .i64 0, .int .i64 0, .string (S v.topic), .string (S []), .string (S v.tag), .string (S []), .string (S v.body), .slice s.ka v.keys.length s.kc, .slice none 0 0, .slice none 0 0, .bool sy] 5 w), none, some (.inr fun _ _ w => LitMap.At B10 25 #[.int .i64 3, .int .i64 v.queue, .int .i64 0, .int .i64 0, .int .i64 0, .string (S v.topic), .string (S []), .string (S v.tag), .string (S []), .string (S v.body), .slice s.ka v.keys.length s.kc, .slice none 0 0, .slice none 0 0, .bool sy] 1 w), none, some (.inr fun _ _ w => LitMap.At B10 25 #[.int .i64 3, .int .i64 v.queue, .int .i64 0, .int .i64 0, .int .i64 0, .string (S v.topic), .string (S []), .string (S v.tag), .string (S []), .string (S v.body), .slice s.ka v.keys.length s.kc, .slice none 0 0, .slice none 0 0, .bool sy] 7 w), none, some (.inr fun _ _ w => LitMap.At B10 25 #[.int .i64 3, .int .i64 v.queue, .int .i64 0, .int .i64 0, .int .i64 0, .string (S v.topic), .string (S []), .string (S v.tag), .string (S []), .string (S v.body), .slice s.ka v.keys.length s.kc, .slice none 0 0, .slice none 0 0, .bool sy] 10 w), none, some (.inr fun _ _ w => LitMap.At B10 25 #[.int .i64 3, .int .i64 v.queue, .int .i64 0, .int .i64 0, .int .i64 0, .string (S v.topic), .string (S []), .string (S v.tag), .string (S []), .string (S v.body), .slice s.ka v.keys.length s.kc, .slice none 0 0, .slice none 0 0, .bool sy] 9 w), none, some (.inr fun _ _ w => LitMap.At B10 25 #[.int .i64 3, .int .i64 v.queue, .int .i64 0, .int .i64 0, .int .i64 0, .string (S v.topic), .string (S []), .string (S v.tag), .string (S []), .string (S v.body), .slice s.ka v.keys.length s.kc, .slice none 0 0, .slice none 0 0, .bool sy] 13 w)] (LitMap.Sets B10 25 #[.int .i64 3, .int .i64 v.queue, .int .i64 0, .int .i64 0, .int .i64 0, .string (S v.topic), .string (S []), .string (S v.tag), .string (S []), .string (S v.body), .slice s.ka v.keys.length s.kc, .slice none 0 0, .slice none 0 0, .bool sy]) (by kernel_rfl) (by kernel_rfl) (by kernel_rfl) (LitMap.Sets.refl _ _ _) (fun _ _ _ => LitMap.Sets.trans) ?_ ?_
        · intro K hK Y hY l u w w' hR h
          simp only [List.mem_cons, List.not_mem_nil, or_false] at hK
          rcases hK with rfl | rfl | rfl | rfl | rfl | rfl | rfl | rfl | rfl | rfl | rfl | rfl | rfl | rfl | rfl | rfl | rfl | rfl | rfl | rfl | rfl | rfl | rfl | rfl <;> simp only [reduceCtorEq, Option.some.injEq, Sum.inr.injEq] at hY
          all_goals (subst hY; exact LitMap.At.lasts h hR)
        simp only [List.take_succ_cons, List.take_zero, List.drop_succ_cons, List.drop_zero]
        refine GrowN.g_det rfl ?_
        apply Exists.intro
        refine ⟨fun w hw hF => ?_, ?_⟩
        · clear hF
          go_simp
          exact ⟨rfl, LitMap.Sets.refl _ _ _ _⟩
        simp only [Act.put, List.setIfInBounds_toArray, List.set_cons_zero, List.set_cons_succ]
        refine GrowN.g_con rfl (fun w2 hw hF => ?_) ?_
        · clear hF
          have cf := (HCN.out w2 hw).1
          go_simp
          all_goals exact LitMap.Sets.refl _ _ _ _
        simp only [Act.put, List.setIfInBounds_toArray, List.set_cons_zero, List.set_cons_succ]
        refine GrowN.g_det rfl ?_
        apply Exists.intro
        refine ⟨fun w hw hF => ?_, ?_⟩
        · clear hF
          go_simp
          exact ⟨rfl, LitMap.Sets.refl _ _ _ _⟩
        simp only [Act.put, List.setIfInBounds_toArray, List.set_cons_zero, List.set_cons_succ]
        refine GrowN.g_con rfl (fun w2 hw hF => ?_) ?_
        · clear hF
          have cf := (HCN.out w2 hw).2.1
          go_simp
          all_goals exact LitMap.Sets.refl _ _ _ _
        simp only [Act.put, List.setIfInBounds_toArray, List.set_cons_zero, List.set_cons_succ]
        refine GrowN.g_det rfl ?_
        apply Exists.intro
        refine ⟨fun w hw hF => ?_, ?_⟩
        · clear hF
          go_simp
          exact ⟨rfl, LitMap.Sets.refl _ _ _ _⟩
        simp only [Act.put, List.setIfInBounds_toArray, List.set_cons_zero, List.set_cons_succ]
        refine GrowN.g_con rfl (fun w2 hw hF => ?_) ?_
        · clear hF
          have cf := (HCN.out w2 hw).2.2.1
          go_simp
          all_goals exact LitMap.Sets.refl _ _ _ _
        simp only [Act.put, List.setIfInBounds_toArray, List.set_cons_zero, List.set_cons_succ]
        refine GrowN.g_det rfl ?_
        apply Exists.intro
        refine ⟨fun w hw hF => ?_, ?_⟩
        · clear hF
          go_simp
          exact ⟨rfl, LitMap.Sets.refl _ _ _ _⟩
        simp only [Act.put, List.setIfInBounds_toArray, List.set_cons_zero, List.set_cons_succ]
        refine GrowN.g_con rfl (fun w2 hw hF => ?_) ?_
        · clear hF
          have cf := (HCN.out w2 hw).2.2.2.1
          go_simp
          all_goals exact LitMap.Sets.refl _ _ _ _
        simp only [Act.put, List.setIfInBounds_toArray, List.set_cons_zero, List.set_cons_succ]
        refine GrowN.g_det rfl ?_
        apply Exists.intro
        refine ⟨fun w hw hF => ?_, ?_⟩
        · clear hF
          go_simp
          exact ⟨rfl, LitMap.Sets.refl _ _ _ _⟩
        simp only [Act.put, List.setIfInBounds_toArray, List.set_cons_zero, List.set_cons_succ]
        refine GrowN.g_con rfl (fun w2 hw hF => ?_) ?_
        · clear hF
          have cf := (HCN.out w2 hw).2.2.2.2.1
          go_simp
          all_goals exact LitMap.Sets.refl _ _ _ _
        simp only [Act.put, List.setIfInBounds_toArray, List.set_cons_zero, List.set_cons_succ]
        refine GrowN.g_det rfl ?_
        apply Exists.intro
        refine ⟨fun w hw hF => ?_, ?_⟩
        · clear hF
          go_simp
          exact ⟨rfl, LitMap.Sets.refl _ _ _ _⟩
        simp only [Act.put, List.setIfInBounds_toArray, List.set_cons_zero, List.set_cons_succ]
        refine GrowN.g_con rfl (fun w2 hw hF => ?_) ?_
        · clear hF
          have cf := (HCN.out w2 hw).2.2.2.2.2
          go_simp
          all_goals exact LitMap.Sets.refl _ _ _ _
        simp only [Act.put, List.setIfInBounds_toArray, List.set_cons_zero, List.set_cons_succ]
        refine GrowN.g_det rfl ?_
        apply Exists.intro
        refine ⟨fun w hw hF => ?_, ?_⟩
        · clear hF
          go_simp
          exact ⟨rfl, LitMap.Sets.refl _ _ _ _⟩
        simp only [Act.put, List.setIfInBounds_toArray, List.set_cons_zero, List.set_cons_succ]
        refine GrowN.g_new rfl (fun w2 hw hF => ?_) (fun _ => ?_)
        · clear hF
          obtain ⟨cold, hcold, hfr, hset, hat⟩ := LitMap.Sets.store hw hrow 5 (.string (S v.topic)) rfl
          go_simp
          all_goals exact ⟨hat, hset⟩
        simp only [Act.put, List.setIfInBounds_toArray, List.set_cons_zero, List.set_cons_succ]
        refine GrowN.g_det rfl ?_
        apply Exists.intro
        refine ⟨fun w hw hF => ?_, ?_⟩
        · clear hF
          go_simp
          exact ⟨rfl, LitMap.Sets.refl _ _ _ _⟩
        simp only [Act.put, List.setIfInBounds_toArray, List.set_cons_zero, List.set_cons_succ]
        refine GrowN.g_new rfl (fun w2 hw hF => ?_) (fun _ => ?_)
        · clear hF
          obtain ⟨cold, hcold, hfr, hset, hat⟩ := LitMap.Sets.store hw hrow 1 (.int .i64 v.queue) rfl
          go_simp
          all_goals exact ⟨hat, hset⟩
        simp only [Act.put, List.setIfInBounds_toArray, List.set_cons_zero, List.set_cons_succ]
        refine GrowN.g_det rfl ?_
        apply Exists.intro
        refine ⟨fun w hw hF => ?_, ?_⟩
        · clear hF
          go_simp
          exact ⟨rfl, LitMap.Sets.refl _ _ _ _⟩
        simp only [Act.put, List.setIfInBounds_toArray, List.set_cons_zero, List.set_cons_succ]
        refine GrowN.g_new rfl (fun w2 hw hF => ?_) (fun _ => ?_)
        · clear hF
          obtain ⟨cold, hcold, hfr, hset, hat⟩ := LitMap.Sets.store hw hrow 7 (.string (S v.tag)) rfl
          go_simp
          all_goals exact ⟨hat, hset⟩
        simp only [Act.put, List.setIfInBounds_toArray, List.set_cons_zero, List.set_cons_succ]
        refine GrowN.g_det rfl ?_
        apply Exists.intro
        refine ⟨fun w hw hF => ?_, ?_⟩
        · clear hF
          go_simp
          exact ⟨rfl, LitMap.Sets.refl _ _ _ _⟩
        simp only [Act.put, List.setIfInBounds_toArray, List.set_cons_zero, List.set_cons_succ]
        refine GrowN.g_new rfl (fun w2 hw hF => ?_) (fun _ => ?_)
        · clear hF
          obtain ⟨cold, hcold, hfr, hset, hat⟩ := LitMap.Sets.store hw hrow 10 (.slice s.ka v.keys.length s.kc) rfl
          go_simp
          all_goals exact ⟨hat, hset⟩
        simp only [Act.put, List.setIfInBounds_toArray, List.set_cons_zero, List.set_cons_succ]
        refine GrowN.g_det rfl ?_
        apply Exists.intro
        refine ⟨fun w hw hF => ?_, ?_⟩
        · clear hF
          go_simp
          exact ⟨rfl, LitMap.Sets.refl _ _ _ _⟩
        simp only [Act.put, List.setIfInBounds_toArray, List.set_cons_zero, List.set_cons_succ]
        refine GrowN.g_new rfl (fun w2 hw hF => ?_) (fun _ => ?_)
        · clear hF
          obtain ⟨cold, hcold, hfr, hset, hat⟩ := LitMap.Sets.store hw hrow 9 (.string (S v.body)) rfl
          go_simp
          all_goals exact ⟨hat, hset⟩
        simp only [Act.put, List.setIfInBounds_toArray, List.set_cons_zero, List.set_cons_succ]
        refine GrowN.g_det rfl ?_
        apply Exists.intro
        refine ⟨fun w hw hF => ?_, ?_⟩
        · clear hF
          go_simp
          exact ⟨rfl, LitMap.Sets.refl _ _ _ _⟩
        simp only [Act.put, List.setIfInBounds_toArray, List.set_cons_zero, List.set_cons_succ]
        refine GrowN.g_new rfl (fun w2 hw hF => ?_) (fun _ => ?_)
        · clear hF
          obtain ⟨cold, hcold, hfr, hset, hat⟩ := LitMap.Sets.store hw hrow 13 (.bool sy) rfl
          go_simp
          all_goals exact ⟨hat, hset⟩
        simp only [Act.put, List.setIfInBounds_toArray, List.set_cons_zero, List.set_cons_succ]
        refine GrowN.g_nil fun wN hw3 hF => ?_
        refine wpList_nil ?_
        have HTwN : Hid (wN.heap[B10]? = some (.cells #[.int .i64 3, .int .i64 v.queue, .int .i64 0, .int .i64 0, .int .i64 0, .string (S v.topic), .string (S []), .string (S v.tag), .string (S []), .string (S v.body), .slice s.ka v.keys.length s.kc, .slice none 0 0, .slice none 0 0, .bool sy] 25 (0, 0))) := LitMap.Sets.done hw3 HT10.out rfl (fun i hi => match i, hi with
          | 0, _ => .inl rfl
          | 1, _ => .inr (hF (15, LitMap.At B10 25 #[.int .i64 3, .int .i64 v.queue, .int .i64 0, .int .i64 0, .int .i64 0, .string (S v.topic), .string (S []), .string (S v.tag), .string (S []), .string (S v.body), .slice s.ka v.keys.length s.kc, .slice none 0 0, .slice none 0 0, .bool sy] 1) (by simp only [List.mem_cons, true_or, or_true]))
          | 2, _ => .inl rfl
          | 3, _ => .inl rfl
          | 4, _ => .inl rfl
          | 5, _ => .inr (hF (13, LitMap.At B10 25 #[.int .i64 3, .int .i64 v.queue, .int .i64 0, .int .i64 0, .int .i64 0, .string (S v.topic), .string (S []), .string (S v.tag), .string (S []), .string (S v.body), .slice s.ka v.keys.length s.kc, .slice none 0 0, .slice none 0 0, .bool sy] 5) (by simp only [List.mem_cons, true_or, or_true]))
          | 6, _ => .inl rfl
          | 7, _ => .inr (hF (17, LitMap.At B10 25 #[.int .i64 3, .int .i64 v.queue, .int .i64 0, .int .i64 0, .int .i64 0, .string (S v.topic), .string (S []), .string (S v.tag), .string (S []), .string (S v.body), .slice s.ka v.keys.length s.kc, .slice none 0 0, .slice none 0 0, .bool sy] 7) (by simp only [List.mem_cons, true_or, or_true]))
          | 8, _ => .inl rfl
          | 9, _ => .inr (hF (21, LitMap.At B10 25 #[.int .i64 3, .int .i64 v.queue, .int .i64 0, .int .i64 0, .int .i64 0, .string (S v.topic), .string (S []), .string (S v.tag), .string (S []), .string (S v.body), .slice s.ka v.keys.length s.kc, .slice none 0 0, .slice none 0 0, .bool sy] 9) (by simp only [List.mem_cons, true_or, or_true]))
          | 10, _ => .inr (hF (19, LitMap.At B10 25 #[.int .i64 3, .int .i64 v.queue, .int .i64 0, .int .i64 0, .int .i64 0, .string (S v.topic), .string (S []), .string (S v.tag), .string (S []), .string (S v.body), .slice s.ka v.keys.length s.kc, .slice none 0 0, .slice none 0 0, .bool sy] 10) (by simp only [List.mem_cons, true_or, or_true]))
          | 11, _ => .inl rfl
          | 12, _ => .inl rfl
          | 13, _ => .inr (hF (23, LitMap.At B10 25 #[.int .i64 3, .int .i64 v.queue, .int .i64 0, .int .i64 0, .int .i64 0, .string (S v.topic), .string (S []), .string (S v.tag), .string (S []), .string (S v.body), .slice s.ka v.keys.length s.kc, .slice none 0 0, .slice none 0 0, .bool sy] 13) (by simp only [List.mem_cons, true_or, or_true]))
          | i + 14, h => absurd h (by simp))
        have hb : Below B10 wq2 wN := (HBL.out.drew).trans hw3.below
        clear hw3 hF HCN hrow
        replace HX := Lib.hid (HXq.out.below (HBE.out ▸ hb))
        replace HIN := Lib.hid (HINq.out.below (HBE.out ▸ hb))
        replace HB := Lib.hid (HBq.out.trans (hb.mono (Nat.le_of_lt hB10)))
        have HBN := Lib.hid hb
        clear hb HT10 HBL wA
        have hzs := sendL_size HSM.out HI.out HG.out HK.out
        have c0 : wN.cell? ⟨W.heap.size, 0, none⟩ = some (.int .i64 v.kind) := HX.out 0 _ rfl
        have c2 : wN.cell? ⟨W.heap.size, 2, none⟩ = some (.int .i64 v.n) := HX.out 2 _ rfl
        rw [hk] at c0
        have hz9 := HTwN.out
        have d2 : wN.cell? ⟨B10, 2, none⟩ = some (.int .i64 0) := by unfold World.cell?; rw [show wN.heap[(⟨B10, 2, none⟩ : Addr).block]? = _ from hz9]; rfl
        have hfr : ∀ j, wN.frozen? ⟨B10, j, none⟩ = false := fun j => by unfold World.frozen?; rw [show wN.heap[(⟨B10, j, none⟩ : Addr).block]? = _ from hz9]; rfl
        clear hz9
        go_upto_region 28 with fail
        obtain ⟨wM, hwwM⟩ : ∃ wz, (wN.setCell ⟨B10, 2, none⟩ (.int .i64 v.n)) = wz := ⟨_, rfl⟩
        rw [hwwM]
        have HTwM : Hid (wM.heap[B10]? = some (.cells #[.int .i64 3, .int .i64 v.queue, .int .i64 v.n, .int .i64 0, .int .i64 0, .string (S v.topic), .string (S []), .string (S v.tag), .string (S []), .string (S v.body), .slice s.ka v.keys.length s.kc, .slice none 0 0, .slice none 0 0, .bool sy] 25 (0, 0))) := by
          have h0 : wN.heap[B10]? = some (.cells #[.int .i64 3, .int .i64 v.queue, .int .i64 0, .int .i64 0, .int .i64 0, .string (S v.topic), .string (S []), .string (S v.tag), .string (S []), .string (S v.body), .slice s.ka v.keys.length s.kc, .slice none 0 0, .slice none 0 0, .bool sy] 25 (0, 0)) := HTwN.out
          have h1 := heap_setCell_same _ B10 2 _ _ (.int .i64 v.n) h0
          simp only [List.setIfInBounds_toArray, List.set_cons_zero, List.set_cons_succ] at h1
          show wM.heap[B10]? = _
          rw [← hwwM]
          exact h1
        have hb : Below B10 wq2 wM := by rw [← hwwM]; exact (HBN.out.setCell (p := ⟨B10, 2, none⟩) (Nat.le_refl _) _)
        clear hwwM
        replace HX := Lib.hid (HXq.out.below (HBE.out ▸ hb))
        replace HIN := Lib.hid (HINq.out.below (HBE.out ▸ hb))
        replace HB := Lib.hid (HBq.out.trans (hb.mono (Nat.le_of_lt hB10)))
        clear hb HTwN HBN c0 c2 d2 hfr wN
        have c0 : wM.cell? ⟨W.heap.size, 0, none⟩ = some (.int .i64 v.kind) := HX.out 0 _ rfl
        have c2 : wM.cell? ⟨W.heap.size, 2, none⟩ = some (.int .i64 v.n) := HX.out 2 _ rfl
        rw [hk] at c0
        go_wp2_with fail
        refine (digits_any v.n HI.out.n.1 HI.out.n.2 _).mono ?_
        rintro e w5 ⟨rfl, rfl⟩
        rw [← HSY.out] at HTwM
        have HTW := HTwM
        clear HTwM HSY
        clear c2
        generalize w5 = wA at *
        clear HXq HINq HBq
        go_upto_region 56 with fail
        clear c0
        have c0 : wA.cell? ⟨W.heap.size, 0, none⟩ = some (.int .i64 v.kind) := HX.out 0 _ rfl
        have c1 : wA.cell? ⟨W.heap.size, 1, none⟩ = some (.int .i64 v.queue) := HX.out 1 _ rfl
        have c2 : wA.cell? ⟨W.heap.size, 2, none⟩ = some (.int .i64 v.n) := HX.out 2 _ rfl
        have c3 : wA.cell? ⟨W.heap.size, 3, none⟩ = some (.int .i64 v.aat) := HX.out 3 _ rfl
        have c4 : wA.cell? ⟨W.heap.size, 4, none⟩ = some (.int .i64 v.lack) := HX.out 4 _ rfl
        have c5 : wA.cell? ⟨W.heap.size, 5, none⟩ = some (.string (S v.topic)) := HX.out 5 _ rfl
        have c6 : wA.cell? ⟨W.heap.size, 6, none⟩ = some (.string (S v.group)) := HX.out 6 _ rfl
        have c7 : wA.cell? ⟨W.heap.size, 7, none⟩ = some (.string (S v.tag)) := HX.out 7 _ rfl
        have c8 : wA.cell? ⟨W.heap.size, 8, none⟩ = some (.string (S v.key)) := HX.out 8 _ rfl
        have c9 : wA.cell? ⟨W.heap.size, 9, none⟩ = some (.string (S v.body)) := HX.out 9 _ rfl
        have c10 : wA.cell? ⟨W.heap.size, 10, none⟩ = some (.slice s.ka v.keys.length s.kc) := HX.out 10 _ rfl
        have c11 : wA.cell? ⟨W.heap.size, 11, none⟩ = some (.slice s.ta v.tags.length s.tc) := HX.out 11 _ rfl
        have c12 : wA.cell? ⟨W.heap.size, 12, none⟩ = some (.slice s.pa v.keep.length s.pc) := HX.out 12 _ rfl
        have c13 : wA.cell? ⟨W.heap.size, 13, none⟩ = some (.bool v.sync) := HX.out 13 _ rfl
        rw [hk] at c0
        have hz9 := HTW.out
        have d0 : wA.cell? ⟨B10, 0, none⟩ = some (.int .i64 3) := by unfold World.cell?; rw [show wA.heap[(⟨B10, 0, none⟩ : Addr).block]? = _ from hz9]; rfl
        have d1 : wA.cell? ⟨B10, 1, none⟩ = some (.int .i64 v.queue) := by unfold World.cell?; rw [show wA.heap[(⟨B10, 1, none⟩ : Addr).block]? = _ from hz9]; rfl
        have d2 : wA.cell? ⟨B10, 2, none⟩ = some (.int .i64 v.n) := by unfold World.cell?; rw [show wA.heap[(⟨B10, 2, none⟩ : Addr).block]? = _ from hz9]; rfl
        have d3 : wA.cell? ⟨B10, 3, none⟩ = some (.int .i64 0) := by unfold World.cell?; rw [show wA.heap[(⟨B10, 3, none⟩ : Addr).block]? = _ from hz9]; rfl
        have d4 : wA.cell? ⟨B10, 4, none⟩ = some (.int .i64 0) := by unfold World.cell?; rw [show wA.heap[(⟨B10, 4, none⟩ : Addr).block]? = _ from hz9]; rfl
        have d5 : wA.cell? ⟨B10, 5, none⟩ = some (.string (S v.topic)) := by unfold World.cell?; rw [show wA.heap[(⟨B10, 5, none⟩ : Addr).block]? = _ from hz9]; rfl
        have d6 : wA.cell? ⟨B10, 6, none⟩ = some (.string (S [])) := by unfold World.cell?; rw [show wA.heap[(⟨B10, 6, none⟩ : Addr).block]? = _ from hz9]; rfl
        have d7 : wA.cell? ⟨B10, 7, none⟩ = some (.string (S v.tag)) := by unfold World.cell?; rw [show wA.heap[(⟨B10, 7, none⟩ : Addr).block]? = _ from hz9]; rfl
        have d8 : wA.cell? ⟨B10, 8, none⟩ = some (.string (S [])) := by unfold World.cell?; rw [show wA.heap[(⟨B10, 8, none⟩ : Addr).block]? = _ from hz9]; rfl
        have d9 : wA.cell? ⟨B10, 9, none⟩ = some (.string (S v.body)) := by unfold World.cell?; rw [show wA.heap[(⟨B10, 9, none⟩ : Addr).block]? = _ from hz9]; rfl
        have d10 : wA.cell? ⟨B10, 10, none⟩ = some (.slice s.ka v.keys.length s.kc) := by unfold World.cell?; rw [show wA.heap[(⟨B10, 10, none⟩ : Addr).block]? = _ from hz9]; rfl
        have d11 : wA.cell? ⟨B10, 11, none⟩ = some (.slice none 0 0) := by unfold World.cell?; rw [show wA.heap[(⟨B10, 11, none⟩ : Addr).block]? = _ from hz9]; rfl
        have d12 : wA.cell? ⟨B10, 12, none⟩ = some (.slice none 0 0) := by unfold World.cell?; rw [show wA.heap[(⟨B10, 12, none⟩ : Addr).block]? = _ from hz9]; rfl
        have d13 : wA.cell? ⟨B10, 13, none⟩ = some (.bool v.sync) := by unfold World.cell?; rw [show wA.heap[(⟨B10, 13, none⟩ : Addr).block]? = _ from hz9]; rfl
        clear hz9
        have hwo : EvOk (wantE v 3) := ⟨HSM.out.topic, Nat.zero_le _, HSM.out.tag, Nat.zero_le _, HSM.out.body, HSM.out.keys, Nat.zero_le _, Nat.zero_le _, HSM.out.keysz, fun t ht => (by cases ht)⟩
        have hwi : EvIn wA (wantE v 3) ⟨s.ka, s.kc, none, 0, none, 0⟩ := ⟨HIN.out.keys, fun i hi => absurd hi (Nat.not_lt_zero _), fun i hi => absurd hi (Nat.not_lt_zero _)⟩
        have HSC := Lib.hid (ev_same v (wantE v 3) s ⟨s.ka, s.kc, none, 0, none, 0⟩ HSM.out hwo wA HIN.out hwi)
        rw [show v.cells s = #[.int .i64 3, .int .i64 v.queue, .int .i64 v.n, .int .i64 v.aat, .int .i64 v.lack, .string (S v.topic), .string (S v.group), .string (S v.tag), .string (S v.key), .string (S v.body), .slice s.ka v.keys.length s.kc, .slice s.ta v.tags.length s.tc, .slice s.pa v.keep.length s.pc, .bool v.sync] from by unfold Ev.cells; rw [hk], show Ev.cells (wantE v 3) ⟨s.ka, s.kc, none, 0, none, 0⟩ = #[.int .i64 3, .int .i64 v.queue, .int .i64 v.n, .int .i64 0, .int .i64 0, .string (S v.topic), .string (S []), .string (S v.tag), .string (S []), .string (S v.body), .slice s.ka v.keys.length s.kc, .slice none 0 0, .slice none 0 0, .bool v.sync] from rfl] at HSC
        rw [hsy0] at HSC
        clear hwo hwi
        go_wp2_with fail
        refine HSC.out.mono ?_
        rintro e wB ⟨rfl, hb⟩
        clear c0 c1 c2 c3 c4 c5 c6 c7 c8 c9 c10 c11 c12 c13 d0 d1 d2 d3 d4 d5 d6 d7 d8 d9 d10 d11 d12 d13 HSC HTW
        replace HX := Lib.hid (HX.out.below hb)
        replace HIN := Lib.hid (HIN.out.below hb)
        replace HB := Lib.hid (HB.out.trans (hb.mono HB.out.size))
        clear hb
        have HC : Hid (condB v 3 = (sameE v (wantE v 3) && topicL v.topic && true)) := by show _ = _; unfold condB; rfl
        generalize sameE v (wantE v 3) = sb at *
        cases sb with
        | false =>
          have HT : Hid (RR = []) := by show _ = _; rw [← HRR.out, HC.out]; rfl
          have c0 : wB.cell? ⟨W.heap.size, 0, none⟩ = some (.int .i64 v.kind) := HX.out 0 _ rfl
          have c5 : wB.cell? ⟨W.heap.size, 5, none⟩ = some (.string (S v.topic)) := HX.out 5 _ rfl
          have c6 : wB.cell? ⟨W.heap.size, 6, none⟩ = some (.string (S v.group)) := HX.out 6 _ rfl
          rw [hk] at c0
          go_wp2_with fail
          go_ret
          rw [HT.out]
          exact ⟨rfl, HB.out⟩
        | true =>
          have c0 : wB.cell? ⟨W.heap.size, 0, none⟩ = some (.int .i64 v.kind) := HX.out 0 _ rfl
          have c5 : wB.cell? ⟨W.heap.size, 5, none⟩ = some (.string (S v.topic)) := HX.out 5 _ rfl
          have c6 : wB.cell? ⟨W.heap.size, 6, none⟩ = some (.string (S v.group)) := HX.out 6 _ rfl
          rw [hk] at c0
          have HTP := Lib.hid (fun w => NameW.rtopic_any v.topic (by have := HSM.out.topic; omega) w)
          generalize topicL v.topic = tb at *
          go_wp2_with fail
          refine (HTP.out _).mono ?_
          rintro e wC ⟨rfl, hd⟩
          have hb := hd.below wB.heap.size
          clear hd c0 c5 c6 HTP
          replace HX := Lib.hid (HX.out.below hb)
          replace HIN := Lib.hid (HIN.out.below hb)
          replace HB := Lib.hid (HB.out.trans (hb.mono HB.out.size))
          clear hb
          have c0 : wC.cell? ⟨W.heap.size, 0, none⟩ = some (.int .i64 v.kind) := HX.out 0 _ rfl
          have c5 : wC.cell? ⟨W.heap.size, 5, none⟩ = some (.string (S v.topic)) := HX.out 5 _ rfl
          have c6 : wC.cell? ⟨W.heap.size, 6, none⟩ = some (.string (S v.group)) := HX.out 6 _ rfl
          rw [hk] at c0
          cases tb with
          | false =>
            have HT : Hid (RR = []) := by show _ = _; rw [← HRR.out, HC.out]; rfl
            go_wp2_with fail
            go_ret
            rw [HT.out]
            exact ⟨rfl, HB.out⟩
          | true =>
            have HT : Hid (S RR = S (lineS v 3)) := by show _ = _; rw [← HRR.out, HC.out]; rfl
            go_wp2_with fail
            go_ret
            rw [HT.out]
            exact ⟨rfl, HB.out⟩

        skip
end Go.Proofs.YtadhkeboaapfcaaGreatDoor.EvW
namespace Go.Proofs.YtadhkeboaapfcaaGreatDoor.EvW
open Go.RowKit OctMath NameMath HexMath
set_option linter.unusedVariables false
set_option linter.unusedSimpArgs false
set_option maxRecDepth 100000


set_option maxHeartbeats 12800000 in
theorem line_5 (v : Ev) (s : EvS) (hsm : EvOk v) (hi : EvI v) (W : World) (hin : EvIn W v s) (hcap : v.tags.length ≤ s.tc) (hk : v.kind = 5) (hg : guardB v = true) (hbk : v.keys.any badK = false) :
    Calls Tryz.prog 10 #[.agg (v.cells s)] W fun e w' => e = .returned (.string (S (if condB v 5 then lineS v 5 else []))) ∧ Below W.heap.size W w' := by
  generalize hRR : (if condB v 5 then lineS v 5 else []) = RR
  have HRR := Lib.hid hRR
  clear hRR
  have HP := Lib.hid (guard_parts hg)
  have HK := Lib.hid hbk
  have HG := Lib.hid hg
  have HSM := Lib.hid hsm
  have HI := Lib.hid hi
  have HB : Hid (Below W.heap.size W (W.alloc (.cells (v.cells s) 25))) := (Below.refl _ W).alloc (Nat.le_refl _) _
  have HIN := Lib.hid (hin.below HB.out)
  have HX : Hid (Boxed (W.alloc (.cells (v.cells s) 25)) W.heap.size (v.cells s)) := Boxed.new W _ _
  have hcv : (v.cells s).size = 14 := rfl
  have hsz := S_size
  clear hsm hi hin hg hbk
  go_enter Tryz.func10, Tryz.ntmps10
  go_upto_region 1 with fail
  generalize (W.alloc (.cells (v.cells s) 25)) = w1 at *
  clear hcv
  have c0 : w1.cell? ⟨W.heap.size, 0, none⟩ = some (.int .i64 v.kind) := HX.out 0 _ rfl
  have c1 : w1.cell? ⟨W.heap.size, 1, none⟩ = some (.int .i64 v.queue) := HX.out 1 _ rfl
  have c2 : w1.cell? ⟨W.heap.size, 2, none⟩ = some (.int .i64 v.n) := HX.out 2 _ rfl
  have c3 : w1.cell? ⟨W.heap.size, 3, none⟩ = some (.int .i64 v.aat) := HX.out 3 _ rfl
  have c4 : w1.cell? ⟨W.heap.size, 4, none⟩ = some (.int .i64 v.lack) := HX.out 4 _ rfl
  rw [hk] at c0
  have HNB := Lib.hid (small_any (some ⟨w1.heap.size, 0, none⟩) 4 [v.queue, v.n, v.aat, v.lack] (by simp))
  rw [HP.out.1] at HNB
  go_wp2_with fail
  refine (HNB.out _ ?nrow).mono ?_
  case nrow => exact fun i hi => ⟨_, 0, rfl, by rw [World.cell?_alloc_new]; match i, hi with | 0, _ => rfl | 1, _ => rfl | 2, _ => rfl | 3, _ => rfl⟩
  rintro e w2 ⟨rfl, hd⟩
  have hb : Below w1.heap.size w1 w2 := ((Below.refl _ w1).alloc (Nat.le_refl _) _).trans (hd.below _)
  clear hd c0 c1 c2 c3 c4 HNB
  replace HX := Lib.hid (HX.out.below hb)
  replace HIN := Lib.hid (HIN.out.below hb)
  replace HB := Lib.hid (HB.out.trans (hb.mono HB.out.size))
  clear hb
  have c7 : w2.cell? ⟨W.heap.size, 7, none⟩ = some (.string (S v.tag)) := HX.out 7 _ rfl
  have HTG := Lib.hid (fun w => NameW.rtag_any v.tag (by have := HSM.out.tag; omega) w)
  rw [HP.out.2.1] at HTG
  go_wp2_with fail
  refine (HTG.out _).mono ?_
  rintro e w3 ⟨rfl, hd⟩
  have hb := hd.below w2.heap.size
  clear hd c7 HTG
  replace HX := Lib.hid (HX.out.below hb)
  replace HIN := Lib.hid (HIN.out.below hb)
  replace HB := Lib.hid (HB.out.trans (hb.mono HB.out.size))
  clear hb
  have c8 : w3.cell? ⟨W.heap.size, 8, none⟩ = some (.string (S v.key)) := HX.out 8 _ rfl
  have c9 : w3.cell? ⟨W.heap.size, 9, none⟩ = some (.string (S v.body)) := HX.out 9 _ rfl
  have c10 : w3.cell? ⟨W.heap.size, 10, none⟩ = some (.slice s.ka v.keys.length s.kc) := HX.out 10 _ rfl
  have c11 : w3.cell? ⟨W.heap.size, 11, none⟩ = some (.slice s.ta v.tags.length s.tc) := HX.out 11 _ rfl
  have c12 : w3.cell? ⟨W.heap.size, 12, none⟩ = some (.slice s.pa v.keep.length s.pc) := HX.out 12 _ rfl
  have HFL := Lib.hid (fun w h => lfilter_any s.ta s.tc v.tags (by have := HSM.out.tags; omega) hcap HSM.out.tagsz w h)
  rw [HP.out.2.2.1] at HFL
  go_wp2_with fail
  refine (HFL.out _ HIN.out.tags).mono ?_
  rintro e w4 ⟨rfl, hd⟩
  have hb := hd.below w3.heap.size
  clear hd c8 c9 c10 c11 c12 HFL
  replace HX := Lib.hid (HX.out.below hb)
  replace HIN := Lib.hid (HIN.out.below hb)
  replace HB := Lib.hid (HB.out.trans (hb.mono HB.out.size))
  clear hb
  have c8 : w4.cell? ⟨W.heap.size, 8, none⟩ = some (.string (S v.key)) := HX.out 8 _ rfl
  have c9 : w4.cell? ⟨W.heap.size, 9, none⟩ = some (.string (S v.body)) := HX.out 9 _ rfl
  have c10 : w4.cell? ⟨W.heap.size, 10, none⟩ = some (.slice s.ka v.keys.length s.kc) := HX.out 10 _ rfl
  have c12 : w4.cell? ⟨W.heap.size, 12, none⟩ = some (.slice s.pa v.keep.length s.pc) := HX.out 12 _ rfl
  have hp1 := HP.out.2.2.2.1
  have hp2 := HP.out.2.2.2.2.1
  have hp3 := HP.out.2.2.2.2.2.1
  have hp4 := HP.out.2.2.2.2.2.2
  have g1 : decide (300 < (v.body.length : Int)) = false := decide_eq_false (by omega)
  have g2 : decide (300 < (v.key.length : Int)) = false := decide_eq_false (by omega)
  have g3 : decide (10 < (v.keys.length : Int)) = false := decide_eq_false (by omega)
  have g4 : decide (100 < (v.keep.length : Int)) = false := decide_eq_false (by omega)
  go_wp2_with fail
  clear g1 g2 g3 g4
  have HKL : Hid (Row1 w4 s.ka (v.keys.map fun x => .string (S x))) := row_strs HIN.out.keys
  have htl := NameW.S_toList
  go_loopw [74] (fun i wr => ∃ k : Nat, k ≤ v.keys.length ∧ i = .int .i64 (k : Int) ∧ wr = w4) (fun i _ => v.keys.length + 1 - (intOf i).toNat)
  case atStart => exact ⟨0, by omega, rfl, rfl⟩
  case round =>
    obtain ⟨k, hkk, rfl, rfl⟩ := hrel
    by_cases hlt : k < v.keys.length
    · obtain ⟨b, off, hbo, hcell⟩ := HKL.out k (by rw [List.length_map]; exact hlt)
      rw [List.getElem_map] at hcell
      have hgood := key_good HK.out (List.getElem_mem hlt)
      generalize v.keys[k] = x at *
      have hxe : (x == []) = false := by simp [hgood.1]
      have hx3 := hgood.2
      clear hgood c8 c9 c10 c12
      rw [hbo] at *
      go_wp2_with fail
      go_roundw
      case rel => exact ⟨k + 1, by omega, by go_num, trivial⟩
      case measure => simp [intOf]; omega
    · obtain rfl : k = v.keys.length := by omega
      clear HKL c8 c9 c10 c12 hlt hkk
      have c0 : wr.cell? ⟨W.heap.size, 0, none⟩ = some (.int .i64 v.kind) := HX.out 0 _ rfl
      have c1 : wr.cell? ⟨W.heap.size, 1, none⟩ = some (.int .i64 v.queue) := HX.out 1 _ rfl
      have c2 : wr.cell? ⟨W.heap.size, 2, none⟩ = some (.int .i64 v.n) := HX.out 2 _ rfl
      have c3 : wr.cell? ⟨W.heap.size, 3, none⟩ = some (.int .i64 v.aat) := HX.out 3 _ rfl
      have c4 : wr.cell? ⟨W.heap.size, 4, none⟩ = some (.int .i64 v.lack) := HX.out 4 _ rfl
      have c5 : wr.cell? ⟨W.heap.size, 5, none⟩ = some (.string (S v.topic)) := HX.out 5 _ rfl
      have c6 : wr.cell? ⟨W.heap.size, 6, none⟩ = some (.string (S v.group)) := HX.out 6 _ rfl
      have c7 : wr.cell? ⟨W.heap.size, 7, none⟩ = some (.string (S v.tag)) := HX.out 7 _ rfl
      have c8 : wr.cell? ⟨W.heap.size, 8, none⟩ = some (.string (S v.key)) := HX.out 8 _ rfl
      have c9 : wr.cell? ⟨W.heap.size, 9, none⟩ = some (.string (S v.body)) := HX.out 9 _ rfl
      have c10 : wr.cell? ⟨W.heap.size, 10, none⟩ = some (.slice s.ka v.keys.length s.kc) := HX.out 10 _ rfl
      have c11 : wr.cell? ⟨W.heap.size, 11, none⟩ = some (.slice s.ta v.tags.length s.tc) := HX.out 11 _ rfl
      have c12 : wr.cell? ⟨W.heap.size, 12, none⟩ = some (.slice s.pa v.keep.length s.pc) := HX.out 12 _ rfl
      have c13 : wr.cell? ⟨W.heap.size, 13, none⟩ = some (.bool v.sync) := HX.out 13 _ rfl
      rw [hk] at c0
      have hdq : ∀ (x : Int), (-9223372036854775808 ≤ x ∧ x ≤ 9223372036854775807) → ∀ (w : World) (n : Nat), Calls Tryz.prog 17 #[.int .i64 x] (w.drewN n) fun e w'' => e = .returned (.string (S (Lib.itoa x))) ∧ ∃ m, w'' = w.drewN m := fun x hx w n => (digits_any x hx.1 hx.2 _).mono fun _ _ h => ⟨h.1, n, h.2⟩
      have HDQ1 := Lib.hid (hdq v.queue HI.out.queue)
      have HDQ2 := Lib.hid (hdq v.n HI.out.n)
      have HDQ3 := Lib.hid (hdq v.aat HI.out.aat)
      have HDQ4 := Lib.hid (hdq v.lack HI.out.lack)
      clear hdq
      have hz := part_sizes HSM.out HI.out HG.out HK.out
      have hz1 := hz.1
      have hz2 := hz.2.1
      have hz3 := hz.2.2.1
      have hz4 := hz.2.2.2.1
      have hz5 := hz.2.2.2.2.1
      have hz6 := hz.2.2.2.2.2.1
      have hz7 := hz.2.2.2.2.2.2.1
      have hz8 := hz.2.2.2.2.2.2.2.1
      have hz9 := hz.2.2.2.2.2.2.2.2
      clear hz
      have HKS : Hid (∀ (n : Nat), Calls Tryz.prog 29 #[.slice s.ka v.keys.length s.kc] (wr.drewN n) fun e w'' => e = .returned (.string (S (keysL v.keys))) ∧ ∃ m, w'' = wr.drewN m) := fun n => quiet_drawn (keys30_any s.ka s.kc v.keys (by have := HP.out.2.2.2.2.2.1; omega) (fun t ht => by have := (key_good HK.out ht).2; omega) _ (HIN.out.keys.below (Drawn.below ⟨n, rfl⟩ _)))
      have HTS : Hid (∀ (w : World) (n : Nat), Calls Tryz.prog 28 #[.string (S v.tag)] (w.drewN n) fun e w'' => e = .returned (.string (S (tagW v))) ∧ ∃ m, w'' = w.drewN m) := fun w n => (tag30_any v.tag _).mono fun _ _ h => ⟨h.1, n, h.2⟩
      have HHB : Hid (∀ (w : World) (n : Nat), Calls Tryz.prog 15 #[.string (S v.body)] (w.drewN n) fun e w'' => e = .returned (.string (S (hexL v.body))) ∧ ∃ m, w'' = w.drewN m) := fun w n => quiet_drawn (LinW.rhex_any v.body (by have := HP.out.2.2.2.1; omega) _)
      clear hsz htl hp1 hp2 hp3 hp4
      generalize hsy0 : v.sync = sy at c13
      cases sy
      all_goals
        go_wp2_with fail
        go_quiet (first | (go_at_call_of 17 (Value.int .i64 v.queue); exact HDQ1.out _ _) | (go_at_call_of 17 (Value.int .i64 v.n); exact HDQ2.out _ _) | (go_at_call_of 17 (Value.int .i64 v.aat); exact HDQ3.out _ _) | (go_at_call_of 17 (Value.int .i64 v.lack); exact HDQ4.out _ _) | (go_at_call 28; exact HTS.out _ _) | (go_at_call 29; exact HKS.out _) | (go_at_call 15; exact HHB.out _ _))
        obtain ⟨wq, hwq⟩ : ∃ wz, wr.drewN nq = wz := ⟨_, rfl⟩
        rw [hwq]
        have hd : Drawn wr wq := ⟨nq, hwq.symm⟩
        have hb := hd.below wr.heap.size
        clear hwq hd c0 c1 c2 c3 c4 c5 c6 c7 c8 c9 c10 c11 c12 c13
        replace HX := Lib.hid (HX.out.below hb)
        replace HIN := Lib.hid (HIN.out.below hb)
        replace HB := Lib.hid (HB.out.trans (hb.mono HB.out.size))
        clear hb
        first
        | rw [send_f hsy0]
        | rw [send_t hsy0]
        have c0 : wq.cell? ⟨W.heap.size, 0, none⟩ = some (.int .i64 v.kind) := HX.out 0 _ rfl
        have c1 : wq.cell? ⟨W.heap.size, 1, none⟩ = some (.int .i64 v.queue) := HX.out 1 _ rfl
        have c3 : wq.cell? ⟨W.heap.size, 3, none⟩ = some (.int .i64 v.aat) := HX.out 3 _ rfl
        have c5 : wq.cell? ⟨W.heap.size, 5, none⟩ = some (.string (S v.topic)) := HX.out 5 _ rfl
        have c6 : wq.cell? ⟨W.heap.size, 6, none⟩ = some (.string (S v.group)) := HX.out 6 _ rfl
        rw [hk] at c0
        go_wp2_with fail
        go_quiet (first | (go_at_call_of 17 (Value.int .i64 v.queue); exact HDQ1.out _ _) | (go_at_call_of 17 (Value.int .i64 v.n); exact HDQ2.out _ _) | (go_at_call_of 17 (Value.int .i64 v.aat); exact HDQ3.out _ _) | (go_at_call_of 17 (Value.int .i64 v.lack); exact HDQ4.out _ _) | (go_at_call 28; exact HTS.out _ _) | (go_at_call 29; exact HKS.out _) | (go_at_call 15; exact HHB.out _ _))
        obtain ⟨wq2, hwq⟩ : ∃ wz, wq.drewN nq = wz := ⟨_, rfl⟩
        rw [hwq]
        have hd : Drawn wq wq2 := ⟨nq, hwq.symm⟩
        have hb := hd.below wq.heap.size
        clear hwq hd c0 c1 c3 c5 c6
        replace HX := Lib.hid (HX.out.below hb)
        replace HIN := Lib.hid (HIN.out.below hb)
        replace HB := Lib.hid (HB.out.trans (hb.mono HB.out.size))
        clear hb
        rw [group_eq v]
        have c0 : wq2.cell? ⟨W.heap.size, 0, none⟩ = some (.int .i64 v.kind) := HX.out 0 _ rfl
        rw [hk] at c0
        go_upto_region 17 with fail
        clear c0
        have HT10 : Hid ((wq2.alloc (.cells #[.int .i64 5, .int .i64 0, .int .i64 0, .int .i64 0, .int .i64 0, .string ⟨#[]⟩, .string ⟨#[]⟩, .string ⟨#[]⟩, .string ⟨#[]⟩, .string ⟨#[]⟩, .slice none 0 0, .slice none 0 0, .slice none 0 0, .bool false] 25)).heap[wq2.heap.size]? = some (.cells ((ev0 5).cells evs0) 25 (0, 0))) := World.alloc_heap_new _ _
        have hb : Below wq2.heap.size wq2 (wq2.alloc (.cells #[.int .i64 5, .int .i64 0, .int .i64 0, .int .i64 0, .int .i64 0, .string ⟨#[]⟩, .string ⟨#[]⟩, .string ⟨#[]⟩, .string ⟨#[]⟩, .string ⟨#[]⟩, .slice none 0 0, .slice none 0 0, .slice none 0 0, .bool false] 25)) := (Below.refl _ _).alloc (Nat.le_refl _) _
        have hB10 : W.heap.size < wq2.heap.size := by have := HX.out 0 _ rfl; exact cell_lt this
        obtain ⟨wA, hwA⟩ : ∃ wA, (wq2.alloc (.cells #[.int .i64 5, .int .i64 0, .int .i64 0, .int .i64 0, .int .i64 0, .string ⟨#[]⟩, .string ⟨#[]⟩, .string ⟨#[]⟩, .string ⟨#[]⟩, .string ⟨#[]⟩, .slice none 0 0, .slice none 0 0, .slice none 0 0, .bool false] 25)) = wA := ⟨_, rfl⟩
        rw [hwA] at HT10 hb ⊢
        generalize hB10e : wq2.heap.size = B10 at HT10 hb hB10 ⊢
        clear hwA
        have HBL := Lib.hid hb
        have HXq := HX
        have HINq := HIN
        have HBq := HB
        have HBE := Lib.hid hB10e
        replace HX := Lib.hid (HX.out.below (hB10e ▸ hb))
        replace HIN := Lib.hid (HIN.out.below (hB10e ▸ hb))
        replace HB := Lib.hid (HB.out.trans (hb.mono (by omega)))
        clear hb hB10e
        have c0 : wA.cell? ⟨W.heap.size, 0, none⟩ = some (.int .i64 v.kind) := HX.out 0 _ rfl
        rw [hk] at c0
        go_upto_region 30 with fail
        clear c0
        have HCN : Hid (∀ w, (LitMap.Sets B10 25 #[.int .i64 5, .int .i64 v.queue, .int .i64 v.n, .int .i64 v.aat, .int .i64 0, .string (S v.topic), .string (S []), .string (S []), .string (S []), .string (S []), .slice none 0 0, .slice s.ta v.tags.length s.tc, .slice none 0 0, .bool false]) wA.drew w → w.cell? ⟨W.heap.size, 5, none⟩ = some (.string (S v.topic)) ∧ w.cell? ⟨W.heap.size, 1, none⟩ = some (.int .i64 v.queue) ∧ w.cell? ⟨W.heap.size, 3, none⟩ = some (.int .i64 v.aat) ∧ w.cell? ⟨W.heap.size, 2, none⟩ = some (.int .i64 v.n) ∧ w.cell? ⟨W.heap.size, 11, none⟩ = some (.slice s.ta v.tags.length s.tc)) := by
          intro w hw
          have hx := HXq.out.below (HBE.out ▸ ((HBL.out.drew).trans hw.below))
          exact ⟨hx 5 _ rfl, hx 1 _ rfl, hx 3 _ rfl, hx 2 _ rfl, hx 11 _ rfl⟩
        have hrow : LitMap.RowAt B10 25 14 wA.drew := ⟨_, HT10.out, rfl⟩
        refine GrowN.wp_region_n 20 [none, some (.inl (.string (S v.topic))), none, some (.inl (.int .i64 v.queue)), none, some (.inl (.int .i64 v.aat)), none, some (.inl (.int .i64 v.n)), none, some (.inl (.slice s.ta v.tags.length s.tc)), none, some (.inr fun _ _ w => LitMap.At B10 25 #[.int .i64 5, .int .i64 v.queue, .int .i64 v.n, .int .i64 v.aat, .int .i64 0, .string (S v.topic), .string (S []), .string (S []), .string (S []), .string (S []), .slice none 0 0, .slice s.ta v.tags.length s.tc, .slice none 0 0, .bool false] 5 w), none, some (.inr fun _ _ w => LitMap.At B10 25 #[.int .i64 5, .int .i64 v.queue, .int .i64 v.n, .int .i64 v.aat, .int .i64 0, .string (S v.topic), .string (S []), .string (S []), .string (S []), .string (S []), .slice none 0 0, .slice s.ta v.tags.length s.tc, .slice none 0 0, .bool false] 1 w), none, some (.inr fun _ _ w => LitMap.At B10 25 #[.int .i64 5, .int .i64 v.queue, .int .i64 v.n, .int .i64 v.aat, .int .i64 0, .string (S v.topic), .string (S []), .string (S []), .string (S []), .string (S []), .slice none 0 0, .slice s.ta v.tags.length s.tc, .slice none 0 0, .bool false] 3 w), none, some (.inr fun _ _ w => LitMap.At B10 25 #[.int .i64 5, .int .i64 v.queue, .int .i64 v.n, .int .i64 v.aat, .int .i64 0, .string (S v.topic), .string (S []), .string (S []), .string (S []), .string (S []), .slice none 0 0, .slice s.ta v.tags.length s.tc, .slice none 0 0, .bool false] 2 w), none, some (.inr fun _ _ w => LitMap.At B10 25 #[.int .i64 5, .int .i64 v.queue, .int .i64 v.n, .int .i64 v.aat, .int .i64 0, .string (S v.topic), .string (S []), .string (S []), .string (S []), .string (S []), .slice none 0 0, .slice s.ta v.tags.length s.tc, .slice none 0 0, .bool false] 11 w)] (LitMap.Sets B10 25 #[.int .i64 5, .int .i64 v.queue, .int .i64 v.n, .int .i64 v.aat, .int .i64 0, .string (S v.topic), .string (S []), .string (S []), .string (S []), .string (S []), .slice none 0 0, .slice s.ta v.tags.length s.tc, .slice none 0 0, .bool false]) (by kernel_rfl) (by kernel_rfl) (by kernel_rfl) (LitMap.Sets.refl _ _ _) (fun _ _ _ => LitMap.Sets.trans) ?_ ?_
        · intro K hK Y hY l u w w' hR h
          simp only [List.mem_cons, List.not_mem_nil, or_false] at hK
          rcases hK with rfl | rfl | rfl | rfl | rfl | rfl | rfl | rfl | rfl | rfl | rfl | rfl | rfl | rfl | rfl | rfl | rfl | rfl | rfl | rfl <;> simp only [reduceCtorEq, Option.some.injEq, Sum.inr.injEq] at hY
          all_goals (subst hY; exact LitMap.At.lasts h hR)
        simp only [List.take_succ_cons, List.take_zero, List.drop_succ_cons, List.drop_zero]
        refine GrowN.g_det rfl ?_
        apply Exists.intro
        refine ⟨fun w hw hF => ?_, ?_⟩
        · clear hF
          go_simp
          exact ⟨rfl, LitMap.Sets.refl _ _ _ _⟩
        simp only [Act.put, List.setIfInBounds_toArray, List.set_cons_zero, List.set_cons_succ]
        refine GrowN.g_con rfl (fun w2 hw hF => ?_) ?_
        · clear hF
          have cf := (HCN.out w2 hw).1
          go_simp
          all_goals exact LitMap.Sets.refl _ _ _ _
        simp only [Act.put, List.setIfInBounds_toArray, List.set_cons_zero, List.set_cons_succ]
        refine GrowN.g_det rfl ?_
        apply Exists.intro
        refine ⟨fun w hw hF => ?_, ?_⟩
        · clear hF
          go_simp
          exact ⟨rfl, LitMap.Sets.refl _ _ _ _⟩
        simp only [Act.put, List.setIfInBounds_toArray, List.set_cons_zero, List.set_cons_succ]
        refine GrowN.g_con rfl (fun w2 hw hF => ?_) ?_
        · clear hF
          have cf := (HCN.out w2 hw).2.1
          go_simp
          all_goals exact LitMap.Sets.refl _ _ _ _
        simp only [Act.put, List.setIfInBounds_toArray, List.set_cons_zero, List.set_cons_succ]
        refine GrowN.g_det rfl ?_
        apply Exists.intro
        refine ⟨fun w hw hF => ?_, ?_⟩
        · clear hF
          go_simp
          exact ⟨rfl, LitMap.Sets.refl _ _ _ _⟩
        simp only [Act.put, List.setIfInBounds_toArray, List.set_cons_zero, List.set_cons_succ]
        refine GrowN.g_con rfl (fun w2 hw hF => ?_) ?_
        · clear hF
          have cf := (HCN.out w2 hw).2.2.1
          go_simp
          all_goals exact LitMap.Sets.refl _ _ _ _
        simp only [Act.put, List.setIfInBounds_toArray, List.set_cons_zero, List.set_cons_succ]
        refine GrowN.g_det rfl ?_
        apply Exists.intro
        refine ⟨fun w hw hF => ?_, ?_⟩
        · clear hF
          go_simp
          exact ⟨rfl, LitMap.Sets.refl _ _ _ _⟩
        simp only [Act.put, List.setIfInBounds_toArray, List.set_cons_zero, List.set_cons_succ]
        refine GrowN.g_con rfl (fun w2 hw hF => ?_) ?_
        · clear hF
          have cf := (HCN.out w2 hw).2.2.2.1
          go_simp
          all_goals exact LitMap.Sets.refl _ _ _ _
        simp only [Act.put, List.setIfInBounds_toArray, List.set_cons_zero, List.set_cons_succ]
        refine GrowN.g_det rfl ?_
        apply Exists.intro
        refine ⟨fun w hw hF => ?_, ?_⟩
        · clear hF
          go_simp
          exact ⟨rfl, LitMap.Sets.refl _ _ _ _⟩
        simp only [Act.put, List.setIfInBounds_toArray, List.set_cons_zero, List.set_cons_succ]
        refine GrowN.g_con rfl (fun w2 hw hF => ?_) ?_
        · clear hF
          have cf := (HCN.out w2 hw).2.2.2.2
          go_simp
          all_goals exact LitMap.Sets.refl _ _ _ _
        simp only [Act.put, List.setIfInBounds_toArray, List.set_cons_zero, List.set_cons_succ]
        refine GrowN.g_det rfl ?_
        apply Exists.intro
        refine ⟨fun w hw hF => ?_, ?_⟩
        · clear hF
          go_simp
          exact ⟨rfl, LitMap.Sets.refl _ _ _ _⟩
        simp only [Act.put, List.setIfInBounds_toArray, List.set_cons_zero, List.set_cons_succ]
        refine GrowN.g_new rfl (fun w2 hw hF => ?_) (fun _ => ?_)
        · clear hF
          obtain ⟨cold, hcold, hfr, hset, hat⟩ := LitMap.Sets.store hw hrow 5 (.string (S v.topic)) rfl
          go_simp
          all_goals exact ⟨hat, hset⟩
        simp only [Act.put, List.setIfInBounds_toArray, List.set_cons_zero, List.set_cons_succ]
        refine GrowN.g_det rfl ?_
        apply Exists.intro
        refine ⟨fun w hw hF => ?_, ?_⟩
        · clear hF
          go_simp
          exact ⟨rfl, LitMap.Sets.refl _ _ _ _⟩
        simp only [Act.put, List.setIfInBounds_toArray, List.set_cons_zero, List.set_cons_succ]
        refine GrowN.g_new rfl (fun w2 hw hF => ?_) (fun _ => ?_)
        · clear hF
          obtain ⟨cold, hcold, hfr, hset, hat⟩ := LitMap.Sets.store hw hrow 1 (.int .i64 v.queue) rfl
          go_simp
          all_goals exact ⟨hat, hset⟩
        simp only [Act.put, List.setIfInBounds_toArray, List.set_cons_zero, List.set_cons_succ]
        refine GrowN.g_det rfl ?_
        apply Exists.intro
        refine ⟨fun w hw hF => ?_, ?_⟩
        · clear hF
          go_simp
          exact ⟨rfl, LitMap.Sets.refl _ _ _ _⟩
        simp only [Act.put, List.setIfInBounds_toArray, List.set_cons_zero, List.set_cons_succ]
        refine GrowN.g_new rfl (fun w2 hw hF => ?_) (fun _ => ?_)
        · clear hF
          obtain ⟨cold, hcold, hfr, hset, hat⟩ := LitMap.Sets.store hw hrow 3 (.int .i64 v.aat) rfl
          go_simp
          all_goals exact ⟨hat, hset⟩
        simp only [Act.put, List.setIfInBounds_toArray, List.set_cons_zero, List.set_cons_succ]
        refine GrowN.g_det rfl ?_
        apply Exists.intro
        refine ⟨fun w hw hF => ?_, ?_⟩
        · clear hF
          go_simp
          exact ⟨rfl, LitMap.Sets.refl _ _ _ _⟩
        simp only [Act.put, List.setIfInBounds_toArray, List.set_cons_zero, List.set_cons_succ]
        refine GrowN.g_new rfl (fun w2 hw hF => ?_) (fun _ => ?_)
        · clear hF
          obtain ⟨cold, hcold, hfr, hset, hat⟩ := LitMap.Sets.store hw hrow 2 (.int .i64 v.n) rfl
          go_simp
          all_goals exact ⟨hat, hset⟩
        simp only [Act.put, List.setIfInBounds_toArray, List.set_cons_zero, List.set_cons_succ]
        refine GrowN.g_det rfl ?_
        apply Exists.intro
        refine ⟨fun w hw hF => ?_, ?_⟩
        · clear hF
          go_simp
          exact ⟨rfl, LitMap.Sets.refl _ _ _ _⟩
        simp only [Act.put, List.setIfInBounds_toArray, List.set_cons_zero, List.set_cons_succ]
        refine GrowN.g_new rfl (fun w2 hw hF => ?_) (fun _ => ?_)
        · clear hF
          obtain ⟨cold, hcold, hfr, hset, hat⟩ := LitMap.Sets.store hw hrow 11 (.slice s.ta v.tags.length s.tc) rfl
          go_simp
          all_goals exact ⟨hat, hset⟩
        simp only [Act.put, List.setIfInBounds_toArray, List.set_cons_zero, List.set_cons_succ]
        refine GrowN.g_nil fun wN hw3 hF => ?_
        refine wpList_nil ?_
        have HTwN : Hid (wN.heap[B10]? = some (.cells #[.int .i64 5, .int .i64 v.queue, .int .i64 v.n, .int .i64 v.aat, .int .i64 0, .string (S v.topic), .string (S []), .string (S []), .string (S []), .string (S []), .slice none 0 0, .slice s.ta v.tags.length s.tc, .slice none 0 0, .bool false] 25 (0, 0))) := LitMap.Sets.done hw3 HT10.out rfl (fun i hi => match i, hi with
          | 0, _ => .inl rfl
          | 1, _ => .inr (hF (13, LitMap.At B10 25 #[.int .i64 5, .int .i64 v.queue, .int .i64 v.n, .int .i64 v.aat, .int .i64 0, .string (S v.topic), .string (S []), .string (S []), .string (S []), .string (S []), .slice none 0 0, .slice s.ta v.tags.length s.tc, .slice none 0 0, .bool false] 1) (by simp only [List.mem_cons, true_or, or_true]))
          | 2, _ => .inr (hF (17, LitMap.At B10 25 #[.int .i64 5, .int .i64 v.queue, .int .i64 v.n, .int .i64 v.aat, .int .i64 0, .string (S v.topic), .string (S []), .string (S []), .string (S []), .string (S []), .slice none 0 0, .slice s.ta v.tags.length s.tc, .slice none 0 0, .bool false] 2) (by simp only [List.mem_cons, true_or, or_true]))
          | 3, _ => .inr (hF (15, LitMap.At B10 25 #[.int .i64 5, .int .i64 v.queue, .int .i64 v.n, .int .i64 v.aat, .int .i64 0, .string (S v.topic), .string (S []), .string (S []), .string (S []), .string (S []), .slice none 0 0, .slice s.ta v.tags.length s.tc, .slice none 0 0, .bool false] 3) (by simp only [List.mem_cons, true_or, or_true]))
          | 4, _ => .inl rfl
          | 5, _ => .inr (hF (11, LitMap.At B10 25 #[.int .i64 5, .int .i64 v.queue, .int .i64 v.n, .int .i64 v.aat, .int .i64 0, .string (S v.topic), .string (S []), .string (S []), .string (S []), .string (S []), .slice none 0 0, .slice s.ta v.tags.length s.tc, .slice none 0 0, .bool false] 5) (by simp only [List.mem_cons, true_or, or_true]))
          | 6, _ => .inl rfl
          | 7, _ => .inl rfl
          | 8, _ => .inl rfl
          | 9, _ => .inl rfl
          | 10, _ => .inl rfl
          | 11, _ => .inr (hF (19, LitMap.At B10 25 #[.int .i64 5, .int .i64 v.queue, .int .i64 v.n, .int .i64 v.aat, .int .i64 0, .string (S v.topic), .string (S []), .string (S []), .string (S []), .string (S []), .slice none 0 0, .slice s.ta v.tags.length s.tc, .slice none 0 0, .bool false] 11) (by simp only [List.mem_cons, true_or, or_true]))
          | 12, _ => .inl rfl
          | 13, _ => .inl rfl
          | i + 14, h => absurd h (by simp))
        have hb : Below B10 wq2 wN := (HBL.out.drew).trans hw3.below
        clear hw3 hF HCN hrow
        replace HX := Lib.hid (HXq.out.below (HBE.out ▸ hb))
        replace HIN := Lib.hid (HINq.out.below (HBE.out ▸ hb))
        replace HB := Lib.hid (HBq.out.trans (hb.mono (Nat.le_of_lt hB10)))
        have HBN := Lib.hid hb
        clear hb HT10 HBL wA
        have HFQ : Hid (∀ (n : Nat), Calls Tryz.prog 30 #[.slice s.ta v.tags.length s.tc] (wN.drewN n) fun e w'' => e = .returned (.string (S (textL v.tags))) ∧ ∃ m, w'' = wN.drewN m) := fun n => quiet_drawn (filt30_any s.ta s.tc v.tags (by have := filt_small (guard_parts HG.out).2.2.1; omega) (fun t ht => by have := (filt_small (guard_parts HG.out).2.2.1).2 t ht; omega) _ (HIN.out.tags.below (Drawn.below ⟨n, rfl⟩ _)))
        have hzf := text_size HG.out
        have c0 : wN.cell? ⟨W.heap.size, 0, none⟩ = some (.int .i64 v.kind) := HX.out 0 _ rfl
        have c1 : wN.cell? ⟨W.heap.size, 1, none⟩ = some (.int .i64 v.queue) := HX.out 1 _ rfl
        have c2 : wN.cell? ⟨W.heap.size, 2, none⟩ = some (.int .i64 v.n) := HX.out 2 _ rfl
        have c3 : wN.cell? ⟨W.heap.size, 3, none⟩ = some (.int .i64 v.aat) := HX.out 3 _ rfl
        have c5 : wN.cell? ⟨W.heap.size, 5, none⟩ = some (.string (S v.topic)) := HX.out 5 _ rfl
        have c11 : wN.cell? ⟨W.heap.size, 11, none⟩ = some (.slice s.ta v.tags.length s.tc) := HX.out 11 _ rfl
        rw [hk] at c0
        go_wp2_with fail
        go_quiet (first | (go_at_call_of 17 (Value.int .i64 v.queue); exact HDQ1.out _ _) | (go_at_call_of 17 (Value.int .i64 v.n); exact HDQ2.out _ _) | (go_at_call_of 17 (Value.int .i64 v.aat); exact HDQ3.out _ _) | (go_at_call 30; exact HFQ.out _))
        have HTN2 : Hid ((wN.drewN nq).heap[B10]? = _) := HTwN.out
        obtain ⟨wA, hwq⟩ : ∃ wz, wN.drewN nq = wz := ⟨_, rfl⟩
        rw [hwq] at HTN2 ⊢
        have hd : Drawn wN wA := ⟨nq, hwq.symm⟩
        have hb := hd.below wN.heap.size
        clear hwq hd c0 c1 c2 c3 c5 c11 HTwN
        replace HX := Lib.hid (HX.out.below hb)
        replace HIN := Lib.hid (HIN.out.below hb)
        replace HB := Lib.hid (HB.out.trans (hb.mono HB.out.size))
        clear hb
        have HTW := HTN2
        clear HTN2
        clear hzf
        clear HXq HINq HBq HBN
        have c0 : wA.cell? ⟨W.heap.size, 0, none⟩ = some (.int .i64 v.kind) := HX.out 0 _ rfl
        rw [hk] at c0
        go_upto_region 56 with fail
        clear c0
        have c0 : wA.cell? ⟨W.heap.size, 0, none⟩ = some (.int .i64 v.kind) := HX.out 0 _ rfl
        have c1 : wA.cell? ⟨W.heap.size, 1, none⟩ = some (.int .i64 v.queue) := HX.out 1 _ rfl
        have c2 : wA.cell? ⟨W.heap.size, 2, none⟩ = some (.int .i64 v.n) := HX.out 2 _ rfl
        have c3 : wA.cell? ⟨W.heap.size, 3, none⟩ = some (.int .i64 v.aat) := HX.out 3 _ rfl
        have c4 : wA.cell? ⟨W.heap.size, 4, none⟩ = some (.int .i64 v.lack) := HX.out 4 _ rfl
        have c5 : wA.cell? ⟨W.heap.size, 5, none⟩ = some (.string (S v.topic)) := HX.out 5 _ rfl
        have c6 : wA.cell? ⟨W.heap.size, 6, none⟩ = some (.string (S v.group)) := HX.out 6 _ rfl
        have c7 : wA.cell? ⟨W.heap.size, 7, none⟩ = some (.string (S v.tag)) := HX.out 7 _ rfl
        have c8 : wA.cell? ⟨W.heap.size, 8, none⟩ = some (.string (S v.key)) := HX.out 8 _ rfl
        have c9 : wA.cell? ⟨W.heap.size, 9, none⟩ = some (.string (S v.body)) := HX.out 9 _ rfl
        have c10 : wA.cell? ⟨W.heap.size, 10, none⟩ = some (.slice s.ka v.keys.length s.kc) := HX.out 10 _ rfl
        have c11 : wA.cell? ⟨W.heap.size, 11, none⟩ = some (.slice s.ta v.tags.length s.tc) := HX.out 11 _ rfl
        have c12 : wA.cell? ⟨W.heap.size, 12, none⟩ = some (.slice s.pa v.keep.length s.pc) := HX.out 12 _ rfl
        have c13 : wA.cell? ⟨W.heap.size, 13, none⟩ = some (.bool v.sync) := HX.out 13 _ rfl
        rw [hk] at c0
        have hz9 := HTW.out
        have d0 : wA.cell? ⟨B10, 0, none⟩ = some (.int .i64 5) := by unfold World.cell?; rw [show wA.heap[(⟨B10, 0, none⟩ : Addr).block]? = _ from hz9]; rfl
        have d1 : wA.cell? ⟨B10, 1, none⟩ = some (.int .i64 v.queue) := by unfold World.cell?; rw [show wA.heap[(⟨B10, 1, none⟩ : Addr).block]? = _ from hz9]; rfl
        have d2 : wA.cell? ⟨B10, 2, none⟩ = some (.int .i64 v.n) := by unfold World.cell?; rw [show wA.heap[(⟨B10, 2, none⟩ : Addr).block]? = _ from hz9]; rfl
        have d3 : wA.cell? ⟨B10, 3, none⟩ = some (.int .i64 v.aat) := by unfold World.cell?; rw [show wA.heap[(⟨B10, 3, none⟩ : Addr).block]? = _ from hz9]; rfl
        have d4 : wA.cell? ⟨B10, 4, none⟩ = some (.int .i64 0) := by unfold World.cell?; rw [show wA.heap[(⟨B10, 4, none⟩ : Addr).block]? = _ from hz9]; rfl
        have d5 : wA.cell? ⟨B10, 5, none⟩ = some (.string (S v.topic)) := by unfold World.cell?; rw [show wA.heap[(⟨B10, 5, none⟩ : Addr).block]? = _ from hz9]; rfl
        have d6 : wA.cell? ⟨B10, 6, none⟩ = some (.string (S [])) := by unfold World.cell?; rw [show wA.heap[(⟨B10, 6, none⟩ : Addr).block]? = _ from hz9]; rfl
        have d7 : wA.cell? ⟨B10, 7, none⟩ = some (.string (S [])) := by unfold World.cell?; rw [show wA.heap[(⟨B10, 7, none⟩ : Addr).block]? = _ from hz9]; rfl
        have d8 : wA.cell? ⟨B10, 8, none⟩ = some (.string (S [])) := by unfold World.cell?; rw [show wA.heap[(⟨B10, 8, none⟩ : Addr).block]? = _ from hz9]; rfl
        have d9 : wA.cell? ⟨B10, 9, none⟩ = some (.string (S [])) := by unfold World.cell?; rw [show wA.heap[(⟨B10, 9, none⟩ : Addr).block]? = _ from hz9]; rfl
        have d10 : wA.cell? ⟨B10, 10, none⟩ = some (.slice none 0 0) := by unfold World.cell?; rw [show wA.heap[(⟨B10, 10, none⟩ : Addr).block]? = _ from hz9]; rfl
        have d11 : wA.cell? ⟨B10, 11, none⟩ = some (.slice s.ta v.tags.length s.tc) := by unfold World.cell?; rw [show wA.heap[(⟨B10, 11, none⟩ : Addr).block]? = _ from hz9]; rfl
        have d12 : wA.cell? ⟨B10, 12, none⟩ = some (.slice none 0 0) := by unfold World.cell?; rw [show wA.heap[(⟨B10, 12, none⟩ : Addr).block]? = _ from hz9]; rfl
        have d13 : wA.cell? ⟨B10, 13, none⟩ = some (.bool false) := by unfold World.cell?; rw [show wA.heap[(⟨B10, 13, none⟩ : Addr).block]? = _ from hz9]; rfl
        clear hz9
        have hwo : EvOk (wantE v 5) := ⟨HSM.out.topic, Nat.zero_le _, Nat.zero_le _, Nat.zero_le _, Nat.zero_le _, Nat.zero_le _, HSM.out.tags, Nat.zero_le _, fun t ht => (by cases ht), HSM.out.tagsz⟩
        have hwi : EvIn wA (wantE v 5) ⟨none, 0, s.ta, s.tc, none, 0⟩ := ⟨fun i hi => absurd hi (Nat.not_lt_zero _), HIN.out.tags, fun i hi => absurd hi (Nat.not_lt_zero _)⟩
        have HSC := Lib.hid (ev_same v (wantE v 5) s ⟨none, 0, s.ta, s.tc, none, 0⟩ HSM.out hwo wA HIN.out hwi)
        rw [show v.cells s = #[.int .i64 5, .int .i64 v.queue, .int .i64 v.n, .int .i64 v.aat, .int .i64 v.lack, .string (S v.topic), .string (S v.group), .string (S v.tag), .string (S v.key), .string (S v.body), .slice s.ka v.keys.length s.kc, .slice s.ta v.tags.length s.tc, .slice s.pa v.keep.length s.pc, .bool v.sync] from by unfold Ev.cells; rw [hk], show Ev.cells (wantE v 5) ⟨none, 0, s.ta, s.tc, none, 0⟩ = #[.int .i64 5, .int .i64 v.queue, .int .i64 v.n, .int .i64 v.aat, .int .i64 0, .string (S v.topic), .string (S []), .string (S []), .string (S []), .string (S []), .slice none 0 0, .slice s.ta v.tags.length s.tc, .slice none 0 0, .bool false] from rfl] at HSC
        rw [hsy0] at HSC
        clear hwo hwi
        go_wp2_with fail
        refine HSC.out.mono ?_
        rintro e wB ⟨rfl, hb⟩
        clear c0 c1 c2 c3 c4 c5 c6 c7 c8 c9 c10 c11 c12 c13 d0 d1 d2 d3 d4 d5 d6 d7 d8 d9 d10 d11 d12 d13 HSC HTW
        replace HX := Lib.hid (HX.out.below hb)
        replace HIN := Lib.hid (HIN.out.below hb)
        replace HB := Lib.hid (HB.out.trans (hb.mono HB.out.size))
        clear hb
        have HC : Hid (condB v 5 = (sameE v (wantE v 5) && topicL v.topic && true)) := by show _ = _; unfold condB; rfl
        generalize sameE v (wantE v 5) = sb at *
        cases sb with
        | false =>
          have HT : Hid (RR = []) := by show _ = _; rw [← HRR.out, HC.out]; rfl
          have c0 : wB.cell? ⟨W.heap.size, 0, none⟩ = some (.int .i64 v.kind) := HX.out 0 _ rfl
          have c5 : wB.cell? ⟨W.heap.size, 5, none⟩ = some (.string (S v.topic)) := HX.out 5 _ rfl
          have c6 : wB.cell? ⟨W.heap.size, 6, none⟩ = some (.string (S v.group)) := HX.out 6 _ rfl
          rw [hk] at c0
          go_wp2_with fail
          go_ret
          rw [HT.out]
          exact ⟨rfl, HB.out⟩
        | true =>
          have c0 : wB.cell? ⟨W.heap.size, 0, none⟩ = some (.int .i64 v.kind) := HX.out 0 _ rfl
          have c5 : wB.cell? ⟨W.heap.size, 5, none⟩ = some (.string (S v.topic)) := HX.out 5 _ rfl
          have c6 : wB.cell? ⟨W.heap.size, 6, none⟩ = some (.string (S v.group)) := HX.out 6 _ rfl
          rw [hk] at c0
          have HTP := Lib.hid (fun w => NameW.rtopic_any v.topic (by have := HSM.out.topic; omega) w)
          generalize topicL v.topic = tb at *
          go_wp2_with fail
          refine (HTP.out _).mono ?_
          rintro e wC ⟨rfl, hd⟩
          have hb := hd.below wB.heap.size
          clear hd c0 c5 c6 HTP
          replace HX := Lib.hid (HX.out.below hb)
          replace HIN := Lib.hid (HIN.out.below hb)
          replace HB := Lib.hid (HB.out.trans (hb.mono HB.out.size))
          clear hb
          have c0 : wC.cell? ⟨W.heap.size, 0, none⟩ = some (.int .i64 v.kind) := HX.out 0 _ rfl
          have c5 : wC.cell? ⟨W.heap.size, 5, none⟩ = some (.string (S v.topic)) := HX.out 5 _ rfl
          have c6 : wC.cell? ⟨W.heap.size, 6, none⟩ = some (.string (S v.group)) := HX.out 6 _ rfl
          rw [hk] at c0
          cases tb with
          | false =>
            have HT : Hid (RR = []) := by show _ = _; rw [← HRR.out, HC.out]; rfl
            go_wp2_with fail
            go_ret
            rw [HT.out]
            exact ⟨rfl, HB.out⟩
          | true =>
            have HT : Hid (S RR = S (lineS v 5)) := by show _ = _; rw [← HRR.out, HC.out]; rfl
            go_wp2_with fail
            go_ret
            rw [HT.out]
            exact ⟨rfl, HB.out⟩

        skip
end Go.Proofs.YtadhkeboaapfcaaGreatDoor.EvW
