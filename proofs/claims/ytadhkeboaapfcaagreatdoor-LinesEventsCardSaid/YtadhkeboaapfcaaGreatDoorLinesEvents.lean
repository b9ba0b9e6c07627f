/- The statement LinesEvents: any event has the line that the document says, or none, and is read of it; any text is an event's line, or none's. No condition. -/
import Derived.Test.YtadhkeboaapfcaaGreatDoorAwake
import Derived.Test.YtadhkeboaapfcaaGreatDoorOpenEv
import Derived.Test.YtadhkeboaapfcaaGreatDoorGreat
import Derived.Test.YtadhkeboaapfcaaGreatDoorLine
import Derived.Test.YtadhkeboaapfcaaGreatDoorCards
import Derived.Test.YtadhkeboaapfcaaGreatDoorTie
import Derived.SevenTiedAt
namespace Go.Proofs.YtadhkeboaapfcaaGreatDoor.linesEvents
open Go.ChangeShapes Go.WideShapes Go.ChangeAt Go.RowKit OctMath NameMath HexMath EvW
set_option maxRecDepth 100000
set_option linter.unusedSimpArgs false
set_option linter.unusedVariables false

/-! the plain law -/
theorem event_len {v : Ev} (h : Small v) (hi : EvI v) : (eventL v).length ≤ 100000 := by
  rw [← line_event]
  unfold lineL
  split
  · simp
  rename_i hkk
  split
  · rename_i hg
    rw [Bool.and_eq_true] at hg
    split
    · obtain ⟨h1, h2, h3, h4, h5, h6, h7, h8, h9⟩ := part_sizes h.ok hi hg.1 (by simpa using hg.2)
      have ht := text_size hg.1
      have hbt := bits_size hg.1
      have hhk := hexk_size hg.1
      rw [S_size] at h3 h4 h5 h6 h7 h8 h9 ht hbt hhk
      have hs : (syncL v).length ≤ 5 := by unfold syncL; split <;> simp
      have hT : (if v.tag.isEmpty then [46] else v.tag).length ≤ 101 := h7
      have hp := h.topic
      have hq := h.group
      have hsend : (sendL v).length ≤ 60000 := by
        unfold sendL
        simp only [List.length_append, List.length_cons, List.length_nil]
        omega
      have hgr : (groupT v).length ≤ 1000 := by
        unfold groupT
        simp only [List.length_append, List.length_cons, List.length_nil]
        omega
      rcases kinds v.kind.toNat (by omega) (by omega) with e | e | e | e | e | e | e | e | e | e | e | e | e | e | e <;> rw [e] <;> unfold lineS <;> simp only [List.length_append, List.length_cons, List.length_nil] <;> omega
    · simp
  · simp
theorem parse_none : parseL [] = (ev0 0, 4) := rfl
theorem parse_event (v : Ev) (h : eventL v ≠ []) : parseL (eventL v) = (v, 0) := by
  unfold parseL
  rw [read_event v h, if_neg (fun h1 => h1.elim h (fun h2 => h2 rfl))]
theorem same_self (v : Ev) : sameE v v = true := (same_true v v).2 rfl
theorem evok0 : EvOk (ev0 0) := ⟨Nat.zero_le _, Nat.zero_le _, Nat.zero_le _, Nat.zero_le _, Nat.zero_le _, Nat.zero_le _, Nat.zero_le _, Nat.zero_le _, fun t ht => (by cases ht), fun t ht => (by cases ht)⟩
theorem evin0 (w : World) : EvIn w (ev0 0) evs0 := ⟨fun i hi => absurd hi (Nat.not_lt_zero _), fun i hi => absurd hi (Nat.not_lt_zero _), fun i hi => absurd hi (Nat.not_lt_zero _)⟩

set_option maxHeartbeats 12800000 in
theorem law (W : World) (v : Ev) (s : EvS) (l : List UInt8) (hlm : l.length ≤ 140737488351232) (hin : EvIn W v s) (hi : EvI v) (hcap : v.tags.length ≤ s.tc) (henv : Env W) :
    Calls Tryz.prog 3 #[.agg (v.cells s), .string (S l)] W fun e w' => e = .returned (.bool true) ∧ Below W.heap.size W w' := by
  have HI := Lib.hid hi
  have hsz := S_size
  have hcv : (v.cells s).size = 14 := rfl
  have HB : Hid (Below W.heap.size W (W.alloc (.cells (v.cells s) 25))) := (Below.refl _ W).alloc (Nat.le_refl _) _
  have HIN := Lib.hid (hin.below HB.out)
  have HE := Lib.hid (henv.below HB.out)
  have HX : Hid (EvW.Boxed (W.alloc (.cells (v.cells s) 25)) W.heap.size (v.cells s)) := EvW.Boxed.new W _ _
  clear hin hi henv
  go_enter Tryz.func3, Tryz.ntmps3
  go_upto_region 1 with fail
  generalize (W.alloc (.cells (v.cells s) 25)) = w0 at *
  clear hcv
  go_wp2_with fail
  refine (awake_any _ HE.out).mono ?_
  rintro e w1 ⟨rfl, hb⟩
  replace HX := Lib.hid (HX.out.below hb)
  replace HIN := Lib.hid (HIN.out.below hb)
  replace HE := Lib.hid (HE.out.below hb)
  replace HB := Lib.hid (HB.out.trans (hb.mono HB.out.size))
  clear hb
  have c0 : w1.cell? ⟨W.heap.size, 0, none⟩ = some (.int .i64 v.kind) := HX.out 0 _ rfl
  have c1 : w1.cell? ⟨W.heap.size, 1, none⟩ = some (.int .i64 v.queue) := HX.out 1 _ rfl
  have c2 : w1.cell? ⟨W.heap.size, 2, none⟩ = some (.int .i64 v.n) := HX.out 2 _ rfl
  have c3 : w1.cell? ⟨W.heap.size, 3, none⟩ = some (.int .i64 v.aat) := HX.out 3 _ rfl
  have c4 : w1.cell? ⟨W.heap.size, 4, none⟩ = some (.int .i64 v.lack) := HX.out 4 _ rfl
  have c5 : w1.cell? ⟨W.heap.size, 5, none⟩ = some (.string (S v.topic)) := HX.out 5 _ rfl
  have c6 : w1.cell? ⟨W.heap.size, 6, none⟩ = some (.string (S v.group)) := HX.out 6 _ rfl
  have c7 : w1.cell? ⟨W.heap.size, 7, none⟩ = some (.string (S v.tag)) := HX.out 7 _ rfl
  have c8 : w1.cell? ⟨W.heap.size, 8, none⟩ = some (.string (S v.key)) := HX.out 8 _ rfl
  have c9 : w1.cell? ⟨W.heap.size, 9, none⟩ = some (.string (S v.body)) := HX.out 9 _ rfl
  have c10 : w1.cell? ⟨W.heap.size, 10, none⟩ = some (.slice s.ka v.keys.length s.kc) := HX.out 10 _ rfl
  have c11 : w1.cell? ⟨W.heap.size, 11, none⟩ = some (.slice s.ta v.tags.length s.tc) := HX.out 11 _ rfl
  have c12 : w1.cell? ⟨W.heap.size, 12, none⟩ = some (.slice s.pa v.keep.length s.pc) := HX.out 12 _ rfl
  have c13 : w1.cell? ⟨W.heap.size, 13, none⟩ = some (.bool v.sync) := HX.out 13 _ rfl
  go_wp2_with fail
  clear c0 c1 c2 c3 c4 c5 c6 c7 c8 c9 c10 c11 c12 c13
  refine (great_any v s _ HIN.out).mono ?_
  rintro e w2 ⟨he, hb⟩
  replace HX := Lib.hid (HX.out.below hb)
  replace HIN := Lib.hid (HIN.out.below hb)
  replace HE := Lib.hid (HE.out.below hb)
  replace HB := Lib.hid (HB.out.trans (hb.mono HB.out.size))
  clear hb
  rcases he with ⟨rfl, hsm⟩ | rfl
  case' inr =>
    go_wp2_with fail
    go_ret
    exact ⟨rfl, HB.out⟩
  have HSM := Lib.hid hsm
  clear hsm
  by_cases h3 : 3000 < l.length
  · have h3d : decide (3000 < (l.length : Int)) = true := decide_eq_true (by omega)
    go_wp2_with fail
    go_ret
    exact ⟨rfl, HB.out⟩
  have h3d : decide (3000 < (l.length : Int)) = false := decide_eq_false (by omega)
  have c0 : w2.cell? ⟨W.heap.size, 0, none⟩ = some (.int .i64 v.kind) := HX.out 0 _ rfl
  have c1 : w2.cell? ⟨W.heap.size, 1, none⟩ = some (.int .i64 v.queue) := HX.out 1 _ rfl
  have c2 : w2.cell? ⟨W.heap.size, 2, none⟩ = some (.int .i64 v.n) := HX.out 2 _ rfl
  have c3 : w2.cell? ⟨W.heap.size, 3, none⟩ = some (.int .i64 v.aat) := HX.out 3 _ rfl
  have c4 : w2.cell? ⟨W.heap.size, 4, none⟩ = some (.int .i64 v.lack) := HX.out 4 _ rfl
  have c5 : w2.cell? ⟨W.heap.size, 5, none⟩ = some (.string (S v.topic)) := HX.out 5 _ rfl
  have c6 : w2.cell? ⟨W.heap.size, 6, none⟩ = some (.string (S v.group)) := HX.out 6 _ rfl
  have c7 : w2.cell? ⟨W.heap.size, 7, none⟩ = some (.string (S v.tag)) := HX.out 7 _ rfl
  have c8 : w2.cell? ⟨W.heap.size, 8, none⟩ = some (.string (S v.key)) := HX.out 8 _ rfl
  have c9 : w2.cell? ⟨W.heap.size, 9, none⟩ = some (.string (S v.body)) := HX.out 9 _ rfl
  have c10 : w2.cell? ⟨W.heap.size, 10, none⟩ = some (.slice s.ka v.keys.length s.kc) := HX.out 10 _ rfl
  have c11 : w2.cell? ⟨W.heap.size, 11, none⟩ = some (.slice s.ta v.tags.length s.tc) := HX.out 11 _ rfl
  have c12 : w2.cell? ⟨W.heap.size, 12, none⟩ = some (.slice s.pa v.keep.length s.pc) := HX.out 12 _ rfl
  have c13 : w2.cell? ⟨W.heap.size, 13, none⟩ = some (.bool v.sync) := HX.out 13 _ rfl
  go_wp2_with fail
  clear c0 c1 c2 c3 c4 c5 c6 c7 c8 c9 c10 c11 c12 c13 h3d
  refine (event_any v s HSM.out.ok HI.out _ HIN.out HE.out.tab).mono ?_
  rintro e w3 ⟨rfl, hb⟩
  replace HX := Lib.hid (HX.out.below hb)
  replace HIN := Lib.hid (HIN.out.below hb)
  replace HE := Lib.hid (HE.out.below hb)
  replace HB := Lib.hid (HB.out.trans (hb.mono HB.out.size))
  clear hb
  have HLN := Lib.hid (line_any v s HSM.out.ok HI.out _ HIN.out hcap)
  rw [line_event] at HLN
  have HPT := Lib.hid (fun w h => parse_any (eventL v) (event_len HSM.out HI.out) w h)
  have HPL := Lib.hid (fun w h => parse_any l (by omega) w h)
  have HPS : Hid ((parseL l = (ev0 0, 4)) ∨ (parseL l = (readL l, 0) ∧ l ≠ [] ∧ eventL (readL l) = l)) := by
    show _ ∨ _
    unfold parseL
    by_cases hp : l = [] ∨ eventL (readL l) ≠ l
    · rw [if_pos hp]; exact .inl rfl
    · rw [if_neg hp]; exact .inr ⟨rfl, fun h => hp (.inl h), Classical.not_not.1 fun h => hp (.inr h)⟩
  have HGR := Lib.hid (good_read l (by omega))
  have htl := fun t => NameW.S_toList t
  have c0 : w3.cell? ⟨W.heap.size, 0, none⟩ = some (.int .i64 v.kind) := HX.out 0 _ rfl
  have c1 : w3.cell? ⟨W.heap.size, 1, none⟩ = some (.int .i64 v.queue) := HX.out 1 _ rfl
  have c2 : w3.cell? ⟨W.heap.size, 2, none⟩ = some (.int .i64 v.n) := HX.out 2 _ rfl
  have c3 : w3.cell? ⟨W.heap.size, 3, none⟩ = some (.int .i64 v.aat) := HX.out 3 _ rfl
  have c4 : w3.cell? ⟨W.heap.size, 4, none⟩ = some (.int .i64 v.lack) := HX.out 4 _ rfl
  have c5 : w3.cell? ⟨W.heap.size, 5, none⟩ = some (.string (S v.topic)) := HX.out 5 _ rfl
  have c6 : w3.cell? ⟨W.heap.size, 6, none⟩ = some (.string (S v.group)) := HX.out 6 _ rfl
  have c7 : w3.cell? ⟨W.heap.size, 7, none⟩ = some (.string (S v.tag)) := HX.out 7 _ rfl
  have c8 : w3.cell? ⟨W.heap.size, 8, none⟩ = some (.string (S v.key)) := HX.out 8 _ rfl
  have c9 : w3.cell? ⟨W.heap.size, 9, none⟩ = some (.string (S v.body)) := HX.out 9 _ rfl
  have c10 : w3.cell? ⟨W.heap.size, 10, none⟩ = some (.slice s.ka v.keys.length s.kc) := HX.out 10 _ rfl
  have c11 : w3.cell? ⟨W.heap.size, 11, none⟩ = some (.slice s.ta v.tags.length s.tc) := HX.out 11 _ rfl
  have c12 : w3.cell? ⟨W.heap.size, 12, none⟩ = some (.slice s.pa v.keep.length s.pc) := HX.out 12 _ rfl
  have c13 : w3.cell? ⟨W.heap.size, 13, none⟩ = some (.bool v.sync) := HX.out 13 _ rfl
  by_cases h0 : eventL v = []
  · rw [h0] at HPT HLN ⊢
    rw [parse_none] at HPT
    clear h0
    go_wp2_with fail
    refine HLN.out.mono ?_
    rintro e w4 ⟨rfl, hb⟩
    clear c0 c1 c2 c3 c4 c5 c6 c7 c8 c9 c10 c11 c12 c13 HLN
    replace HX := Lib.hid (HX.out.below hb)
    replace HIN := Lib.hid (HIN.out.below hb)
    replace HE := Lib.hid (HE.out.below hb)
    replace HB := Lib.hid (HB.out.trans (hb.mono HB.out.size))
    clear hb
    go_wp2_with fail
    refine (HPT.out _ HE.out).mono ?_
    rintro e w5 ⟨s1, rfl, hin1, _, hb⟩
    clear HPT
    replace HX := Lib.hid (HX.out.below hb)
    replace HIN := Lib.hid (HIN.out.below hb)
    replace HE := Lib.hid (HE.out.below hb)
    replace HB := Lib.hid (HB.out.trans (hb.mono HB.out.size))
    clear hb
    rw [show Ev.cells (ev0 0) s1 = #[.int .i64 0, .int .i64 0, .int .i64 0, .int .i64 0, .int .i64 0, .string (S []), .string (S []), .string (S []), .string (S []), .string (S []), .slice s1.ka 0 s1.kc, .slice s1.ta 0 s1.tc, .slice s1.pa 0 s1.pc, .bool false] from rfl]
    have hb : Below w5.heap.size w5 (w5.alloc (.cells #[.int .i64 0, .int .i64 0, .int .i64 0, .int .i64 0, .int .i64 0, .string (S []), .string (S []), .string (S []), .string (S []), .string (S []), .slice s1.ka 0 s1.kc, .slice s1.ta 0 s1.tc, .slice s1.pa 0 s1.pc, .bool false] 25)) := (Below.refl _ _).alloc (Nat.le_refl _) _
    clear hin1
    replace HX := Lib.hid (HX.out.below hb)
    replace HIN := Lib.hid (HIN.out.below hb)
    replace HE := Lib.hid (HE.out.below hb)
    replace HB := Lib.hid (HB.out.trans (hb.mono HB.out.size))
    clear hb
    go_wp2_with fail
    rcases HPS.out with hps | ⟨hps, hl0, hel⟩
    · rw [hps] at HPL
      clear hps HPS HGR HIN HX
      refine (HPL.out _ HE.out).mono ?_
      rintro e w8 ⟨s2, rfl, hin2, _, hb⟩
      replace HB := Lib.hid (HB.out.trans (hb.mono HB.out.size))
      clear hb HPL HE
      rw [show Ev.cells (ev0 0) s2 = #[.int .i64 0, .int .i64 0, .int .i64 0, .int .i64 0, .int .i64 0, .string (S []), .string (S []), .string (S []), .string (S []), .string (S []), .slice s2.ka 0 s2.kc, .slice s2.ta 0 s2.tc, .slice s2.pa 0 s2.pc, .bool false] from rfl]
      have hx2 : Below w8.heap.size w8 (w8.alloc (.cells #[.int .i64 0, .int .i64 0, .int .i64 0, .int .i64 0, .int .i64 0, .string (S []), .string (S []), .string (S []), .string (S []), .string (S []), .slice s2.ka 0 s2.kc, .slice s2.ta 0 s2.tc, .slice s2.pa 0 s2.pc, .bool false] 25)) := (Below.refl _ _).alloc (Nat.le_refl _) _
      have HSC := Lib.hid (ev_same (ev0 0) (ev0 0) s2 evs0 evok0 evok0 _ (hin2.below hx2) (evin0 _))
      rw [same_self, show Ev.cells (ev0 0) s2 = #[.int .i64 0, .int .i64 0, .int .i64 0, .int .i64 0, .int .i64 0, .string (S []), .string (S []), .string (S []), .string (S []), .string (S []), .slice s2.ka 0 s2.kc, .slice s2.ta 0 s2.tc, .slice s2.pa 0 s2.pc, .bool false] from rfl, show Ev.cells (ev0 0) evs0 = #[.int .i64 0, .int .i64 0, .int .i64 0, .int .i64 0, .int .i64 0, .string ⟨#[]⟩, .string ⟨#[]⟩, .string ⟨#[]⟩, .string ⟨#[]⟩, .string ⟨#[]⟩, .slice none 0 0, .slice none 0 0, .slice none 0 0, .bool false] from rfl] at HSC
      replace HB := Lib.hid (HB.out.trans (hx2.mono HB.out.size))
      clear hx2 hin2
      go_wp2_with fail
      refine HSC.out.mono ?_
      rintro e w9 ⟨rfl, hb⟩
      replace HB := Lib.hid (HB.out.trans (hb.mono HB.out.size))
      clear hb HSC
      go_wp2_with fail
      go_ret
      exact ⟨rfl, HB.out⟩
    · rw [hps] at HPL
      clear hps HPS HIN HX
      have HLE := Lib.hid (fun s w h1 h2 => line_any (readL l) s HGR.out.ok HGR.out.ints w h1 h2)
      rw [line_event, hel] at HLE
      have hle : l.isEmpty = false := by
        cases l with
        | nil => exact absurd rfl hl0
        | cons _ _ => rfl
      clear HGR hel
      generalize readL l = y at *
      refine (HPL.out _ HE.out).mono ?_
      rintro e w8 ⟨s2, rfl, hin2, hcap2, hb⟩
      replace HB := Lib.hid (HB.out.trans (hb.mono HB.out.size))
      clear hb HPL HE
      rw [show Ev.cells y s2 = #[.int .i64 y.kind, .int .i64 y.queue, .int .i64 y.n, .int .i64 y.aat, .int .i64 y.lack, .string (S y.topic), .string (S y.group), .string (S y.tag), .string (S y.key), .string (S y.body), .slice s2.ka y.keys.length s2.kc, .slice s2.ta y.tags.length s2.tc, .slice s2.pa y.keep.length s2.pc, .bool y.sync] from rfl]
      have hx2 : Below w8.heap.size w8 (w8.alloc (.cells #[.int .i64 y.kind, .int .i64 y.queue, .int .i64 y.n, .int .i64 y.aat, .int .i64 y.lack, .string (S y.topic), .string (S y.group), .string (S y.tag), .string (S y.key), .string (S y.body), .slice s2.ka y.keys.length s2.kc, .slice s2.ta y.tags.length s2.tc, .slice s2.pa y.keep.length s2.pc, .bool y.sync] 25)) := (Below.refl _ _).alloc (Nat.le_refl _) _
      have HSC := Lib.hid (HLE.out s2 _ (hin2.below hx2) hcap2)
      rw [show Ev.cells y s2 = #[.int .i64 y.kind, .int .i64 y.queue, .int .i64 y.n, .int .i64 y.aat, .int .i64 y.lack, .string (S y.topic), .string (S y.group), .string (S y.tag), .string (S y.key), .string (S y.body), .slice s2.ka y.keys.length s2.kc, .slice s2.ta y.tags.length s2.tc, .slice s2.pa y.keep.length s2.pc, .bool y.sync] from rfl] at HSC
      replace HB := Lib.hid (HB.out.trans (hx2.mono HB.out.size))
      clear hx2 hin2 HLE hcap2
      go_wp2_with fail
      refine HSC.out.mono ?_
      rintro e w9 ⟨rfl, hb⟩
      replace HB := Lib.hid (HB.out.trans (hb.mono HB.out.size))
      clear hb HSC
      go_wp2_with fail
      go_ret
      exact ⟨rfl, HB.out⟩
  · rw [parse_event v h0] at HPT
    have h0s : (eventL v).isEmpty = false := by
      cases h : eventL v with
      | nil => exact absurd h h0
      | cons _ _ => rfl
    generalize eventL v = t at *
    go_wp2_with fail
    refine HLN.out.mono ?_
    rintro e w4 ⟨rfl, hb⟩
    clear c0 c1 c2 c3 c4 c5 c6 c7 c8 c9 c10 c11 c12 c13 HLN
    replace HX := Lib.hid (HX.out.below hb)
    replace HIN := Lib.hid (HIN.out.below hb)
    replace HE := Lib.hid (HE.out.below hb)
    replace HB := Lib.hid (HB.out.trans (hb.mono HB.out.size))
    clear hb
    go_wp2_with fail
    refine (HPT.out _ HE.out).mono ?_
    rintro e w5 ⟨s1, rfl, hin1, _, hb⟩
    clear HPT
    replace HX := Lib.hid (HX.out.below hb)
    replace HIN := Lib.hid (HIN.out.below hb)
    replace HE := Lib.hid (HE.out.below hb)
    replace HB := Lib.hid (HB.out.trans (hb.mono HB.out.size))
    clear hb
    rw [show Ev.cells v s1 = #[.int .i64 v.kind, .int .i64 v.queue, .int .i64 v.n, .int .i64 v.aat, .int .i64 v.lack, .string (S v.topic), .string (S v.group), .string (S v.tag), .string (S v.key), .string (S v.body), .slice s1.ka v.keys.length s1.kc, .slice s1.ta v.tags.length s1.tc, .slice s1.pa v.keep.length s1.pc, .bool v.sync] from rfl]
    have hb : Below w5.heap.size w5 (w5.alloc (.cells #[.int .i64 v.kind, .int .i64 v.queue, .int .i64 v.n, .int .i64 v.aat, .int .i64 v.lack, .string (S v.topic), .string (S v.group), .string (S v.tag), .string (S v.key), .string (S v.body), .slice s1.ka v.keys.length s1.kc, .slice s1.ta v.tags.length s1.tc, .slice s1.pa v.keep.length s1.pc, .bool v.sync] 25)) := (Below.refl _ _).alloc (Nat.le_refl _) _
    have HIN1 := Lib.hid (hin1.below hb)
    have HX1 : Hid (EvW.Boxed (w5.alloc (.cells #[.int .i64 v.kind, .int .i64 v.queue, .int .i64 v.n, .int .i64 v.aat, .int .i64 v.lack, .string (S v.topic), .string (S v.group), .string (S v.tag), .string (S v.key), .string (S v.body), .slice s1.ka v.keys.length s1.kc, .slice s1.ta v.tags.length s1.tc, .slice s1.pa v.keep.length s1.pc, .bool v.sync] 25)) w5.heap.size (v.cells s1)) := EvW.Boxed.new w5 _ _
    clear hin1
    replace HX := Lib.hid (HX.out.below hb)
    replace HIN := Lib.hid (HIN.out.below hb)
    replace HE := Lib.hid (HE.out.below hb)
    replace HB := Lib.hid (HB.out.trans (hb.mono HB.out.size))
    clear hb
    go_upto_region 9 with fail
    generalize hC : w5.heap.size = C at *
    generalize hw6 : (w5.alloc (.cells #[.int .i64 v.kind, .int .i64 v.queue, .int .i64 v.n, .int .i64 v.aat, .int .i64 v.lack, .string (S v.topic), .string (S v.group), .string (S v.tag), .string (S v.key), .string (S v.body), .slice s1.ka v.keys.length s1.kc, .slice s1.ta v.tags.length s1.tc, .slice s1.pa v.keep.length s1.pc, .bool v.sync] 25)) = w6 at *
    clear hC hw6
    have c0 : w6.cell? ⟨W.heap.size, 0, none⟩ = some (.int .i64 v.kind) := HX.out 0 _ rfl
    have c1 : w6.cell? ⟨W.heap.size, 1, none⟩ = some (.int .i64 v.queue) := HX.out 1 _ rfl
    have c2 : w6.cell? ⟨W.heap.size, 2, none⟩ = some (.int .i64 v.n) := HX.out 2 _ rfl
    have c3 : w6.cell? ⟨W.heap.size, 3, none⟩ = some (.int .i64 v.aat) := HX.out 3 _ rfl
    have c4 : w6.cell? ⟨W.heap.size, 4, none⟩ = some (.int .i64 v.lack) := HX.out 4 _ rfl
    have c5 : w6.cell? ⟨W.heap.size, 5, none⟩ = some (.string (S v.topic)) := HX.out 5 _ rfl
    have c6 : w6.cell? ⟨W.heap.size, 6, none⟩ = some (.string (S v.group)) := HX.out 6 _ rfl
    have c7 : w6.cell? ⟨W.heap.size, 7, none⟩ = some (.string (S v.tag)) := HX.out 7 _ rfl
    have c8 : w6.cell? ⟨W.heap.size, 8, none⟩ = some (.string (S v.key)) := HX.out 8 _ rfl
    have c9 : w6.cell? ⟨W.heap.size, 9, none⟩ = some (.string (S v.body)) := HX.out 9 _ rfl
    have c10 : w6.cell? ⟨W.heap.size, 10, none⟩ = some (.slice s.ka v.keys.length s.kc) := HX.out 10 _ rfl
    have c11 : w6.cell? ⟨W.heap.size, 11, none⟩ = some (.slice s.ta v.tags.length s.tc) := HX.out 11 _ rfl
    have c12 : w6.cell? ⟨W.heap.size, 12, none⟩ = some (.slice s.pa v.keep.length s.pc) := HX.out 12 _ rfl
    have c13 : w6.cell? ⟨W.heap.size, 13, none⟩ = some (.bool v.sync) := HX.out 13 _ rfl
    have d0 : w6.cell? ⟨C, 0, none⟩ = some (.int .i64 v.kind) := HX1.out 0 _ rfl
    have d1 : w6.cell? ⟨C, 1, none⟩ = some (.int .i64 v.queue) := HX1.out 1 _ rfl
    have d2 : w6.cell? ⟨C, 2, none⟩ = some (.int .i64 v.n) := HX1.out 2 _ rfl
    have d3 : w6.cell? ⟨C, 3, none⟩ = some (.int .i64 v.aat) := HX1.out 3 _ rfl
    have d4 : w6.cell? ⟨C, 4, none⟩ = some (.int .i64 v.lack) := HX1.out 4 _ rfl
    have d5 : w6.cell? ⟨C, 5, none⟩ = some (.string (S v.topic)) := HX1.out 5 _ rfl
    have d6 : w6.cell? ⟨C, 6, none⟩ = some (.string (S v.group)) := HX1.out 6 _ rfl
    have d7 : w6.cell? ⟨C, 7, none⟩ = some (.string (S v.tag)) := HX1.out 7 _ rfl
    have d8 : w6.cell? ⟨C, 8, none⟩ = some (.string (S v.key)) := HX1.out 8 _ rfl
    have d9 : w6.cell? ⟨C, 9, none⟩ = some (.string (S v.body)) := HX1.out 9 _ rfl
    have d10 : w6.cell? ⟨C, 10, none⟩ = some (.slice s1.ka v.keys.length s1.kc) := HX1.out 10 _ rfl
    have d11 : w6.cell? ⟨C, 11, none⟩ = some (.slice s1.ta v.tags.length s1.tc) := HX1.out 11 _ rfl
    have d12 : w6.cell? ⟨C, 12, none⟩ = some (.slice s1.pa v.keep.length s1.pc) := HX1.out 12 _ rfl
    have d13 : w6.cell? ⟨C, 13, none⟩ = some (.bool v.sync) := HX1.out 13 _ rfl
    have HSM1 := Lib.hid (ev_same v v s1 s HSM.out.ok HSM.out.ok _ HIN1.out HIN.out)
    rw [same_self, show Ev.cells v s1 = #[.int .i64 v.kind, .int .i64 v.queue, .int .i64 v.n, .int .i64 v.aat, .int .i64 v.lack, .string (S v.topic), .string (S v.group), .string (S v.tag), .string (S v.key), .string (S v.body), .slice s1.ka v.keys.length s1.kc, .slice s1.ta v.tags.length s1.tc, .slice s1.pa v.keep.length s1.pc, .bool v.sync] from rfl, show Ev.cells v s = #[.int .i64 v.kind, .int .i64 v.queue, .int .i64 v.n, .int .i64 v.aat, .int .i64 v.lack, .string (S v.topic), .string (S v.group), .string (S v.tag), .string (S v.key), .string (S v.body), .slice s.ka v.keys.length s.kc, .slice s.ta v.tags.length s.tc, .slice s.pa v.keep.length s.pc, .bool v.sync] from rfl] at HSM1
    go_wp2_with fail
    refine HSM1.out.mono ?_
    rintro e w7 ⟨rfl, hb⟩
    clear c0 c1 c2 c3 c4 c5 c6 c7 c8 c9 c10 c11 c12 c13 d0 d1 d2 d3 d4 d5 d6 d7 d8 d9 d10 d11 d12 d13 HSM1 HX1 HIN1
    replace HX := Lib.hid (HX.out.below hb)
    replace HIN := Lib.hid (HIN.out.below hb)
    replace HE := Lib.hid (HE.out.below hb)
    replace HB := Lib.hid (HB.out.trans (hb.mono HB.out.size))
    clear hb
    go_wp2_with fail
    rcases HPS.out with hps | ⟨hps, hl0, hel⟩
    · rw [hps] at HPL
      clear hps HPS HGR HIN HX
      refine (HPL.out _ HE.out).mono ?_
      rintro e w8 ⟨s2, rfl, hin2, _, hb⟩
      replace HB := Lib.hid (HB.out.trans (hb.mono HB.out.size))
      clear hb HPL HE
      rw [show Ev.cells (ev0 0) s2 = #[.int .i64 0, .int .i64 0, .int .i64 0, .int .i64 0, .int .i64 0, .string (S []), .string (S []), .string (S []), .string (S []), .string (S []), .slice s2.ka 0 s2.kc, .slice s2.ta 0 s2.tc, .slice s2.pa 0 s2.pc, .bool false] from rfl]
      have hx2 : Below w8.heap.size w8 (w8.alloc (.cells #[.int .i64 0, .int .i64 0, .int .i64 0, .int .i64 0, .int .i64 0, .string (S []), .string (S []), .string (S []), .string (S []), .string (S []), .slice s2.ka 0 s2.kc, .slice s2.ta 0 s2.tc, .slice s2.pa 0 s2.pc, .bool false] 25)) := (Below.refl _ _).alloc (Nat.le_refl _) _
      have HSC := Lib.hid (ev_same (ev0 0) (ev0 0) s2 evs0 evok0 evok0 _ (hin2.below hx2) (evin0 _))
      rw [same_self, show Ev.cells (ev0 0) s2 = #[.int .i64 0, .int .i64 0, .int .i64 0, .int .i64 0, .int .i64 0, .string (S []), .string (S []), .string (S []), .string (S []), .string (S []), .slice s2.ka 0 s2.kc, .slice s2.ta 0 s2.tc, .slice s2.pa 0 s2.pc, .bool false] from rfl, show Ev.cells (ev0 0) evs0 = #[.int .i64 0, .int .i64 0, .int .i64 0, .int .i64 0, .int .i64 0, .string ⟨#[]⟩, .string ⟨#[]⟩, .string ⟨#[]⟩, .string ⟨#[]⟩, .string ⟨#[]⟩, .slice none 0 0, .slice none 0 0, .slice none 0 0, .bool false] from rfl] at HSC
      replace HB := Lib.hid (HB.out.trans (hx2.mono HB.out.size))
      clear hx2 hin2
      go_wp2_with fail
      refine HSC.out.mono ?_
      rintro e w9 ⟨rfl, hb⟩
      replace HB := Lib.hid (HB.out.trans (hb.mono HB.out.size))
      clear hb HSC
      go_wp2_with fail
      go_ret
      exact ⟨rfl, HB.out⟩
    · rw [hps] at HPL
      clear hps HPS HIN HX
      have HLE := Lib.hid (fun s w h1 h2 => line_any (readL l) s HGR.out.ok HGR.out.ints w h1 h2)
      rw [line_event, hel] at HLE
      have hle : l.isEmpty = false := by
        cases l with
        | nil => exact absurd rfl hl0
        | cons _ _ => rfl
      clear HGR hel
      generalize readL l = y at *
      refine (HPL.out _ HE.out).mono ?_
      rintro e w8 ⟨s2, rfl, hin2, hcap2, hb⟩
      replace HB := Lib.hid (HB.out.trans (hb.mono HB.out.size))
      clear hb HPL HE
      rw [show Ev.cells y s2 = #[.int .i64 y.kind, .int .i64 y.queue, .int .i64 y.n, .int .i64 y.aat, .int .i64 y.lack, .string (S y.topic), .string (S y.group), .string (S y.tag), .string (S y.key), .string (S y.body), .slice s2.ka y.keys.length s2.kc, .slice s2.ta y.tags.length s2.tc, .slice s2.pa y.keep.length s2.pc, .bool y.sync] from rfl]
      have hx2 : Below w8.heap.size w8 (w8.alloc (.cells #[.int .i64 y.kind, .int .i64 y.queue, .int .i64 y.n, .int .i64 y.aat, .int .i64 y.lack, .string (S y.topic), .string (S y.group), .string (S y.tag), .string (S y.key), .string (S y.body), .slice s2.ka y.keys.length s2.kc, .slice s2.ta y.tags.length s2.tc, .slice s2.pa y.keep.length s2.pc, .bool y.sync] 25)) := (Below.refl _ _).alloc (Nat.le_refl _) _
      have HSC := Lib.hid (HLE.out s2 _ (hin2.below hx2) hcap2)
      rw [show Ev.cells y s2 = #[.int .i64 y.kind, .int .i64 y.queue, .int .i64 y.n, .int .i64 y.aat, .int .i64 y.lack, .string (S y.topic), .string (S y.group), .string (S y.tag), .string (S y.key), .string (S y.body), .slice s2.ka y.keys.length s2.kc, .slice s2.ta y.tags.length s2.tc, .slice s2.pa y.keep.length s2.pc, .bool y.sync] from rfl] at HSC
      replace HB := Lib.hid (HB.out.trans (hx2.mono HB.out.size))
      clear hx2 hin2 HLE hcap2
      go_wp2_with fail
      refine HSC.out.mono ?_
      rintro e w9 ⟨rfl, hb⟩
      replace HB := Lib.hid (HB.out.trans (hb.mono HB.out.size))
      clear hb HSC
      go_wp2_with fail
      go_ret
      exact ⟨rfl, HB.out⟩
theorem lifted (os : Os) (started : os.Started) (H : Type) (enc : TypeId × Value → H) :
    ReturnsInHanded {} Tryz.checked os 3 .any (fun w args => (Rows.linesEventsSpec.pre enc Tryz.prog Tryz.f3 [] false w args ∧ laidMetH Tryz.prog laidL w) ∧ sizedMet enc Tryz.prog Tryz.f3 (OpenSpec.ofChange Rows.linesEventsSpec) false w args) (Rows.linesEventsSpec.post enc Tryz.prog Tryz.f3 false true false false) := by
  refine returns_laid started (by kernel_rfl) Tryz.func3
    (ChangeSpec.witness_shaped (enc := enc) (C := Tryz.checked) (os := os) (X := fun w _ => laidMetH Tryz.prog laidL w) false (World.laidAll Tryz.prog os laidL) #[.agg ((ev0 0).cells evs0), .string ⟨#[]⟩] 8 (World.laidAll_os _ _ _)
      (laid_shaped _ _) (by kernel_rfl) (by kernel_rfl) (by kernel_rfl) (laid_met os _)) ?_
  intro W base args ds gs before hval0 hW hsz0 henv
  have hval : ∀ (j : Nat) t v, Tryz.f3.params[j]? = some t → args[j]? = some v → Value.okWide Tryz.prog W .any base t v := hval0
  have hsz : (DataW.weightsEach Tryz.prog (Tryz.f3.params.toList ++ Rows.linesEventsSpec.plain.varTypes Tryz.prog) (ds ++ gs)).all (· ≤ reachBytes) = true := hsz0
  have hW' := hW
  obtain ⟨p, q, hA0, hV, rfl, hfz, hnd⟩ := hW
  have hA : DataW.TrodAll enc Tryz.prog W 0 (fun _ => true) true Tryz.f3.params.toList args.toList ds p := hA0
  rw [Tryz.params3] at hA hval hsz
  obtain ⟨v0, vs0, d0, ds0, p0, q0, e1, rfl, rfl, h0, hr0⟩ := trodAll_cons hA
  obtain ⟨v1, vs1, d1, ds1, p1, q1, rfl, rfl, rfl, h1, hr1⟩ := trodAll_cons hr0
  obtain ⟨rfl, rfl, rfl⟩ := trodAll_nil hr1
  obtain rfl : args = #[v0, v1] := Array.ext' e1
  obtain ⟨rfl, rfl⟩ := trodVars_none hV
  obtain ⟨u, su, rfl, hu, hui, hcap⟩ := open_event (hval 0 25 v0 rfl rfl) h0
  obtain ⟨x1, rfl, rfl, rfl, hx1⟩ := Go.ChangeMaps.open_string Tryz.underlying9 (hval 1 9 v1 rfl rfl) h1
  have z1 : x1.size ≤ 140737488351232 := of_decide_eq_true (List.all_eq_true.1 hsz _ (DataW.weights_mem_each (j := 1) (t := 9) rfl rfl x1.data.toList.length (by simp [DataW.weights])))
  obtain ⟨l, rfl⟩ : ∃ l : List UInt8, x1 = S l := ⟨x1.data.toList, by cases x1; simp [S]⟩
  have hl : l.length ≤ 140737488351232 := by rw [← S_size]; exact z1
  clear hA0 hval0
  refine (law W u su l hl hu hui hcap henv).mono fun e W' ⟨he, hb⟩ => ?_
  subst he
  refine ⟨_, rfl, law_post hW' ?_ (tb := 4) (by kernel_rfl) Tryz.underlying4 rfl ⟨rfl, rfl, rfl⟩ hb⟩
  rw [Tryz.params3]
  intro t ht
  have : t = 25 ∨ t = 9 := by simpa using ht
  rcases this with rfl | rfl <;> exact ⟨by kernel_rfl, of_decide_eq_true (by kernel_rfl)⟩

theorem said : Rows.LinesEventsSaid :=
  OpenClaim.holds_of_wide 3 Tryz.f3 rfl rfl rfl rfl rfl rfl rfl ⟨rfl, rfl, rfl, rfl, rfl⟩ rfl rfl rfl rfl rfl (by kernel_rfl) Tryz.func3 (by kernel_rfl)
    (of_decide_eq_true (by kernel_rfl)) (by unfold Func.isWrapper; first | (rw [if_pos (by decide +kernel)]; kernel_rfl) | (rw [if_neg (by decide +kernel)]; exact ⟨rfl, rfl⟩))
    (fun os started H enc _ => lifted os started H enc)
theorem proved : Rows.LinesEventsCardSaid :=
  Claim7.holds_tied_plain_at .later [] [.data, .data, .data, .data, .sentinel, .sentinel, .pinned] true (true, "782409fd5045ed57317292997b71c8142b395dc0847e11fe0ede1823ea1308cd") true
    said (fun _ h => by cases h) (by kernel_rfl) (fun _ h => by cases h) linesEvents_row_tie rfl ⟨rfl, rfl⟩ (by kernel_rfl) rfl
    (fun f fn hf hfn => by
      obtain rfl : f = 3 := Option.some.inj ((show Tryz.prog.funcNamed "reveille/reveillelaw30.LinesEvents" = some 3 by kernel_rfl).symm.trans hf) |>.symm
      obtain rfl : fn = Tryz.f3 := (Option.some.inj (Tryz.func3.symm.trans hfn)).symm
      exact ⟨by kernel_rfl, fun j t ht => by
        rw [Tryz.params3] at ht
        have hm : t ∈ [25, 9] := by simpa using Array.mem_of_getElem? ht
        have hall : ([25, 9].all fun u => !Tryz.prog.wantsStandIn u) = true := by kernel_rfl
        exact (show Tryz.prog.wantsStandIn t = false by simpa using List.all_eq_true.1 hall t hm)⟩)
    (by kernel_rfl)
end Go.Proofs.YtadhkeboaapfcaaGreatDoor.linesEvents
