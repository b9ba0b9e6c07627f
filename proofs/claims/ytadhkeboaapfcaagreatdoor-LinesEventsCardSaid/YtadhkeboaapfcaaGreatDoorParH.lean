/- lines.Parse. -/
import Derived.Test.YtadhkeboaapfcaaGreatDoorParG
import Derived.Test.YtadhkeboaapfcaaGreatDoorReadMath
import Derived.Deep.DeepCutAuto
namespace Go.Proofs.YtadhkeboaapfcaaGreatDoor.EvW
open Go.RowKit OctMath NameMath HexMath
set_option linter.unusedVariables false
set_option linter.unusedSimpArgs false
set_option maxRecDepth 100000

/-! what is read is no greater than what it is read of -/
theorem atoi_bounds (l : List UInt8) : -9223372036854775808 ≤ atoiV l ∧ atoiV l ≤ 9223372036854775807 := by
  unfold atoiV
  cases h : Lib.atoiAll l with
  | ok v =>
    show -9223372036854775808 ≤ v ∧ v ≤ 9223372036854775807
    cases l with
    | nil => cases h
    | cons c r =>
      by_cases h43 : c.toNat = 43
      · obtain rfl : c = 43 := UInt8.toNat_inj.1 h43
        rw [Lib.atoiAll_plus] at h; exact Lib.signless_bounds h
      · by_cases h45 : c.toNat = 45
        · obtain rfl : c = 45 := UInt8.toNat_inj.1 h45
          rw [Lib.atoiAll_minus] at h; exact Lib.signed_bounds h
        · rw [Lib.atoiAll_plain c r h43 h45] at h; exact Lib.signless_bounds h
  | range =>
    show -9223372036854775808 ≤ Lib.atoiSat l ∧ Lib.atoiSat l ≤ 9223372036854775807
    unfold Lib.atoiSat
    split <;> omega
  | «syntax» => show (-9223372036854775808 : Int) ≤ 0 ∧ (0 : Int) ≤ 9223372036854775807; omega
theorem unhex_len (w : List UInt8) : (unhexL w).1.length ≤ w.length := by
  cases h : (unhexL w).2 with
  | false => rw [unhex_false w h]; exact Nat.zero_le _
  | true =>
    have h1 := unhex_true w h
    have : (unhexL w).1.length ≤ (hexL (unhexL w).1).length := by
      unfold hexL
      split
      · rename_i e; rw [e]; exact Nat.zero_le _
      · rw [hexD_length]; omega
    rw [h1] at this; exact this
structure Good (v : Ev) : Prop where
  ok : EvOk v
  ints : EvI v
theorem set1_cases (P : Ev → Prop) (v : Ev) (l : List UInt8) (h84 : P { v with topic := l }) (h71 : P { v with group := l }) (h81 : P { v with queue := atoiV l }) (h78 : P { v with n := atoiV l }) (h65 : P { v with aat := atoiV l }) (h76 : P { v with lack := atoiV l })
    (h116 : P { v with tag := if l = [46] then [] else l }) (h107 : P { v with keys := unkeysL l }) (h98 : P { v with body := (unhexL l).1 }) (h120 : P { v with key := (unhexL l).1 }) (h112 : P { v with keep := truthsL l }) (h115 : P { v with sync := true }) (hd : P v) (c : UInt8) : P (set1 v c l) := by
  by_cases e84 : c = 84
  · subst e84; exact h84
  by_cases e71 : c = 71
  · subst e71; exact h71
  by_cases e81 : c = 81
  · subst e81; exact h81
  by_cases e78 : c = 78
  · subst e78; exact h78
  by_cases e65 : c = 65
  · subst e65; exact h65
  by_cases e76 : c = 76
  · subst e76; exact h76
  by_cases e116 : c = 116
  · subst e116; exact h116
  by_cases e107 : c = 107
  · subst e107; exact h107
  by_cases e98 : c = 98
  · subst e98; exact h98
  by_cases e120 : c = 120
  · subst e120; exact h120
  by_cases e112 : c = 112
  · subst e112; exact h112
  by_cases e115 : c = 115
  · subst e115; exact h115
  unfold set1
  rw [if_neg e84, if_neg e71, if_neg e81, if_neg e78, if_neg e65, if_neg e76, if_neg e116, if_neg e107, if_neg e98, if_neg e120, if_neg e112, if_neg e115]
  exact hd
theorem good_set1 {v : Ev} (h : Good v) (c : UInt8) (l : List UInt8) (hl : l.length ≤ 100000) : Good (set1 v c l) := by
  have hb := atoi_bounds l
  have hu := unhex_len l
  apply set1_cases Good v l
  · exact ⟨⟨by show l.length ≤ _; omega, h.ok.group, h.ok.tag, h.ok.key, h.ok.body, h.ok.keys, h.ok.tags, h.ok.keep, h.ok.keysz, h.ok.tagsz⟩, ⟨h.ints.queue, h.ints.n, h.ints.aat, h.ints.lack⟩⟩
  · exact ⟨⟨h.ok.topic, by show l.length ≤ _; omega, h.ok.tag, h.ok.key, h.ok.body, h.ok.keys, h.ok.tags, h.ok.keep, h.ok.keysz, h.ok.tagsz⟩, ⟨h.ints.queue, h.ints.n, h.ints.aat, h.ints.lack⟩⟩
  · exact ⟨⟨h.ok.topic, h.ok.group, h.ok.tag, h.ok.key, h.ok.body, h.ok.keys, h.ok.tags, h.ok.keep, h.ok.keysz, h.ok.tagsz⟩, ⟨hb, h.ints.n, h.ints.aat, h.ints.lack⟩⟩
  · exact ⟨⟨h.ok.topic, h.ok.group, h.ok.tag, h.ok.key, h.ok.body, h.ok.keys, h.ok.tags, h.ok.keep, h.ok.keysz, h.ok.tagsz⟩, ⟨h.ints.queue, hb, h.ints.aat, h.ints.lack⟩⟩
  · exact ⟨⟨h.ok.topic, h.ok.group, h.ok.tag, h.ok.key, h.ok.body, h.ok.keys, h.ok.tags, h.ok.keep, h.ok.keysz, h.ok.tagsz⟩, ⟨h.ints.queue, h.ints.n, hb, h.ints.lack⟩⟩
  · exact ⟨⟨h.ok.topic, h.ok.group, h.ok.tag, h.ok.key, h.ok.body, h.ok.keys, h.ok.tags, h.ok.keep, h.ok.keysz, h.ok.tagsz⟩, ⟨h.ints.queue, h.ints.n, h.ints.aat, hb⟩⟩
  · refine ⟨⟨h.ok.topic, h.ok.group, ?_, h.ok.key, h.ok.body, h.ok.keys, h.ok.tags, h.ok.keep, h.ok.keysz, h.ok.tagsz⟩, ⟨h.ints.queue, h.ints.n, h.ints.aat, h.ints.lack⟩⟩
    show (if l = [46] then [] else l).length ≤ _
    split
    · exact Nat.zero_le _
    · omega
  · refine ⟨⟨h.ok.topic, h.ok.group, h.ok.tag, h.ok.key, h.ok.body, ?_, h.ok.tags, h.ok.keep, ?_, h.ok.tagsz⟩, ⟨h.ints.queue, h.ints.n, h.ints.aat, h.ints.lack⟩⟩
    · show (unkeysL l).length ≤ _
      unfold unkeysL
      split
      · exact Nat.zero_le _
      · rw [List.length_map]; have := splitC_len 44 l; omega
    · show ∀ t ∈ unkeysL l, _
      unfold unkeysL
      split
      · exact fun t ht => by cases ht
      · intro t ht
        obtain ⟨x, hx, rfl⟩ := List.mem_map.1 ht
        have h1 := splitC_elem 44 l x hx
        have h2 := unhex_len x
        omega
  · exact ⟨⟨h.ok.topic, h.ok.group, h.ok.tag, h.ok.key, by show (unhexL l).1.length ≤ _; omega, h.ok.keys, h.ok.tags, h.ok.keep, h.ok.keysz, h.ok.tagsz⟩, ⟨h.ints.queue, h.ints.n, h.ints.aat, h.ints.lack⟩⟩
  · exact ⟨⟨h.ok.topic, h.ok.group, h.ok.tag, by show (unhexL l).1.length ≤ _; omega, h.ok.body, h.ok.keys, h.ok.tags, h.ok.keep, h.ok.keysz, h.ok.tagsz⟩, ⟨h.ints.queue, h.ints.n, h.ints.aat, h.ints.lack⟩⟩
  · refine ⟨⟨h.ok.topic, h.ok.group, h.ok.tag, h.ok.key, h.ok.body, h.ok.keys, h.ok.tags, ?_, h.ok.keysz, h.ok.tagsz⟩, ⟨h.ints.queue, h.ints.n, h.ints.aat, h.ints.lack⟩⟩
    show (truthsL l).length ≤ _
    unfold truthsL
    split
    · exact Nat.zero_le _
    · rw [List.length_map]; omega
  · exact ⟨⟨h.ok.topic, h.ok.group, h.ok.tag, h.ok.key, h.ok.body, h.ok.keys, h.ok.tags, h.ok.keep, h.ok.keysz, h.ok.tagsz⟩, ⟨h.ints.queue, h.ints.n, h.ints.aat, h.ints.lack⟩⟩
  · exact h
theorem eo_mem : ∀ (ws : List (List UInt8)) (x : List UInt8), x ∈ eo ws → x ∈ ws
  | [], x, h => by cases h
  | [a], x, h => h
  | a :: b :: r, x, h => by
    rcases List.mem_cons.1 h with rfl | h
    · exact List.mem_cons_self ..
    · exact List.mem_cons_of_mem _ (List.mem_cons_of_mem _ (eo_mem r x h))
theorem good_tags {v : Ev} (h : Good v) (ws : List (List UInt8)) (hn : ws.length ≤ 1000000) (hl : ∀ w ∈ ws, w.length ≤ 100000) : Good { v with tags := filterL ws } := by
  refine ⟨⟨h.ok.topic, h.ok.group, h.ok.tag, h.ok.key, h.ok.body, h.ok.keys, ?_, h.ok.keep, h.ok.keysz, ?_⟩, ⟨h.ints.queue, h.ints.n, h.ints.aat, h.ints.lack⟩⟩
  · show (filterL ws).length ≤ _
    unfold filterL
    split
    · exact Nat.zero_le _
    · rw [eo_len]; omega
  · show ∀ t ∈ filterL ws, _
    unfold filterL
    split
    · exact fun t ht => by cases ht
    · exact fun t ht => by have := hl t (eo_mem ws t ht); omega
theorem good_sets : ∀ (cs : List UInt8) (ws : List (List UInt8)) (v : Ev), Good v → ws.length ≤ 1000000 → (∀ w ∈ ws, w.length ≤ 100000) → Good (setsF v cs ws)
  | [], ws, v, h, _, _ => by unfold setsF; exact h
  | c :: cs, [], v, h, _, _ => by unfold setsF; exact h
  | c :: cs, w :: ws, v, h, hn, hl => by
    unfold setsF
    by_cases hc : c = 102
    · rw [if_pos hc]; exact good_tags h _ hn hl
    · rw [if_neg hc]
      exact good_sets cs ws _ (good_set1 h c w (hl w (List.mem_cons_self ..))) (by simp at hn; omega) (fun x hx => hl x (List.mem_cons_of_mem _ hx))
theorem good_ev0 (k : Int) : Good (ev0 k) := by
  constructor
  · constructor <;> simp [ev0]
  · constructor <;> simp [ev0]
theorem good_read (l : List UInt8) (hl : l.length ≤ 100000) : Good (readL l) := by
  show Good (readW (splitC 32 l))
  unfold readW
  have h1 := splitC_len 32 l
  have h2 := splitC_elem 32 l
  split
  · exact good_ev0 _
  · refine good_sets _ _ _ (good_ev0 _) ?_ (fun w hw => by have := h2 w (List.mem_of_mem_tail hw); omega)
    rw [List.length_tail]; omega

/-- the event of a line, or why not -/
def parseL (l : List UInt8) : Ev × Int := if l = [] ∨ eventL (readL l) ≠ l then (ev0 0, 4) else (readL l, 0)
set_option maxHeartbeats 6400000 in
theorem parse_any (l : List UInt8) (hl : l.length ≤ 100000) (W : World) (henv : Env W) :
    Calls Tryz.prog 11 #[.string (S l)] W fun e w' => ∃ s', e = .returned (.tuple #[.agg ((parseL l).1.cells s'), .int .i64 (parseL l).2]) ∧ EvIn w' (parseL l).1 s' ∧ (parseL l).1.tags.length ≤ s'.tc ∧ Below W.heap.size W w' := by
  have HP : Hid (parseL l = if l = [] ∨ eventL (readL l) ≠ l then (ev0 0, 4) else (readL l, 0)) := rfl
  have HE := Lib.hid henv
  have hgd := good_read l hl
  have HGD := Lib.hid hgd
  have HR := Lib.hid (fun w h => read_any l (by omega) w h)
  clear henv hgd
  have HB0 : Hid (Below W.heap.size W (W.alloc (.cells #[.int .i64 0, .int .i64 0, .int .i64 0, .int .i64 0, .int .i64 0, .string ⟨#[]⟩, .string ⟨#[]⟩, .string ⟨#[]⟩, .string ⟨#[]⟩, .string ⟨#[]⟩, .slice none 0 0, .slice none 0 0, .slice none 0 0, .bool false] 25))) := (Below.refl _ W).alloc (Nat.le_refl _) _
  have hz0 : ∃ z : Array Value, z.size = 14 ∧ (W.alloc (.cells #[.int .i64 0, .int .i64 0, .int .i64 0, .int .i64 0, .int .i64 0, .string ⟨#[]⟩, .string ⟨#[]⟩, .string ⟨#[]⟩, .string ⟨#[]⟩, .string ⟨#[]⟩, .slice none 0 0, .slice none 0 0, .slice none 0 0, .bool false] 25)).heap[W.heap.size]? = some (.cells z 25 (0, 0)) := ⟨_, rfl, World.alloc_heap_new W _⟩
  obtain ⟨z, hzs, hz0⟩ := hz0
  have HZ0 := Lib.hid hz0
  clear hz0
  have hs0 : (W.alloc (.cells #[.int .i64 0, .int .i64 0, .int .i64 0, .int .i64 0, .int .i64 0, .string ⟨#[]⟩, .string ⟨#[]⟩, .string ⟨#[]⟩, .string ⟨#[]⟩, .string ⟨#[]⟩, .slice none 0 0, .slice none 0 0, .slice none 0 0, .bool false] 25)).heap.size = W.heap.size + 1 := World.size_alloc _ _
  go_enter Tryz.func11, Tryz.ntmps11
  go_wp2_with fail
  generalize (W.alloc (.cells #[.int .i64 0, .int .i64 0, .int .i64 0, .int .i64 0, .int .i64 0, .string ⟨#[]⟩, .string ⟨#[]⟩, .string ⟨#[]⟩, .string ⟨#[]⟩, .string ⟨#[]⟩, .slice none 0 0, .slice none 0 0, .slice none 0 0, .bool false] 25)) = w0 at *
  generalize hrl : readL l = v at *
  clear hrl
  refine (HR.out _ (HE.out.below HB0.out)).mono ?_
  rintro e w1 ⟨s, rfl, hin, hfrom, hcap, hb⟩
  have HCAP := Lib.hid hcap
  clear hcap
  rw [show v.cells s = #[.int .i64 v.kind, .int .i64 v.queue, .int .i64 v.n, .int .i64 v.aat, .int .i64 v.lack, .string (S v.topic), .string (S v.group), .string (S v.tag), .string (S v.key), .string (S v.body), .slice s.ka v.keys.length s.kc, .slice s.ta v.tags.length s.tc, .slice s.pa v.keep.length s.pc, .bool v.sync] from rfl]
  obtain ⟨z0, z1, z2, z3, z4, z5, z6, z7, z8, z9, z10, z11, z12, z13, rfl⟩ := fourteen z hzs
  have HB1 := Lib.hid (HB0.out.trans (hb.mono (by omega)))
  have HZ1 := Lib.hid ((hb.block _ (by omega)).trans HZ0.out)
  have HI1 := Lib.hid hin
  have HF1 := Lib.hid hfrom
  have hs1 : W.heap.size + 1 ≤ w1.heap.size := by have := hb.size; omega
  clear hin hfrom hb HR HB0 HZ0
  rw [hs0] at HF1
  clear hs0 w0
  go_upto_region 2 with fail
  have HX2 : Hid (LinW.Ext w1 (w1.alloc (.cells #[.int .i64 v.kind, .int .i64 v.queue, .int .i64 v.n, .int .i64 v.aat, .int .i64 v.lack, .string (S v.topic), .string (S v.group), .string (S v.tag), .string (S v.key), .string (S v.body), .slice s.ka v.keys.length s.kc, .slice s.ta v.tags.length s.tc, .slice s.pa v.keep.length s.pc, .bool v.sync] 25))) := (Below.refl _ _).alloc (Nat.le_refl _) _
  have HQ2 : Hid (Boxed (w1.alloc (.cells #[.int .i64 v.kind, .int .i64 v.queue, .int .i64 v.n, .int .i64 v.aat, .int .i64 v.lack, .string (S v.topic), .string (S v.group), .string (S v.tag), .string (S v.key), .string (S v.body), .slice s.ka v.keys.length s.kc, .slice s.ta v.tags.length s.tc, .slice s.pa v.keep.length s.pc, .bool v.sync] 25)) w1.heap.size (v.cells s)) := Boxed.new _ _ _
  have HB2 := Lib.hid (HB1.out.trans (Below.mono HX2.out (by omega)))
  have HZ2 := Lib.hid ((Below.block HX2.out _ (by omega)).trans HZ1.out)
  have HI2 := Lib.hid (HI1.out.below HX2.out)
  have hs2 : (w1.alloc (.cells #[.int .i64 v.kind, .int .i64 v.queue, .int .i64 v.n, .int .i64 v.aat, .int .i64 v.lack, .string (S v.topic), .string (S v.group), .string (S v.tag), .string (S v.key), .string (S v.body), .slice s.ka v.keys.length s.kc, .slice s.ta v.tags.length s.tc, .slice s.pa v.keep.length s.pc, .bool v.sync] 25)).heap.size = w1.heap.size + 1 := World.size_alloc _ _
  clear HX2 HB1 HZ1 HI1
  generalize (w1.alloc (.cells #[.int .i64 v.kind, .int .i64 v.queue, .int .i64 v.n, .int .i64 v.aat, .int .i64 v.lack, .string (S v.topic), .string (S v.group), .string (S v.tag), .string (S v.key), .string (S v.body), .slice s.ka v.keys.length s.kc, .slice s.ta v.tags.length s.tc, .slice s.pa v.keep.length s.pc, .bool v.sync] 25)) = w2 at *
  generalize w1.heap.size = B1 at *
  clear w1
  have htl := fun t => NameW.S_toList t
  have HN := Lib.hid (fun w => ev0_in w 0)
  have HNF : Hid (EvFrom (W.heap.size + 1) evs0) := ⟨fun ad h => absurd h (by simp [evs0]), fun ad h => absurd h (by simp [evs0]), fun ad h => absurd h (by simp [evs0])⟩
  by_cases hl0 : l = []
  · have HT : Hid (parseL l = (ev0 0, 4)) := by show _ = _; rw [HP.out, if_pos (.inl hl0)]
    clear HP HGD HQ2 HI2 HF1
    subst hl0
    have HNI := Lib.hid (HN.out w2)
    clear HN
    have hzz := HZ2.out
    have d0 : w2.cell? ⟨W.heap.size, 0, none⟩ = some z0 := by unfold World.cell?; rw [show w2.heap[(⟨W.heap.size, 0, none⟩ : Addr).block]? = _ from hzz]; rfl
    have d1 : w2.cell? ⟨W.heap.size, 1, none⟩ = some z1 := by unfold World.cell?; rw [show w2.heap[(⟨W.heap.size, 1, none⟩ : Addr).block]? = _ from hzz]; rfl
    have d2 : w2.cell? ⟨W.heap.size, 2, none⟩ = some z2 := by unfold World.cell?; rw [show w2.heap[(⟨W.heap.size, 2, none⟩ : Addr).block]? = _ from hzz]; rfl
    have d3 : w2.cell? ⟨W.heap.size, 3, none⟩ = some z3 := by unfold World.cell?; rw [show w2.heap[(⟨W.heap.size, 3, none⟩ : Addr).block]? = _ from hzz]; rfl
    have d4 : w2.cell? ⟨W.heap.size, 4, none⟩ = some z4 := by unfold World.cell?; rw [show w2.heap[(⟨W.heap.size, 4, none⟩ : Addr).block]? = _ from hzz]; rfl
    have d5 : w2.cell? ⟨W.heap.size, 5, none⟩ = some z5 := by unfold World.cell?; rw [show w2.heap[(⟨W.heap.size, 5, none⟩ : Addr).block]? = _ from hzz]; rfl
    have d6 : w2.cell? ⟨W.heap.size, 6, none⟩ = some z6 := by unfold World.cell?; rw [show w2.heap[(⟨W.heap.size, 6, none⟩ : Addr).block]? = _ from hzz]; rfl
    have d7 : w2.cell? ⟨W.heap.size, 7, none⟩ = some z7 := by unfold World.cell?; rw [show w2.heap[(⟨W.heap.size, 7, none⟩ : Addr).block]? = _ from hzz]; rfl
    have d8 : w2.cell? ⟨W.heap.size, 8, none⟩ = some z8 := by unfold World.cell?; rw [show w2.heap[(⟨W.heap.size, 8, none⟩ : Addr).block]? = _ from hzz]; rfl
    have d9 : w2.cell? ⟨W.heap.size, 9, none⟩ = some z9 := by unfold World.cell?; rw [show w2.heap[(⟨W.heap.size, 9, none⟩ : Addr).block]? = _ from hzz]; rfl
    have d10 : w2.cell? ⟨W.heap.size, 10, none⟩ = some z10 := by unfold World.cell?; rw [show w2.heap[(⟨W.heap.size, 10, none⟩ : Addr).block]? = _ from hzz]; rfl
    have d11 : w2.cell? ⟨W.heap.size, 11, none⟩ = some z11 := by unfold World.cell?; rw [show w2.heap[(⟨W.heap.size, 11, none⟩ : Addr).block]? = _ from hzz]; rfl
    have d12 : w2.cell? ⟨W.heap.size, 12, none⟩ = some z12 := by unfold World.cell?; rw [show w2.heap[(⟨W.heap.size, 12, none⟩ : Addr).block]? = _ from hzz]; rfl
    have d13 : w2.cell? ⟨W.heap.size, 13, none⟩ = some z13 := by unfold World.cell?; rw [show w2.heap[(⟨W.heap.size, 13, none⟩ : Addr).block]? = _ from hzz]; rfl
    have hfr : ∀ j, w2.frozen? ⟨W.heap.size, j, none⟩ = false := fun j => by unfold World.frozen?; rw [show w2.heap[(⟨W.heap.size, j, none⟩ : Addr).block]? = _ from hzz]; rfl
    have HBE := Lib.hid (putEv_below HB2.out (Nat.le_refl _) (ev0 0) evs0)
    have HZE := Lib.hid (putEv_heap rfl hzz (ev0 0) evs0)
    have HIE := Lib.hid (putEv_in HNI.out HNF.out (B := W.heap.size) (by omega) (ev0 0) evs0)
    clear hzz
    go_wp2_with fail
    clear d0 d1 d2 d3 d4 d5 d6 d7 d8 d9 d10 d11 d12 d13 hfr
    change bodyPost _ _ _ _ _ (putEv w2 W.heap.size (ev0 0) evs0)
    generalize putEv w2 W.heap.size (ev0 0) evs0 = w9 at *
    have hz9 := HZE.out
    have c0 : w9.cell? ⟨W.heap.size, 0, none⟩ = some (.int .i64 (ev0 0).kind) := by unfold World.cell?; rw [show w9.heap[(⟨W.heap.size, 0, none⟩ : Addr).block]? = _ from hz9]; rfl
    have c1 : w9.cell? ⟨W.heap.size, 1, none⟩ = some (.int .i64 (ev0 0).queue) := by unfold World.cell?; rw [show w9.heap[(⟨W.heap.size, 1, none⟩ : Addr).block]? = _ from hz9]; rfl
    have c2 : w9.cell? ⟨W.heap.size, 2, none⟩ = some (.int .i64 (ev0 0).n) := by unfold World.cell?; rw [show w9.heap[(⟨W.heap.size, 2, none⟩ : Addr).block]? = _ from hz9]; rfl
    have c3 : w9.cell? ⟨W.heap.size, 3, none⟩ = some (.int .i64 (ev0 0).aat) := by unfold World.cell?; rw [show w9.heap[(⟨W.heap.size, 3, none⟩ : Addr).block]? = _ from hz9]; rfl
    have c4 : w9.cell? ⟨W.heap.size, 4, none⟩ = some (.int .i64 (ev0 0).lack) := by unfold World.cell?; rw [show w9.heap[(⟨W.heap.size, 4, none⟩ : Addr).block]? = _ from hz9]; rfl
    have c5 : w9.cell? ⟨W.heap.size, 5, none⟩ = some (.string (S (ev0 0).topic)) := by unfold World.cell?; rw [show w9.heap[(⟨W.heap.size, 5, none⟩ : Addr).block]? = _ from hz9]; rfl
    have c6 : w9.cell? ⟨W.heap.size, 6, none⟩ = some (.string (S (ev0 0).group)) := by unfold World.cell?; rw [show w9.heap[(⟨W.heap.size, 6, none⟩ : Addr).block]? = _ from hz9]; rfl
    have c7 : w9.cell? ⟨W.heap.size, 7, none⟩ = some (.string (S (ev0 0).tag)) := by unfold World.cell?; rw [show w9.heap[(⟨W.heap.size, 7, none⟩ : Addr).block]? = _ from hz9]; rfl
    have c8 : w9.cell? ⟨W.heap.size, 8, none⟩ = some (.string (S (ev0 0).key)) := by unfold World.cell?; rw [show w9.heap[(⟨W.heap.size, 8, none⟩ : Addr).block]? = _ from hz9]; rfl
    have c9 : w9.cell? ⟨W.heap.size, 9, none⟩ = some (.string (S (ev0 0).body)) := by unfold World.cell?; rw [show w9.heap[(⟨W.heap.size, 9, none⟩ : Addr).block]? = _ from hz9]; rfl
    have c10 : w9.cell? ⟨W.heap.size, 10, none⟩ = some (.slice evs0.ka (ev0 0).keys.length evs0.kc) := by unfold World.cell?; rw [show w9.heap[(⟨W.heap.size, 10, none⟩ : Addr).block]? = _ from hz9]; rfl
    have c11 : w9.cell? ⟨W.heap.size, 11, none⟩ = some (.slice evs0.ta (ev0 0).tags.length evs0.tc) := by unfold World.cell?; rw [show w9.heap[(⟨W.heap.size, 11, none⟩ : Addr).block]? = _ from hz9]; rfl
    have c12 : w9.cell? ⟨W.heap.size, 12, none⟩ = some (.slice evs0.pa (ev0 0).keep.length evs0.pc) := by unfold World.cell?; rw [show w9.heap[(⟨W.heap.size, 12, none⟩ : Addr).block]? = _ from hz9]; rfl
    have c13 : w9.cell? ⟨W.heap.size, 13, none⟩ = some (.bool (ev0 0).sync) := by unfold World.cell?; rw [show w9.heap[(⟨W.heap.size, 13, none⟩ : Addr).block]? = _ from hz9]; rfl
    refine bodyPost_ret (v := .tuple #[.agg ((ev0 0).cells evs0), .int .i64 4]) ?_ rfl ⟨evs0, by rw [HT.out], by rw [HT.out]; exact HIE.out, by rw [HT.out]; exact Nat.le_refl _, HBE.out⟩
    clear hz9 HZE HIE HBE
    simp [results, Tryz.results11, go_sem, Ev.cells, c0, c1, c2, c3, c4, c5, c6, c7, c8, c9, c10, c11, c12, c13]
  · have hle : (l == []) = false := by simp [hl0]
    have c0 : w2.cell? ⟨B1, 0, none⟩ = some (.int .i64 v.kind) := HQ2.out 0 _ rfl
    have c1 : w2.cell? ⟨B1, 1, none⟩ = some (.int .i64 v.queue) := HQ2.out 1 _ rfl
    have c2 : w2.cell? ⟨B1, 2, none⟩ = some (.int .i64 v.n) := HQ2.out 2 _ rfl
    have c3 : w2.cell? ⟨B1, 3, none⟩ = some (.int .i64 v.aat) := HQ2.out 3 _ rfl
    have c4 : w2.cell? ⟨B1, 4, none⟩ = some (.int .i64 v.lack) := HQ2.out 4 _ rfl
    have c5 : w2.cell? ⟨B1, 5, none⟩ = some (.string (S v.topic)) := HQ2.out 5 _ rfl
    have c6 : w2.cell? ⟨B1, 6, none⟩ = some (.string (S v.group)) := HQ2.out 6 _ rfl
    have c7 : w2.cell? ⟨B1, 7, none⟩ = some (.string (S v.tag)) := HQ2.out 7 _ rfl
    have c8 : w2.cell? ⟨B1, 8, none⟩ = some (.string (S v.key)) := HQ2.out 8 _ rfl
    have c9 : w2.cell? ⟨B1, 9, none⟩ = some (.string (S v.body)) := HQ2.out 9 _ rfl
    have c10 : w2.cell? ⟨B1, 10, none⟩ = some (.slice s.ka v.keys.length s.kc) := HQ2.out 10 _ rfl
    have c11 : w2.cell? ⟨B1, 11, none⟩ = some (.slice s.ta v.tags.length s.tc) := HQ2.out 11 _ rfl
    have c12 : w2.cell? ⟨B1, 12, none⟩ = some (.slice s.pa v.keep.length s.pc) := HQ2.out 12 _ rfl
    have c13 : w2.cell? ⟨B1, 13, none⟩ = some (.bool v.sync) := HQ2.out 13 _ rfl
    have HEV := Lib.hid (event_any v s HGD.out.ok HGD.out.ints w2 HI2.out (HE.out.below HB2.out).tab)
    go_wp2_with fail
    clear c0 c1 c2 c3 c4 c5 c6 c7 c8 c9 c10 c11 c12 c13
    refine HEV.out.mono ?_
    rintro e w3 ⟨rfl, hb⟩
    have HB3 := Lib.hid (HB2.out.trans (hb.mono HB2.out.size))
    have HZ3 := Lib.hid ((hb.block _ (Array.getElem?_eq_some_iff.1 HZ2.out).1).trans HZ2.out)
    have HQ3 := Lib.hid (HQ2.out.below hb)
    have HI3 := Lib.hid (HI2.out.below hb)
    clear hb HEV HB2 HZ2 HQ2 HI2 HGD
    by_cases he : eventL v = l
    · have HT : Hid (parseL l = (v, 0)) := by show _ = _; rw [HP.out, if_neg (fun h => h.elim hl0 (fun h => h he))]
      clear HP
      rw [he]
      have c0 : w3.cell? ⟨B1, 0, none⟩ = some (.int .i64 v.kind) := HQ3.out 0 _ rfl
      have c1 : w3.cell? ⟨B1, 1, none⟩ = some (.int .i64 v.queue) := HQ3.out 1 _ rfl
      have c2 : w3.cell? ⟨B1, 2, none⟩ = some (.int .i64 v.n) := HQ3.out 2 _ rfl
      have c3 : w3.cell? ⟨B1, 3, none⟩ = some (.int .i64 v.aat) := HQ3.out 3 _ rfl
      have c4 : w3.cell? ⟨B1, 4, none⟩ = some (.int .i64 v.lack) := HQ3.out 4 _ rfl
      have c5 : w3.cell? ⟨B1, 5, none⟩ = some (.string (S v.topic)) := HQ3.out 5 _ rfl
      have c6 : w3.cell? ⟨B1, 6, none⟩ = some (.string (S v.group)) := HQ3.out 6 _ rfl
      have c7 : w3.cell? ⟨B1, 7, none⟩ = some (.string (S v.tag)) := HQ3.out 7 _ rfl
      have c8 : w3.cell? ⟨B1, 8, none⟩ = some (.string (S v.key)) := HQ3.out 8 _ rfl
      have c9 : w3.cell? ⟨B1, 9, none⟩ = some (.string (S v.body)) := HQ3.out 9 _ rfl
      have c10 : w3.cell? ⟨B1, 10, none⟩ = some (.slice s.ka v.keys.length s.kc) := HQ3.out 10 _ rfl
      have c11 : w3.cell? ⟨B1, 11, none⟩ = some (.slice s.ta v.tags.length s.tc) := HQ3.out 11 _ rfl
      have c12 : w3.cell? ⟨B1, 12, none⟩ = some (.slice s.pa v.keep.length s.pc) := HQ3.out 12 _ rfl
      have c13 : w3.cell? ⟨B1, 13, none⟩ = some (.bool v.sync) := HQ3.out 13 _ rfl
      have hzz := HZ3.out
      have d0 : w3.cell? ⟨W.heap.size, 0, none⟩ = some z0 := by unfold World.cell?; rw [show w3.heap[(⟨W.heap.size, 0, none⟩ : Addr).block]? = _ from hzz]; rfl
      have d1 : w3.cell? ⟨W.heap.size, 1, none⟩ = some z1 := by unfold World.cell?; rw [show w3.heap[(⟨W.heap.size, 1, none⟩ : Addr).block]? = _ from hzz]; rfl
      have d2 : w3.cell? ⟨W.heap.size, 2, none⟩ = some z2 := by unfold World.cell?; rw [show w3.heap[(⟨W.heap.size, 2, none⟩ : Addr).block]? = _ from hzz]; rfl
      have d3 : w3.cell? ⟨W.heap.size, 3, none⟩ = some z3 := by unfold World.cell?; rw [show w3.heap[(⟨W.heap.size, 3, none⟩ : Addr).block]? = _ from hzz]; rfl
      have d4 : w3.cell? ⟨W.heap.size, 4, none⟩ = some z4 := by unfold World.cell?; rw [show w3.heap[(⟨W.heap.size, 4, none⟩ : Addr).block]? = _ from hzz]; rfl
      have d5 : w3.cell? ⟨W.heap.size, 5, none⟩ = some z5 := by unfold World.cell?; rw [show w3.heap[(⟨W.heap.size, 5, none⟩ : Addr).block]? = _ from hzz]; rfl
      have d6 : w3.cell? ⟨W.heap.size, 6, none⟩ = some z6 := by unfold World.cell?; rw [show w3.heap[(⟨W.heap.size, 6, none⟩ : Addr).block]? = _ from hzz]; rfl
      have d7 : w3.cell? ⟨W.heap.size, 7, none⟩ = some z7 := by unfold World.cell?; rw [show w3.heap[(⟨W.heap.size, 7, none⟩ : Addr).block]? = _ from hzz]; rfl
      have d8 : w3.cell? ⟨W.heap.size, 8, none⟩ = some z8 := by unfold World.cell?; rw [show w3.heap[(⟨W.heap.size, 8, none⟩ : Addr).block]? = _ from hzz]; rfl
      have d9 : w3.cell? ⟨W.heap.size, 9, none⟩ = some z9 := by unfold World.cell?; rw [show w3.heap[(⟨W.heap.size, 9, none⟩ : Addr).block]? = _ from hzz]; rfl
      have d10 : w3.cell? ⟨W.heap.size, 10, none⟩ = some z10 := by unfold World.cell?; rw [show w3.heap[(⟨W.heap.size, 10, none⟩ : Addr).block]? = _ from hzz]; rfl
      have d11 : w3.cell? ⟨W.heap.size, 11, none⟩ = some z11 := by unfold World.cell?; rw [show w3.heap[(⟨W.heap.size, 11, none⟩ : Addr).block]? = _ from hzz]; rfl
      have d12 : w3.cell? ⟨W.heap.size, 12, none⟩ = some z12 := by unfold World.cell?; rw [show w3.heap[(⟨W.heap.size, 12, none⟩ : Addr).block]? = _ from hzz]; rfl
      have d13 : w3.cell? ⟨W.heap.size, 13, none⟩ = some z13 := by unfold World.cell?; rw [show w3.heap[(⟨W.heap.size, 13, none⟩ : Addr).block]? = _ from hzz]; rfl
      have hfr : ∀ j, w3.frozen? ⟨W.heap.size, j, none⟩ = false := fun j => by unfold World.frozen?; rw [show w3.heap[(⟨W.heap.size, j, none⟩ : Addr).block]? = _ from hzz]; rfl
      have HBE := Lib.hid (putEv_below HB3.out (Nat.le_refl _) (v) s)
      have HZE := Lib.hid (putEv_heap rfl hzz (v) s)
      have HIE := Lib.hid (putEv_in HI3.out HF1.out (B := W.heap.size) (by omega) (v) s)
      clear hzz
      go_wp2_with fail
      clear d0 d1 d2 d3 d4 d5 d6 d7 d8 d9 d10 d11 d12 d13 hfr
      change bodyPost _ _ _ _ _ (putEv w3 W.heap.size (v) s)
      generalize putEv w3 W.heap.size (v) s = w9 at *
      have hz9 := HZE.out
      have c0 : w9.cell? ⟨W.heap.size, 0, none⟩ = some (.int .i64 v.kind) := by unfold World.cell?; rw [show w9.heap[(⟨W.heap.size, 0, none⟩ : Addr).block]? = _ from hz9]; rfl
      have c1 : w9.cell? ⟨W.heap.size, 1, none⟩ = some (.int .i64 v.queue) := by unfold World.cell?; rw [show w9.heap[(⟨W.heap.size, 1, none⟩ : Addr).block]? = _ from hz9]; rfl
      have c2 : w9.cell? ⟨W.heap.size, 2, none⟩ = some (.int .i64 v.n) := by unfold World.cell?; rw [show w9.heap[(⟨W.heap.size, 2, none⟩ : Addr).block]? = _ from hz9]; rfl
      have c3 : w9.cell? ⟨W.heap.size, 3, none⟩ = some (.int .i64 v.aat) := by unfold World.cell?; rw [show w9.heap[(⟨W.heap.size, 3, none⟩ : Addr).block]? = _ from hz9]; rfl
      have c4 : w9.cell? ⟨W.heap.size, 4, none⟩ = some (.int .i64 v.lack) := by unfold World.cell?; rw [show w9.heap[(⟨W.heap.size, 4, none⟩ : Addr).block]? = _ from hz9]; rfl
      have c5 : w9.cell? ⟨W.heap.size, 5, none⟩ = some (.string (S v.topic)) := by unfold World.cell?; rw [show w9.heap[(⟨W.heap.size, 5, none⟩ : Addr).block]? = _ from hz9]; rfl
      have c6 : w9.cell? ⟨W.heap.size, 6, none⟩ = some (.string (S v.group)) := by unfold World.cell?; rw [show w9.heap[(⟨W.heap.size, 6, none⟩ : Addr).block]? = _ from hz9]; rfl
      have c7 : w9.cell? ⟨W.heap.size, 7, none⟩ = some (.string (S v.tag)) := by unfold World.cell?; rw [show w9.heap[(⟨W.heap.size, 7, none⟩ : Addr).block]? = _ from hz9]; rfl
      have c8 : w9.cell? ⟨W.heap.size, 8, none⟩ = some (.string (S v.key)) := by unfold World.cell?; rw [show w9.heap[(⟨W.heap.size, 8, none⟩ : Addr).block]? = _ from hz9]; rfl
      have c9 : w9.cell? ⟨W.heap.size, 9, none⟩ = some (.string (S v.body)) := by unfold World.cell?; rw [show w9.heap[(⟨W.heap.size, 9, none⟩ : Addr).block]? = _ from hz9]; rfl
      have c10 : w9.cell? ⟨W.heap.size, 10, none⟩ = some (.slice s.ka v.keys.length s.kc) := by unfold World.cell?; rw [show w9.heap[(⟨W.heap.size, 10, none⟩ : Addr).block]? = _ from hz9]; rfl
      have c11 : w9.cell? ⟨W.heap.size, 11, none⟩ = some (.slice s.ta v.tags.length s.tc) := by unfold World.cell?; rw [show w9.heap[(⟨W.heap.size, 11, none⟩ : Addr).block]? = _ from hz9]; rfl
      have c12 : w9.cell? ⟨W.heap.size, 12, none⟩ = some (.slice s.pa v.keep.length s.pc) := by unfold World.cell?; rw [show w9.heap[(⟨W.heap.size, 12, none⟩ : Addr).block]? = _ from hz9]; rfl
      have c13 : w9.cell? ⟨W.heap.size, 13, none⟩ = some (.bool v.sync) := by unfold World.cell?; rw [show w9.heap[(⟨W.heap.size, 13, none⟩ : Addr).block]? = _ from hz9]; rfl
      refine bodyPost_ret (v := .tuple #[.agg ((v).cells s), .int .i64 0]) ?_ rfl ⟨s, by rw [HT.out], by rw [HT.out]; exact HIE.out, by rw [HT.out]; exact HCAP.out, HBE.out⟩
      clear hz9 HZE HIE HBE
      simp [results, Tryz.results11, go_sem, Ev.cells, c0, c1, c2, c3, c4, c5, c6, c7, c8, c9, c10, c11, c12, c13]
    · have HT : Hid (parseL l = (ev0 0, 4)) := by show _ = _; rw [HP.out, if_pos (.inr he)]
      have hbe : (eventL v == l) = false := by simp [he]
      clear HP
      generalize eventL v = evl at *
      have HNI := Lib.hid (HN.out w3)
      clear HN
      have hzz := HZ3.out
      have d0 : w3.cell? ⟨W.heap.size, 0, none⟩ = some z0 := by unfold World.cell?; rw [show w3.heap[(⟨W.heap.size, 0, none⟩ : Addr).block]? = _ from hzz]; rfl
      have d1 : w3.cell? ⟨W.heap.size, 1, none⟩ = some z1 := by unfold World.cell?; rw [show w3.heap[(⟨W.heap.size, 1, none⟩ : Addr).block]? = _ from hzz]; rfl
      have d2 : w3.cell? ⟨W.heap.size, 2, none⟩ = some z2 := by unfold World.cell?; rw [show w3.heap[(⟨W.heap.size, 2, none⟩ : Addr).block]? = _ from hzz]; rfl
      have d3 : w3.cell? ⟨W.heap.size, 3, none⟩ = some z3 := by unfold World.cell?; rw [show w3.heap[(⟨W.heap.size, 3, none⟩ : Addr).block]? = _ from hzz]; rfl
      have d4 : w3.cell? ⟨W.heap.size, 4, none⟩ = some z4 := by unfold World.cell?; rw [show w3.heap[(⟨W.heap.size, 4, none⟩ : Addr).block]? = _ from hzz]; rfl
      have d5 : w3.cell? ⟨W.heap.size, 5, none⟩ = some z5 := by unfold World.cell?; rw [show w3.heap[(⟨W.heap.size, 5, none⟩ : Addr).block]? = _ from hzz]; rfl
      have d6 : w3.cell? ⟨W.heap.size, 6, none⟩ = some z6 := by unfold World.cell?; rw [show w3.heap[(⟨W.heap.size, 6, none⟩ : Addr).block]? = _ from hzz]; rfl
      have d7 : w3.cell? ⟨W.heap.size, 7, none⟩ = some z7 := by unfold World.cell?; rw [show w3.heap[(⟨W.heap.size, 7, none⟩ : Addr).block]? = _ from hzz]; rfl
      have d8 : w3.cell? ⟨W.heap.size, 8, none⟩ = some z8 := by unfold World.cell?; rw [show w3.heap[(⟨W.heap.size, 8, none⟩ : Addr).block]? = _ from hzz]; rfl
      have d9 : w3.cell? ⟨W.heap.size, 9, none⟩ = some z9 := by unfold World.cell?; rw [show w3.heap[(⟨W.heap.size, 9, none⟩ : Addr).block]? = _ from hzz]; rfl
      have d10 : w3.cell? ⟨W.heap.size, 10, none⟩ = some z10 := by unfold World.cell?; rw [show w3.heap[(⟨W.heap.size, 10, none⟩ : Addr).block]? = _ from hzz]; rfl
      have d11 : w3.cell? ⟨W.heap.size, 11, none⟩ = some z11 := by unfold World.cell?; rw [show w3.heap[(⟨W.heap.size, 11, none⟩ : Addr).block]? = _ from hzz]; rfl
      have d12 : w3.cell? ⟨W.heap.size, 12, none⟩ = some z12 := by unfold World.cell?; rw [show w3.heap[(⟨W.heap.size, 12, none⟩ : Addr).block]? = _ from hzz]; rfl
      have d13 : w3.cell? ⟨W.heap.size, 13, none⟩ = some z13 := by unfold World.cell?; rw [show w3.heap[(⟨W.heap.size, 13, none⟩ : Addr).block]? = _ from hzz]; rfl
      have hfr : ∀ j, w3.frozen? ⟨W.heap.size, j, none⟩ = false := fun j => by unfold World.frozen?; rw [show w3.heap[(⟨W.heap.size, j, none⟩ : Addr).block]? = _ from hzz]; rfl
      have HBE := Lib.hid (putEv_below HB3.out (Nat.le_refl _) (ev0 0) evs0)
      have HZE := Lib.hid (putEv_heap rfl hzz (ev0 0) evs0)
      have HIE := Lib.hid (putEv_in HNI.out HNF.out (B := W.heap.size) (by omega) (ev0 0) evs0)
      clear hzz
      go_wp2_with fail
      clear d0 d1 d2 d3 d4 d5 d6 d7 d8 d9 d10 d11 d12 d13 hfr
      change bodyPost _ _ _ _ _ (putEv w3 W.heap.size (ev0 0) evs0)
      generalize putEv w3 W.heap.size (ev0 0) evs0 = w9 at *
      have hz9 := HZE.out
      have c0 : w9.cell? ⟨W.heap.size, 0, none⟩ = some (.int .i64 (ev0 0).kind) := by unfold World.cell?; rw [show w9.heap[(⟨W.heap.size, 0, none⟩ : Addr).block]? = _ from hz9]; rfl
      have c1 : w9.cell? ⟨W.heap.size, 1, none⟩ = some (.int .i64 (ev0 0).queue) := by unfold World.cell?; rw [show w9.heap[(⟨W.heap.size, 1, none⟩ : Addr).block]? = _ from hz9]; rfl
      have c2 : w9.cell? ⟨W.heap.size, 2, none⟩ = some (.int .i64 (ev0 0).n) := by unfold World.cell?; rw [show w9.heap[(⟨W.heap.size, 2, none⟩ : Addr).block]? = _ from hz9]; rfl
      have c3 : w9.cell? ⟨W.heap.size, 3, none⟩ = some (.int .i64 (ev0 0).aat) := by unfold World.cell?; rw [show w9.heap[(⟨W.heap.size, 3, none⟩ : Addr).block]? = _ from hz9]; rfl
      have c4 : w9.cell? ⟨W.heap.size, 4, none⟩ = some (.int .i64 (ev0 0).lack) := by unfold World.cell?; rw [show w9.heap[(⟨W.heap.size, 4, none⟩ : Addr).block]? = _ from hz9]; rfl
      have c5 : w9.cell? ⟨W.heap.size, 5, none⟩ = some (.string (S (ev0 0).topic)) := by unfold World.cell?; rw [show w9.heap[(⟨W.heap.size, 5, none⟩ : Addr).block]? = _ from hz9]; rfl
      have c6 : w9.cell? ⟨W.heap.size, 6, none⟩ = some (.string (S (ev0 0).group)) := by unfold World.cell?; rw [show w9.heap[(⟨W.heap.size, 6, none⟩ : Addr).block]? = _ from hz9]; rfl
      have c7 : w9.cell? ⟨W.heap.size, 7, none⟩ = some (.string (S (ev0 0).tag)) := by unfold World.cell?; rw [show w9.heap[(⟨W.heap.size, 7, none⟩ : Addr).block]? = _ from hz9]; rfl
      have c8 : w9.cell? ⟨W.heap.size, 8, none⟩ = some (.string (S (ev0 0).key)) := by unfold World.cell?; rw [show w9.heap[(⟨W.heap.size, 8, none⟩ : Addr).block]? = _ from hz9]; rfl
      have c9 : w9.cell? ⟨W.heap.size, 9, none⟩ = some (.string (S (ev0 0).body)) := by unfold World.cell?; rw [show w9.heap[(⟨W.heap.size, 9, none⟩ : Addr).block]? = _ from hz9]; rfl
      have c10 : w9.cell? ⟨W.heap.size, 10, none⟩ = some (.slice evs0.ka (ev0 0).keys.length evs0.kc) := by unfold World.cell?; rw [show w9.heap[(⟨W.heap.size, 10, none⟩ : Addr).block]? = _ from hz9]; rfl
      have c11 : w9.cell? ⟨W.heap.size, 11, none⟩ = some (.slice evs0.ta (ev0 0).tags.length evs0.tc) := by unfold World.cell?; rw [show w9.heap[(⟨W.heap.size, 11, none⟩ : Addr).block]? = _ from hz9]; rfl
      have c12 : w9.cell? ⟨W.heap.size, 12, none⟩ = some (.slice evs0.pa (ev0 0).keep.length evs0.pc) := by unfold World.cell?; rw [show w9.heap[(⟨W.heap.size, 12, none⟩ : Addr).block]? = _ from hz9]; rfl
      have c13 : w9.cell? ⟨W.heap.size, 13, none⟩ = some (.bool (ev0 0).sync) := by unfold World.cell?; rw [show w9.heap[(⟨W.heap.size, 13, none⟩ : Addr).block]? = _ from hz9]; rfl
      refine bodyPost_ret (v := .tuple #[.agg ((ev0 0).cells evs0), .int .i64 4]) ?_ rfl ⟨evs0, by rw [HT.out], by rw [HT.out]; exact HIE.out, by rw [HT.out]; exact Nat.le_refl _, HBE.out⟩
      clear hz9 HZE HIE HBE
      simp [results, Tryz.results11, go_sem, Ev.cells, c0, c1, c2, c3, c4, c5, c6, c7, c8, c9, c10, c11, c12, c13]
end Go.Proofs.YtadhkeboaapfcaaGreatDoor.EvW
