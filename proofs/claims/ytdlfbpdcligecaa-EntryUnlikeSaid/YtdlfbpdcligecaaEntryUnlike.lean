/- The statement EntryUnlike: unlike entries that have bytes have unlike ones. No condition. -/
import Derived.Test.YtdlfbpdcligecaaEntE
import Derived.Test.YtdlfbpdcligecaaEntryPuts
import Derived.Test.YtdlfbpdcligecaaOpenTwo
namespace Go.Proofs.Ytdlfbpdcligecaa.entryUnlike
open Go.ChangeShapes Go.WideShapes Go.ChangeAt Go.RowKit OctW OctMath EntW entryPuts
set_option maxRecDepth 100000
set_option linter.unusedSimpArgs false
set_option linter.unusedVariables false

theorem cells8 {w : World} {g : Nat} {v0 v1 v2 v3 v4 v5 v6 v7 : Value} {T : TypeId} (h : w.heap[g]? = some (.cells #[v0, v1, v2, v3, v4, v5, v6, v7] T (0, 0))) :
    w.cell? ⟨g, 0, none⟩ = some v0 ∧ w.cell? ⟨g, 1, none⟩ = some v1 ∧ w.cell? ⟨g, 2, none⟩ = some v2 ∧ w.cell? ⟨g, 3, none⟩ = some v3 ∧ w.cell? ⟨g, 4, none⟩ = some v4 ∧ w.cell? ⟨g, 5, none⟩ = some v5 ∧ w.cell? ⟨g, 6, none⟩ = some v6 ∧ w.cell? ⟨g, 7, none⟩ = some v7 := by
  refine ⟨?_, ?_, ?_, ?_, ?_, ?_, ?_, ?_⟩ <;> rw [Lib.cell_of_heap h] <;> rfl

theorem pair (n0 n1 n2 n3 : Nat) (h0 : 1 ≤ n0 ∧ n0 ≤ 7) (h1 : 1 ≤ n1 ∧ n1 ≤ 7) (h2 : 1 ≤ n2 ∧ n2 ≤ 7) (h3 : 1 ≤ n3 ∧ n3 ≤ 7) (a b c d a' b' c' d' : Int) :
    widOk (ws4 n0 n1 n2 n3 a b c d) = false ∨ (widOk (ws4 n0 n1 n2 n3 a b c d) = true ∧ widOk (ws4 n0 n1 n2 n3 a' b' c' d') = false) ∨
    (widOk (ws4 n0 n1 n2 n3 a b c d) = true ∧ widOk (ws4 n0 n1 n2 n3 a' b' c' d') = true ∧ widW (ws4 n0 n1 n2 n3 a b c d) = widW (ws4 n0 n1 n2 n3 a' b' c' d') ∧ a = a' ∧ b = b' ∧ c = c' ∧ d = d') ∨
    (widOk (ws4 n0 n1 n2 n3 a b c d) = true ∧ widOk (ws4 n0 n1 n2 n3 a' b' c' d') = true ∧ ¬ (S (widW (ws4 n0 n1 n2 n3 a b c d))).toList = (S (widW (ws4 n0 n1 n2 n3 a' b' c' d'))).toList ∧ ¬ a = a') ∨
    (widOk (ws4 n0 n1 n2 n3 a b c d) = true ∧ widOk (ws4 n0 n1 n2 n3 a' b' c' d') = true ∧ ¬ (S (widW (ws4 n0 n1 n2 n3 a b c d))).toList = (S (widW (ws4 n0 n1 n2 n3 a' b' c' d'))).toList ∧ a = a' ∧ ¬ b = b') ∨
    (widOk (ws4 n0 n1 n2 n3 a b c d) = true ∧ widOk (ws4 n0 n1 n2 n3 a' b' c' d') = true ∧ ¬ (S (widW (ws4 n0 n1 n2 n3 a b c d))).toList = (S (widW (ws4 n0 n1 n2 n3 a' b' c' d'))).toList ∧ a = a' ∧ b = b' ∧ ¬ c = c') ∨
    (widOk (ws4 n0 n1 n2 n3 a b c d) = true ∧ widOk (ws4 n0 n1 n2 n3 a' b' c' d') = true ∧ ¬ (S (widW (ws4 n0 n1 n2 n3 a b c d))).toList = (S (widW (ws4 n0 n1 n2 n3 a' b' c' d'))).toList ∧ a = a' ∧ b = b' ∧ c = c' ∧ ¬ d = d') := by
  have hw : ∀ a b c d, ∀ p ∈ ws4 n0 n1 n2 n3 a b c d, 1 ≤ p.1 ∧ p.1 ≤ 7 := by
    intro a b c d p hp
    simp only [ws4, List.mem_cons, List.not_mem_nil, or_false] at hp
    rcases hp with rfl | rfl | rfl | rfl <;> assumption
  have g1 := getW_four n0 n1 n2 n3 a b c d (hw a b c d)
  have g2 := getW_four n0 n1 n2 n3 a' b' c' d' (hw a' b' c' d')
  cases o1 : widOk (ws4 n0 n1 n2 n3 a b c d) with
  | false => exact .inl rfl
  | true =>
    right
    cases o2 : widOk (ws4 n0 n1 n2 n3 a' b' c' d') with
    | false => exact .inl ⟨rfl, rfl⟩
    | true =>
      right
      have m1 := widOk_nat n0 n1 n2 n3 a b c d o1
      have m2 := widOk_nat n0 n1 n2 n3 a' b' c' d' o2
      rw [o1, if_pos rfl] at g1
      rw [o2, if_pos rfl] at g2
      have inj : (S (widW (ws4 n0 n1 n2 n3 a b c d))).toList = (S (widW (ws4 n0 n1 n2 n3 a' b' c' d'))).toList → a = a' ∧ b = b' ∧ c = c' ∧ d = d' := by
        intro h
        rw [S_toList, S_toList] at h
        rw [h, g2] at g1
        obtain ⟨x, y, z, t, rfl, rfl, rfl, rfl⟩ := m1
        obtain ⟨x', y', z', t', rfl, rfl, rfl, rfl⟩ := m2
        simp only [Prod.mk.injEq, List.cons.injEq, Int.toNat_natCast] at g1
        obtain ⟨⟨rfl, rfl, rfl, rfl, _⟩, _⟩ := g1
        exact ⟨rfl, rfl, rfl, rfl⟩
      by_cases ha : a = a'
      · by_cases hb : b = b'
        · by_cases hc : c = c'
          · by_cases hd : d = d'
            · left; subst ha hb hc hd; exact ⟨rfl, rfl, rfl, rfl, rfl, rfl, rfl⟩
            · right; right; right; right; exact ⟨rfl, rfl, fun h => hd (inj h).2.2.2, ha, hb, hc, hd⟩
          · right; right; right; left; exact ⟨rfl, rfl, fun h => hc (inj h).2.2.1, ha, hb, hc⟩
        · right; right; left; exact ⟨rfl, rfl, fun h => hb (inj h).2.1, ha, hb⟩
      · right; left; exact ⟨rfl, rfl, fun h => ha (inj h).1, ha⟩

set_option maxHeartbeats 4000000 in
theorem law (W : World) (a1 : Int) (ha1 : In a1) (b1 : Int) (hb1 : In b1) (c1 : Int) (hc1 : In c1) (d1 : Int) (hd1 : In d1) (a2 : Int) (ha2 : In a2) (b2 : Int) (hb2 : In b2) (c2 : Int) (hc2 : In c2) (d2 : Int) (hd2 : In d2) (a3 : Int) (ha3 : In a3) (b3 : Int) (hb3 : In b3) (c3 : Int) (hc3 : In c3) (d3 : Int) (hd3 : In d3) (a4 : Int) (ha4 : In a4) (b4 : Int) (hb4 : In b4) (c4 : Int) (hc4 : In c4) (d4 : Int) (hd4 : In d4) :
    Calls Try.prog 3 #[.agg #[.int .i64 a1, .int .i64 b1, .int .i64 c1, .int .i64 d1, .int .i64 a2, .int .i64 b2, .int .i64 c2, .int .i64 d2], .agg #[.int .i64 a3, .int .i64 b3, .int .i64 c3, .int .i64 d3, .int .i64 a4, .int .i64 b4, .int .i64 c4, .int .i64 d4]] W fun e w' => e = .returned (.bool true) ∧ Below W.heap.size W w' := by
  have P1 : Hid (∀ w, Calls Try.prog 13 #[.agg #[.int .i64 a1, .int .i64 b1, .int .i64 c1, .int .i64 d1]] w fun e w' => e = .returned (.tuple #[.string (S (widW (ws4 6 2 5 7 a1 b1 c1 d1))), .bool (widOk (ws4 6 2 5 7 a1 b1 c1 d1))]) ∧ Below w.heap.size w w') := fun w => place_put a1 b1 c1 d1 ha1 hb1 hc1 hd1 w
  have P2 : Hid (∀ w, Calls Try.prog 13 #[.agg #[.int .i64 a2, .int .i64 b2, .int .i64 c2, .int .i64 d2]] w fun e w' => e = .returned (.tuple #[.string (S (widW (ws4 6 2 5 7 a2 b2 c2 d2))), .bool (widOk (ws4 6 2 5 7 a2 b2 c2 d2))]) ∧ Below w.heap.size w w') := fun w => place_put a2 b2 c2 d2 ha2 hb2 hc2 hd2 w
  have P3 : Hid (∀ w, Calls Try.prog 14 #[.agg #[.int .i64 a3, .int .i64 b3, .int .i64 c3, .int .i64 d3]] w fun e w' => e = .returned (.tuple #[.string (S (widW (ws4 6 6 6 2 a3 b3 c3 d3))), .bool (widOk (ws4 6 6 6 2 a3 b3 c3 d3))]) ∧ Below w.heap.size w w') := fun w => mark_put a3 b3 c3 d3 ha3 hb3 hc3 hd3 w
  have P4 : Hid (∀ w, Calls Try.prog 14 #[.agg #[.int .i64 a4, .int .i64 b4, .int .i64 c4, .int .i64 d4]] w fun e w' => e = .returned (.tuple #[.string (S (widW (ws4 6 6 6 2 a4 b4 c4 d4))), .bool (widOk (ws4 6 6 6 2 a4 b4 c4 d4))]) ∧ Below w.heap.size w w') := fun w => mark_put a4 b4 c4 d4 ha4 hb4 hc4 hd4 w
  clear ha1 hb1 hc1 hd1 ha2 hb2 hc2 hd2 ha3 hb3 hc3 hd3 ha4 hb4 hc4 hd4
  go_enter Try.func3, Try.ntmps3
  go_wp2_with fail
  generalize hW3 : ((W.alloc (.cells #[.int .i64 a1, .int .i64 b1, .int .i64 c1, .int .i64 d1, .int .i64 a2, .int .i64 b2, .int .i64 c2, .int .i64 d2] 24)).alloc (.cells #[.int .i64 a3, .int .i64 b3, .int .i64 c3, .int .i64 d3, .int .i64 a4, .int .i64 b4, .int .i64 c4, .int .i64 d4] 27)) = W3
  have B0 : Hid (W3.heap[W.heap.size]? = some (.cells #[.int .i64 a1, .int .i64 b1, .int .i64 c1, .int .i64 d1, .int .i64 a2, .int .i64 b2, .int .i64 c2, .int .i64 d2] 24 (0, 0))) := by rw [← hW3]; exact (heap_old (by simp only [World.size_alloc]; omega)).trans (heap_at rfl)
  have B1 : Hid (W3.heap[W.heap.size + 1]? = some (.cells #[.int .i64 a3, .int .i64 b3, .int .i64 c3, .int .i64 d3, .int .i64 a4, .int .i64 b4, .int .i64 c4, .int .i64 d4] 27 (0, 0))) := by rw [← hW3]; exact heap_at (by simp)
  have HB : Hid (Below W.heap.size W W3) := by rw [← hW3]; exact ((Below.refl _ W).alloc (Nat.le_refl _) _).alloc (by simp) _
  have hz : W3.heap.size = W.heap.size + 2 := by rw [← hW3]; simp
  clear hW3
  have HZ := Lib.hid hz
  clear hz
  refine (awake07_any _).mono ?_
  rintro e y0 ⟨rfl, hb1⟩
  have E0 : Hid (Below (W.heap.size + 2) W3 y0) := by rw [← HZ.out]; exact hb1
  clear hb1
  obtain ⟨k0, k1, k2, k3, k4, k5, k6, k7⟩ := cells8 ((E0.out.block _ (by omega)).trans B0.out)
  go_wp2_with fail
  refine (P1.out _).mono ?_
  rintro e y1 ⟨rfl, hb1⟩
  have E1 : Hid (Below (W.heap.size + 2) W3 y1) := E0.out.trans (hb1.mono (by have := E0.out.size; have := HZ.out; omega))
  clear hb1 E0 k0 k1 k2 k3 k4 k5 k6 k7
  obtain ⟨k0, k1, k2, k3, k4, k5, k6, k7⟩ := cells8 ((E1.out.block _ (by omega)).trans B0.out)
  go_wp2_with fail
  refine (P2.out _).mono ?_
  rintro e y2 ⟨rfl, hb1⟩
  have E2 : Hid (Below (W.heap.size + 2) W3 y2) := E1.out.trans (hb1.mono (by have := E1.out.size; have := HZ.out; omega))
  clear hb1 E1 k0 k1 k2 k3 k4 k5 k6 k7
  obtain ⟨k0, k1, k2, k3, k4, k5, k6, k7⟩ := cells8 ((E2.out.block _ (by omega)).trans B1.out)
  go_wp2_with fail
  refine (P3.out _).mono ?_
  rintro e y3 ⟨rfl, hb1⟩
  have E3 : Hid (Below (W.heap.size + 2) W3 y3) := E2.out.trans (hb1.mono (by have := E2.out.size; have := HZ.out; omega))
  clear hb1 E2 k0 k1 k2 k3 k4 k5 k6 k7
  obtain ⟨k0, k1, k2, k3, k4, k5, k6, k7⟩ := cells8 ((E3.out.block _ (by omega)).trans B1.out)
  go_wp2_with fail
  refine (P4.out _).mono ?_
  rintro e y4 ⟨rfl, hb1⟩
  have E4 : Hid (Below (W.heap.size + 2) W3 y4) := E3.out.trans (hb1.mono (by have := E3.out.size; have := HZ.out; omega))
  clear hb1 E3 k0 k1 k2 k3 k4 k5 k6 k7
  obtain ⟨k0, k1, k2, k3, k4, k5, k6, k7⟩ := cells8 ((E4.out.block _ (by omega)).trans B0.out)
  obtain ⟨l0, l1, l2, l3, l4, l5, l6, l7⟩ := cells8 ((E4.out.block _ (by omega)).trans B1.out)
  have HE : Hid (Below W.heap.size W y4) := HB.out.trans (E4.out.mono (by omega))
  clear B0 B1 E4 P1 P2 P3 P4 HB HZ
  have Q1 := pair 6 2 5 7 (by omega) (by omega) (by omega) (by omega) a1 b1 c1 d1 a2 b2 c2 d2
  have Q2 := pair 6 6 6 2 (by omega) (by omega) (by omega) (by omega) a3 b3 c3 d3 a4 b4 c4 d4
  generalize widOk (ws4 6 2 5 7 a1 b1 c1 d1) = o1 at *
  generalize widOk (ws4 6 2 5 7 a2 b2 c2 d2) = o2 at *
  generalize widOk (ws4 6 6 6 2 a3 b3 c3 d3) = o3 at *
  generalize widOk (ws4 6 6 6 2 a4 b4 c4 d4) = o4 at *
  generalize widW (ws4 6 2 5 7 a1 b1 c1 d1) = s1 at *
  generalize widW (ws4 6 2 5 7 a2 b2 c2 d2) = s2 at *
  generalize widW (ws4 6 6 6 2 a3 b3 c3 d3) = s3 at *
  generalize widW (ws4 6 6 6 2 a4 b4 c4 d4) = s4 at *
  rcases Q1 with rfl | ⟨rfl, rfl⟩ | ⟨rfl, rfl, rfl, rfl, rfl, rfl, rfl⟩ | ⟨rfl, rfl, hs1, h1⟩ | ⟨rfl, rfl, hs1, rfl, h1⟩ | ⟨rfl, rfl, hs1, rfl, rfl, h1⟩ | ⟨rfl, rfl, hs1, rfl, rfl, rfl, h1⟩
  all_goals
    rcases Q2 with rfl | ⟨rfl, rfl⟩ | ⟨rfl, rfl, rfl, rfl, rfl, rfl, rfl⟩ | ⟨rfl, rfl, hs2, h2⟩ | ⟨rfl, rfl, hs2, rfl, h2⟩ | ⟨rfl, rfl, hs2, rfl, rfl, h2⟩ | ⟨rfl, rfl, hs2, rfl, rfl, rfl, h2⟩
  all_goals
    go_wp2_with fail
    go_ret
    clear k0 k1 k2 k3 k4 k5 k6 k7 l0 l1 l2 l3 l4 l5 l6 l7
    refine ⟨?_, HE.out⟩
    refine ret_bool ?_
    simp [*]

theorem lifted (os : Os) (started : os.Started) (H : Type) (enc : TypeId × Value → H) :
    ReturnsInHanded {} Try.checked os 3 .any (Rows.entryUnlikeSpec.pre6 enc Try.prog Try.f3 Rows.entryUnlikeRow.domain false) (Rows.entryUnlikeSpec.post enc Try.prog Try.f3 false true false false) := by
  refine returnsInHanded_of_change (C := Try.checked) own started (by kernel_rfl) Try.func3
    (ChangeSpec.witness6 (enc := enc) (C := Try.checked) false ⟨#[], #[.agg #[.int .i64 0, .int .i64 0, .int .i64 0, .int .i64 0, .int .i64 0, .int .i64 0, .int .i64 0, .int .i64 0], .agg #[.int .i64 0, .int .i64 0, .int .i64 0, .int .i64 0, .int .i64 0, .int .i64 0, .int .i64 0, .int .i64 0]], []⟩ 8 (by kernel_rfl) (by kernel_rfl) (by kernel_rfl) (by kernel_rfl)) ?_
  intro W base args ds gs before hval0 hW hcnd0 _
  have hval : ∀ (j : Nat) t v, Try.f3.params[j]? = some t → args[j]? = some v → Value.okWide Try.prog W .any base t v := hval0
  have hW' := hW
  obtain ⟨p, q, hA0, hV, rfl, hfz, hnd⟩ := hW
  have hA : DataW.TrodAll enc Try.prog W 0 (fun _ => true) true Try.f3.params.toList args.toList ds p := hA0
  rw [Try.params3] at hA hval
  obtain ⟨v0, v1, d0, d1, p0, p1, rfl, rfl, rfl, h0, h1⟩ := trodAll_two hA
  obtain ⟨rfl, rfl⟩ := trodVars_none hV
  obtain ⟨a1, b1, c1, d1, a2, b2, c2, d2, rfl, wa1, wb1, wc1, wd1, wa2, wb2, wc2, wd2⟩ := open_two (ti := 3) Try.underlying24 Try.underlying23 Try.underlying3 (by kernel_rfl) (by kernel_rfl) (by kernel_rfl) ⟨rfl, rfl⟩ ⟨rfl, rfl⟩ ⟨rfl, rfl⟩ ⟨rfl, rfl⟩ (hval 0 24 v0 rfl rfl) h0
  obtain ⟨a3, b3, c3, d3, a4, b4, c4, d4, rfl, wa3, wb3, wc3, wd3, wa4, wb4, wc4, wd4⟩ := open_two (ti := 3) Try.underlying27 Try.underlying26 Try.underlying3 (by kernel_rfl) (by kernel_rfl) (by kernel_rfl) ⟨rfl, rfl⟩ ⟨rfl, rfl⟩ ⟨rfl, rfl⟩ ⟨rfl, rfl⟩ (hval 1 27 v1 rfl rfl) h1
  clear hA0 hval0
  refine (law W a1 (i64_range wa1) b1 (i64_range wb1) c1 (i64_range wc1) d1 (i64_range wd1) a2 (i64_range wa2) b2 (i64_range wb2) c2 (i64_range wc2) d2 (i64_range wd2) a3 (i64_range wa3) b3 (i64_range wb3) c3 (i64_range wc3) d3 (i64_range wd3) a4 (i64_range wa4) b4 (i64_range wb4) c4 (i64_range wc4) d4 (i64_range wd4)).mono fun e W' ⟨he, hb⟩ => ?_
  subst he
  refine ⟨_, rfl, law_post hW' ?_ (tb := 4) (by kernel_rfl) Try.underlying4 rfl ⟨rfl, rfl, rfl⟩ hb⟩
  rw [Try.params3]
  intro t ht
  have : t = 24 ∨ t = 27 := by simpa using ht
  rcases this with rfl | rfl <;> exact ⟨by kernel_rfl, of_decide_eq_true (by kernel_rfl)⟩

theorem proved : Rows.EntryUnlikeSaid :=
  OpenClaim.holds_of_wide 3 Try.f3 rfl rfl rfl rfl rfl rfl rfl ⟨rfl, rfl, rfl, rfl, rfl⟩ rfl rfl rfl rfl rfl (by kernel_rfl) Try.func3 (by kernel_rfl)
    (of_decide_eq_true (by kernel_rfl)) (by unfold Func.isWrapper; rw [if_neg (of_decide_eq_false (by kernel_rfl))]; exact ⟨rfl, rfl⟩)
    (fun os started H enc _ => lifted os started H enc)
end Go.Proofs.Ytdlfbpdcligecaa.entryUnlike
