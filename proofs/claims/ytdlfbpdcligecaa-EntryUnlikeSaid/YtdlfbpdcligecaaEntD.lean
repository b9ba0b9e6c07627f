/- The laws' own helpers of layer 7: the document's example; numbers as bytes. -/
import Derived.Test.YtdlfbpdcligecaaEntC
import Derived.Test.YtdlfbpdcligecaaGrow
namespace Go.Proofs.Ytdlfbpdcligecaa.EntW
open Go.RowKit OctW OctMath
set_option maxRecDepth 100000
set_option linter.unusedSimpArgs false
set_option linter.unusedVariables false

def zero20 : List UInt8 := List.replicate 20 0
theorem place_zero : widW (placeWs 0 0 0 0) = zero20 ∧ widOk (placeWs 0 0 0 0) = true := by decide
set_option maxHeartbeats 800000 in
theorem awake07_any (W : World) : Calls Try.prog 12 #[] W fun e w' => e = .returned (.bool true) ∧ Below W.heap.size W w' := by
  obtain ⟨i0, hi, hz0, hz1, hz2⟩ := info_parts (show (Try.prog.info? 5).map (fun i => (i.zero, i.size, i.bytes)) = some (some (.int .u8 0), 1, 1) by kernel_rfl)
  have hrun := fun w => run_make_bytes (P := Try.prog) w 67 5 i0 Try.underlying67 hi hz0 hz1 hz2 20 (by omega)
  simp only [show ((20 : Nat) : Int) = (20 : Int) from rfl] at hrun
  have HRUN := Lib.hid hrun
  clear hrun hi hz0 hz1 hz2
  go_enter Try.func12, Try.ntmps12
  go_wp2_with fail
  refine (place_put 0 0 0 0 (by omega) (by omega) (by omega) (by omega) _).mono ?_
  rw [place_zero.1, place_zero.2]
  rintro e w1 ⟨rfl, hb1⟩
  have HB1 := Lib.hid hb1
  have hrow := row_zeros w1 5 20
  have hstr := row_string (P := Try.prog) hrow 67 5 9 Try.underlying67 Try.underlying5 Try.underlying9 20 20 (by simp)
  have HSTR : Hid ((convert 67 9 (.slice (some ⟨w1.heap.size, 0, none⟩) 20 20)).run Try.prog (w1.alloc (.cells (zeros 20) 5)) = .ok (.string (S zero20)) (w1.alloc (.cells (zeros 20) 5))) := hstr
  have HB2 : Hid (Below W.heap.size W (w1.alloc (.cells (zeros 20) 5))) := HB1.out.alloc HB1.out.size _
  clear hb1 hrow hstr
  go_wp2_with fail
  rw [HRUN.out]
  generalize w1.alloc (.cells (zeros 20) 5) = w2 at *
  go_wp2_with fail
  rw [HSTR.out]
  go_wp2_with fail
  go_ret
  exact ⟨rfl, HB2.out⟩

def Ext (w w' : World) : Prop := Below w.heap.size w w'
theorem Ext.refl (w : World) : Ext w w := Below.refl _ _
theorem Ext.trans {u v w : World} (h : Ext u v) (k : Ext v w) : Ext u w := Below.trans h (Below.mono k h.size)

def ws4 (n0 n1 n2 n3 : Nat) (a b c d : Int) : List (Nat × Int) := [(n0, a), (n1, b), (n2, c), (n3, d)]
set_option maxHeartbeats 1600000 in
theorem bytes_any (n0 n1 n2 n3 : Nat) (h0 : 1 ≤ n0 ∧ n0 ≤ 7) (h1 : 1 ≤ n1 ∧ n1 ≤ 7) (h2 : 1 ≤ n2 ∧ n2 ≤ 7) (h3 : 1 ≤ n3 ∧ n3 ≤ 7) (a b c d : Int) (ha : -9223372036854775808 ≤ a ∧ a ≤ 9223372036854775807) (hb : -9223372036854775808 ≤ b ∧ b ≤ 9223372036854775807) (hc : -9223372036854775808 ≤ c ∧ c ≤ 9223372036854775807) (hd : -9223372036854775808 ≤ d ∧ d ≤ 9223372036854775807) (W : World) :
    Calls Try.prog 32 #[.agg #[.int .i64 n0, .int .i64 n1, .int .i64 n2, .int .i64 n3], .agg #[.int .i64 a, .int .i64 b, .int .i64 c, .int .i64 d]] W fun e w' => e = .returned (.tuple #[.string (S (widW (ws4 n0 n1 n2 n3 a b c d))), .bool (widOk (ws4 n0 n1 n2 n3 a b c d))]) ∧ Below W.heap.size W w' := by
  have HN : Hid (∀ i (h : i < 4), 1 ≤ (ws4 n0 n1 n2 n3 a b c d)[i].1 ∧ (ws4 n0 n1 n2 n3 a b c d)[i].1 ≤ 7) := by
    intro i hi
    match i, hi with
    | 0, _ => exact h0
    | 1, _ => exact h1
    | 2, _ => exact h2
    | 3, _ => exact h3
  have HX : Hid (∀ i (h : i < 4), -9223372036854775808 ≤ (ws4 n0 n1 n2 n3 a b c d)[i].2 ∧ (ws4 n0 n1 n2 n3 a b c d)[i].2 ≤ 9223372036854775807) := by
    intro i hi
    match i, hi with
    | 0, _ => exact ha
    | 1, _ => exact hb
    | 2, _ => exact hc
    | 3, _ => exact hd
  clear h0 h1 h2 h3 ha hb hc hd
  go_enter Try.func32, Try.ntmps32
  go_wp2_with fail
  have HC0 : Hid (∀ i (h : i < 4), ((W.alloc (.cells #[.int .i64 n0, .int .i64 n1, .int .i64 n2, .int .i64 n3] 58)).alloc (.cells #[.int .i64 a, .int .i64 b, .int .i64 c, .int .i64 d] 58)).cell? ⟨W.heap.size, i, none⟩ = some (.int .i64 ((ws4 n0 n1 n2 n3 a b c d)[i].1 : Nat))) := by
    intro i hi
    have hx : ((W.alloc (.cells #[.int .i64 n0, .int .i64 n1, .int .i64 n2, .int .i64 n3] 58)).alloc (.cells #[.int .i64 a, .int .i64 b, .int .i64 c, .int .i64 d] 58)).heap[W.heap.size]? = some (.cells #[.int .i64 n0, .int .i64 n1, .int .i64 n2, .int .i64 n3] 58 (0, 0)) := (heap_old (by simp only [World.size_alloc]; omega)).trans (heap_at rfl)
    rw [Lib.cell_of_heap hx]
    match i, hi with
    | 0, _ => rfl
    | 1, _ => rfl
    | 2, _ => rfl
    | 3, _ => rfl
  have HC1 : Hid (∀ i (h : i < 4), ((W.alloc (.cells #[.int .i64 n0, .int .i64 n1, .int .i64 n2, .int .i64 n3] 58)).alloc (.cells #[.int .i64 a, .int .i64 b, .int .i64 c, .int .i64 d] 58)).cell? ⟨W.heap.size + 1, i, none⟩ = some (.int .i64 (ws4 n0 n1 n2 n3 a b c d)[i].2)) := by
    intro i hi
    have hx : ((W.alloc (.cells #[.int .i64 n0, .int .i64 n1, .int .i64 n2, .int .i64 n3] 58)).alloc (.cells #[.int .i64 a, .int .i64 b, .int .i64 c, .int .i64 d] 58)).heap[W.heap.size + 1]? = some (.cells #[.int .i64 a, .int .i64 b, .int .i64 c, .int .i64 d] 58 (0, 0)) := heap_at (by simp)
    rw [Lib.cell_of_heap hx]
    match i, hi with
    | 0, _ => rfl
    | 1, _ => rfl
    | 2, _ => rfl
    | 3, _ => rfl
  have HBW : Hid (Below W.heap.size W ((W.alloc (.cells #[.int .i64 n0, .int .i64 n1, .int .i64 n2, .int .i64 n3] 58)).alloc (.cells #[.int .i64 a, .int .i64 b, .int .i64 c, .int .i64 d] 58))) := ((Below.refl _ W).alloc (Nat.le_refl _) _).alloc (by simp) _
  have hwl : (ws4 n0 n1 n2 n3 a b c d).length = 4 := rfl
  generalize (W.alloc (.cells #[.int .i64 n0, .int .i64 n1, .int .i64 n2, .int .i64 n3] 58)).alloc (.cells #[.int .i64 a, .int .i64 b, .int .i64 c, .int .i64 d] 58) = W2 at *
  go_loopw [6, 8] (fun s i wr => ∃ k : Nat, k ≤ 4 ∧ i = .int .i64 k ∧ s = .string (S (widL ((ws4 n0 n1 n2 n3 a b c d).take k))) ∧ Hid (Below W2.heap.size W2 wr) ∧ Hid (∀ p ∈ (ws4 n0 n1 n2 n3 a b c d).take k, fits p.1 p.2)) (fun _ i _ => 4 - (intOf i).toNat)
  case atStart => exact ⟨0, by omega, rfl, rfl, Below.refl _ _, by simp [Hid]⟩
  case round =>
    obtain ⟨k, hk, rfl, rfl, HB, HA⟩ := hrel
    by_cases hlt : k < 4
    · have hc0 := HC0.out k hlt
      have hc1 := HC1.out k hlt
      rw [← HB.out.cell (cell_lt hc0)] at hc0
      rw [← HB.out.cell (cell_lt hc1)] at hc1
      have hnk := HN.out k hlt
      have hxk := HX.out k hlt
      have hltw : k < (ws4 n0 n1 n2 n3 a b c d).length := hlt
      have hnl := widL_take (ws4 n0 n1 n2 n3 a b c d) k hltw
      have htk : ∀ y, y ∈ (ws4 n0 n1 n2 n3 a b c d).take (k + 1) ↔ y ∈ (ws4 n0 n1 n2 n3 a b c d).take k ∨ y = (ws4 n0 n1 n2 n3 a b c d)[k] := by intro y; rw [List.take_succ_eq_append_getElem hltw, List.mem_append, List.mem_singleton]
      have hmem : (ws4 n0 n1 n2 n3 a b c d)[k] ∈ ws4 n0 n1 n2 n3 a b c d := List.getElem_mem hltw
      have hlk := widL_le ((ws4 n0 n1 n2 n3 a b c d).take k) (fun p hp => by
        obtain ⟨i, hi, rfl⟩ := List.getElem_of_mem (List.mem_of_mem_take hp)
        exact (HN.out i hi).2)
      rw [List.length_take] at hlk
      generalize (ws4 n0 n1 n2 n3 a b c d)[k] = p at *
      obtain ⟨n, x⟩ := p
      simp only at *
      obtain ⟨hn1, hn7⟩ := hnk
      obtain ⟨hx0, hx1⟩ := hxk
      have HNL := Lib.hid hnl
      have HTK := Lib.hid htk
      have HMEM := Lib.hid hmem
      have hk4 : (k : Int) < 4 := by omega
      clear hnl htk hmem hltw
      go_wp2_with fail
      go_quiet ((go_at_call 17; exact quiet_same (fits_any n x hn7 hx0 hx1 _)))
      by_cases hf : fits n x
      · obtain ⟨z, rfl⟩ : ∃ z : Nat, x = z := ⟨x.toNat, by have := hf.1; omega⟩
        have HF := Lib.hid hf
        have hbb : decide (fits n (z : Int)) = true := decide_eq_true hf
        clear hf
        rw [hbb]
        clear hbb
        go_wp2_with fail
        have hd0 : (wr.drewN nq).cell? ⟨W.heap.size, k, none⟩ = some (.int .i64 (n : Int)) := hc0
        have hd1 : (wr.drewN nq).cell? ⟨W.heap.size + 1, k, none⟩ = some (.int .i64 (z : Int)) := hc1
        have HBD : Hid (Below W2.heap.size W2 (wr.drewN nq)) := below_drewN HB.out nq
        clear hc0 hc1 HB
        generalize wr.drewN nq = wd at *
        have hc0 : wd.drew.cell? ⟨W.heap.size, k, none⟩ = some (.int .i64 (n : Int)) := hd0
        have hc1 : wd.drew.cell? ⟨W.heap.size + 1, k, none⟩ = some (.int .i64 (z : Int)) := hd1
        clear hd0 hd1
        refine Grow.wp_region_g 8 [none, none, none, none, none, none, none, some (.inl (.string (S (be n z))))] Ext (by kernel_rfl) (by kernel_rfl) (by kernel_rfl) Ext.refl (fun _ _ _ => Ext.trans) ?_ ?_
        · intro K hK Y hY v w w' hR h
          simp only [List.mem_cons, List.not_mem_nil, or_false] at hK
          rcases hK with rfl | rfl | rfl | rfl | rfl | rfl | rfl | rfl <;> simp only [reduceCtorEq, Option.some.injEq] at hY
        simp only [List.take_succ_cons, List.take_zero, List.drop_succ_cons, List.drop_zero]
        iterate 3 (
          refine Grow.g_det rfl ?_
          apply Exists.intro
          refine ⟨fun w hw hF => ?_, ?_⟩
          · clear hF
            go_simp
            exact ⟨rfl, Ext.refl _⟩
          simp only [Act.put, List.setIfInBounds_toArray, List.set_cons_zero, List.set_cons_succ])
        refine Grow.g_det rfl ?_
        apply Exists.intro
        refine ⟨fun w hw hF => ?_, ?_⟩
        · clear hF
          have hcw := (Below.cell (p := ⟨W.heap.size, k, none⟩) hw (by simpa using cell_lt hc0)).trans hc0
          go_simp
          exact ⟨rfl, Ext.refl _⟩
        simp only [Act.put, List.setIfInBounds_toArray, List.set_cons_zero, List.set_cons_succ]
        iterate 2 (
          refine Grow.g_det rfl ?_
          apply Exists.intro
          refine ⟨fun w hw hF => ?_, ?_⟩
          · clear hF
            go_simp
            exact ⟨rfl, Ext.refl _⟩
          simp only [Act.put, List.setIfInBounds_toArray, List.set_cons_zero, List.set_cons_succ])
        refine Grow.g_det rfl ?_
        apply Exists.intro
        refine ⟨fun w hw hF => ?_, ?_⟩
        · clear hF
          have hcw := (Below.cell (p := ⟨W.heap.size + 1, k, none⟩) hw (by simpa using cell_lt hc1)).trans hc1
          go_simp
          exact ⟨rfl, Ext.refl _⟩
        simp only [Act.put, List.setIfInBounds_toArray, List.set_cons_zero, List.set_cons_succ]
        refine Grow.g_con rfl (fun w2 hw hF => ?_) ?_
        · clear hF
          go_simp
          exact (rnum_any n z (by omega) (by omega) w2).mono fun e w3 ⟨he, hb3⟩ => ⟨_, he, rfl, hb3⟩
        simp only [Act.put, List.setIfInBounds_toArray, List.set_cons_zero, List.set_cons_succ]
        refine Grow.g_nil fun w3 hw3 hF => ?_
        clear hF
        have HB3 : Hid (Below W2.heap.size W2 w3) := (HBD.out.drew).trans (Below.mono (show Below wd.drew.heap.size wd.drew w3 from hw3) HBD.out.size)
        have hs1 : (S (widL ((ws4 n0 n1 n2 n3 a b c d).take k))).size ≤ 28 := by rw [S_size]; omega
        have hs2 : (S (be n z)).size ≤ 7 := by rw [S_size, be_length]; omega
        have hcat : Hid (S (widL ((ws4 n0 n1 n2 n3 a b c d).take k)) ++ S (be n z) = S (widL ((ws4 n0 n1 n2 n3 a b c d).take (k + 1)))) := by rw [S_append, HNL.out]; rfl
        generalize S (widL ((ws4 n0 n1 n2 n3 a b c d).take k)) = s1 at *
        generalize S (be n z) = s2 at *
        clear hw3 hc0 hc1 HBD
        repeat go_step
        rw [hcat.out]
        repeat go_step
        go_wp2_with fail
        go_roundw
        case rel =>
          refine ⟨k + 1, by omega, by go_num, rfl, HB3, fun y hy => ?_⟩
          rcases (HTK.out y).1 hy with hy | rfl
          · exact HA.out y hy
          · exact HF.out
        case measure => simp [intOf]; omega
      · have ho : Hid (widOk (ws4 n0 n1 n2 n3 a b c d) = false) := decide_eq_false (fun h => hf (h _ HMEM.out))
        have hw : Hid (widW (ws4 n0 n1 n2 n3 a b c d) = []) := by show _ = _; unfold widW; rw [ho.out]; rfl
        have hbb : decide (fits n x) = false := decide_eq_false hf
        clear hf
        rw [hbb]
        clear hbb
        go_wp2_with fail
        go_ret2
        rw [ho.out, hw.out]
        exact ⟨rfl, HBW.out.trans ((below_drewN HB.out _).mono HBW.out.size)⟩
    · have ek : k = 4 := by omega
      subst ek
      have htk : (ws4 n0 n1 n2 n3 a b c d).take 4 = ws4 n0 n1 n2 n3 a b c d := rfl
      rw [htk] at HA ⊢
      have ho : Hid (widOk (ws4 n0 n1 n2 n3 a b c d) = true) := decide_eq_true HA.out
      have hw : Hid (widW (ws4 n0 n1 n2 n3 a b c d) = widL (ws4 n0 n1 n2 n3 a b c d)) := by show _ = _; unfold widW; rw [ho.out]; rfl
      go_wp2_with fail
      go_ret2
      rw [ho.out, hw.out]
      exact ⟨rfl, HBW.out.trans (HB.out.mono HBW.out.size)⟩
end Go.Proofs.Ytdlfbpdcligecaa.EntW
