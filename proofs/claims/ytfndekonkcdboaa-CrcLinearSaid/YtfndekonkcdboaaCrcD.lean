/- A sum's bytes, sealing and opening. -/
import Derived.Test.YtfndekonkcdboaaCrcC
import Derived.Test.YtfndekonkcdboaaGrow
namespace Go.Proofs.Ytfndekonkcdboaa.CrcW
open Go.RowKit CrcMath
set_option maxRecDepth 100000
set_option linter.unusedSimpArgs false
set_option linter.unusedVariables false

theorem word_lits (n : Nat) (hn : n < 4294967296) : ∃ c0 c1 c2 c3 : UInt8, Hid (be4 n = [c0, c1, c2, c3]) ∧
    (n : Int) / 16777216 = (c0.toNat : Int) ∧ (n : Int) / 65536 % 256 = (c1.toNat : Int) ∧ (n : Int) / 256 % 256 = (c2.toNat : Int) ∧ (n : Int) % 256 = (c3.toNat : Int) := by
  refine ⟨_, _, _, _, rfl, ?_, ?_, ?_, ?_⟩ <;> simp only [UInt8.toNat_ofNat'] <;> omega

set_option maxHeartbeats 400000 in
theorem word_at (n : Nat) (hn : n < 4294967296) (c0 c1 c2 c3 : UInt8) (hb : Hid (be4 n = [c0, c1, c2, c3])) (w : World) :
    Calls Try.prog 21 #[.int .i64 (n : Int)] w fun e w' => e = .returned (.agg #[.int .u8 c0.toNat, .int .u8 c1.toNat, .int .u8 c2.toNat, .int .u8 c3.toNat]) ∧ Below w.heap.size w w' := by
  obtain ⟨d0, d1, d2, d3, hb', e0, e1, e2, e3⟩ := word_lits n hn
  obtain ⟨rfl, rfl, rfl, rfl⟩ : c0 = d0 ∧ c1 = d1 ∧ c2 = d2 ∧ c3 = d3 := by have := hb.out.symm.trans hb'.out; simpa using this
  clear hb hb'
  go_enter Try.func21, Try.ntmps21
  go_wp2_with fail
  exact bodyPost_ret (v := .agg #[.int .u8 c0.toNat, .int .u8 c1.toNat, .int .u8 c2.toNat, .int .u8 c3.toNat]) (by simp [results, Try.results21, go_sem]) rfl
    ⟨rfl, (Below.refl _ _).alloc (Nat.le_refl _) _⟩
theorem word_any (n : Nat) (hn : n < 4294967296) (w : World) :
    Calls Try.prog 21 #[.int .i64 (n : Int)] w fun e w' => ∃ c0 c1 c2 c3 : UInt8, Hid (be4 n = [c0, c1, c2, c3]) ∧
      e = .returned (.agg #[.int .u8 c0.toNat, .int .u8 c1.toNat, .int .u8 c2.toNat, .int .u8 c3.toNat]) ∧ Below w.heap.size w w' := by
  obtain ⟨c0, c1, c2, c3, hb, _⟩ := word_lits n hn
  exact (word_at n hn c0 c1 c2 c3 hb w).mono fun e w' h => ⟨c0, c1, c2, c3, hb, h⟩

set_option maxHeartbeats 400000 in
theorem seal_nil (s : ByteArray) (w : World) :
    Calls Try.prog 15 #[.pointer none, .string s] w fun e w' => e = .returned (.string ⟨#[]⟩) ∧ w = w' := by
  go_enter Try.func15, Try.ntmps15
  go_wp2_with fail
  go_ret
  exact ⟨rfl, rfl⟩

set_option maxHeartbeats 400000 in
theorem seal_any (B : Nat) (s : ByteArray) (hs : s.size ≤ 140737488355328) (w : World) (hB : B < w.heap.size) (hT : Tabs w B) :
    Calls Try.prog 15 #[.pointer (some ⟨B, 0, none⟩), .string s] w fun e w' => e = .returned (.string ⟨(sealed s.data.toList).toArray⟩) ∧ Below w.heap.size w w' := by
  have HT := Lib.hid hT; clear hT
  go_enter Try.func15, Try.ntmps15
  go_wp2_with fail
  have hb0 : Below w.heap.size w (w.alloc (.cells #[.string s] 9)) := (Below.refl _ _).alloc (Nat.le_refl _) _
  have hT1 : Tabs (w.alloc (.cells #[.string s] 9)) B := fun k j hk hj => by rw [hb0.cell (by simpa using hB)]; exact HT.out k j hk hj
  refine (tsum_some B w.heap.size 0 1 [s] (by simp [maxLen]) (by simp [maxLen]; omega) _ (fun i hi => ?_) hT1).mono ?_
  · have : i = 0 := by simpa using hi
    subst this; simp [go_sem]
  rintro e w1 ⟨rfl, hd⟩
  have hn := (sum (flat [s])).isLt
  have hb1 : Below w.heap.size w w1 := hb0.trans (hd.below _)
  have HS : Hid ((sum (flat [s])).toNat = (sum s.data.toList).toNat) := by unfold flat; simp [Hid]
  generalize (sum (flat [s])).toNat = n at *
  have HB1 := Lib.hid hb1
  clear hb1 hb0 hT1 hd
  go_wp2_with (go_at_call 21; refine (word_any n hn _).mono ?_; rintro e w2 ⟨c0, c1, c2, c3, hb, rfl, hb2⟩)
  rw [bytes_string (P := Try.prog) _ 29 5 9 Try.underlying29 Try.underlying5 Try.underlying9 w2.heap.size 0 4 [c0, c1, c2, c3] (fun i hi => by
    rw [World.cell?_alloc_new]; match i, hi with | 0, _ => rfl | 1, _ => rfl | 2, _ => rfl | 3, _ => rfl) 4 rfl]
  go_wp2_with fail
  go_ret
  refine ⟨ret_str ?_, (HB1.out.trans (hb2.mono HB1.out.size)).alloc (Nat.le_trans HB1.out.size hb2.size) _⟩
  unfold sealed
  rw [← HS.out, hb.out]
  apply ByteArray.ext
  apply Array.ext'
  simp

theorem be4_length (n : Nat) : (be4 n).length = 4 := rfl

set_option maxHeartbeats 400000 in
theorem open_nil (s : ByteArray) (w : World) :
    Calls Try.prog 16 #[.pointer none, .string s] w fun e w' => e = .returned (.tuple #[.string ⟨#[]⟩, .bool false]) ∧ Drawn w w' := by
  go_enter Try.func16, Try.ntmps16
  go_wp2_with fail
  go_quiet (fail)
  go_wp2_with fail
  go_ret2
  exact ⟨rfl, ⟨_, rfl⟩⟩

set_option maxHeartbeats 400000 in
theorem open_short (B : Nat) (s : ByteArray) (hs : s.size < 4) (w : World) :
    Calls Try.prog 16 #[.pointer (some ⟨B, 0, none⟩), .string s] w fun e w' => e = .returned (.tuple #[.string ⟨#[]⟩, .bool false]) ∧ Drawn w w' := by
  go_enter Try.func16, Try.ntmps16
  go_wp2_with fail
  have hd : decide ((s.size : Int) < 4) = true := by simp; omega
  go_quiet (fail)
  go_wp2_with fail
  go_ret2
  exact ⟨rfl, ⟨_, rfl⟩⟩

/-- only new memory -/
def Ext (w w' : World) : Prop := Below w.heap.size w w'
theorem Ext.refl (w : World) : Ext w w := Below.refl _ _
theorem Ext.trans {u v w : World} (h : Ext u v) (k : Ext v w) : Ext u w := Below.trans h (Below.mono k h.size)

/-- four bytes that lie at the head of a block -/
def Four (b : Nat) (c0 c1 c2 c3 : UInt8) (w : World) : Prop := b < w.heap.size ∧ w.cell? ⟨b, 0, none⟩ = some (.int .u8 c0.toNat) ∧ w.cell? ⟨b, 1, none⟩ = some (.int .u8 c1.toNat) ∧ w.cell? ⟨b, 2, none⟩ = some (.int .u8 c2.toNat) ∧ w.cell? ⟨b, 3, none⟩ = some (.int .u8 c3.toNat)

theorem eq4 (x0 x1 x2 x3 y0 y1 y2 y3 : Int) (w : World) : (Op.equalIn 10000 50 (.agg #[.int .u8 x0, .int .u8 x1, .int .u8 x2, .int .u8 x3]) (.agg #[.int .u8 y0, .int .u8 y1, .int .u8 y2, .int .u8 y3])).run Try.prog w
    = .ok (x0 == y0 && x1 == y1 && x2 == y2 && x3 == y3) w := by
  show (Op.equalIn (9999 + 1) _ _ _).run _ _ = _
  unfold Op.equalIn
  have hz : (sizeOf 5).run Try.prog w = .ok 1 w := by kernel_rfl
  simp only [go_sem, Sem.run_bind, run_underlying Try.underlying50, hz, Result.andThen, Std.Legacy.Range.forIn_eq_forIn_range', Std.Legacy.Range.size]
  simp [List.range', go_sem, run_equalIn_int _ 9998 _ _ _ _ _ Try.underlying5]
  by_cases h0 : x0 = y0 <;> by_cases h1 : x1 = y1 <;> by_cases h2 : x2 = y2 <;> by_cases h3 : x3 = y3 <;> simp [h0, h1, h2, h3]

theorem Tabs.ext {w w' : World} {B : Nat} (h : Tabs w B) (hB : B < w.heap.size) (he : Ext w w') : Tabs w' B := fun k j hk hj => by rw [Below.cell he (by simpa using hB)]; exact h k j hk hj

/-- the test of Open in numbers is the test on bytes -/
theorem open_test (s : ByteArray) (hs4 : 4 ≤ s.size) (n : Nat) (c0 c1 c2 c3 : UInt8) (hb : be4 n = [c0, c1, c2, c3]) :
    ((s[0].toNat : Int) == (c0.toNat : Int) && (s[1].toNat : Int) == (c1.toNat : Int) && (s[2].toNat : Int) == (c2.toNat : Int) && (s[3].toNat : Int) == (c3.toNat : Int)) = decide (s.data.toList = be4 n ++ s.data.toList.drop 4) := by
  have h : s.data.toList = [s[0], s[1], s[2], s[3]] ++ s.data.toList.drop 4 := by
    conv => lhs; rw [← List.take_append_drop 4 s.data.toList]
    rw [take4 s hs4]
  rw [hb]
  conv => rhs; arg 1; lhs; rw [h]
  rw [Bool.eq_iff_iff]
  simp [Int.ofNat_inj, UInt8.toNat_inj, and_assoc]

theorem Four.ext {b : Nat} {c0 c1 c2 c3 : UInt8} {w w' : World} (h : Four b c0 c1 c2 c3 w) (hR : Below w.heap.size w w') : Four b c0 c1 c2 c3 w' := by
  obtain ⟨h0, h1, h2, h3, h4⟩ := h
  exact ⟨Nat.lt_of_lt_of_le h0 hR.size, by rw [hR.cell h0]; exact h1, by rw [hR.cell h0]; exact h2, by rw [hR.cell h0]; exact h3, by rw [hR.cell h0]; exact h4⟩

set_option maxHeartbeats 2000000 in
theorem open_long (B : Nat) (s : ByteArray) (hs4 : 4 ≤ s.size) (hs : s.size ≤ 140737488355328) (w : World) (hB : B < w.heap.size) (hT : Tabs w B) :
    Calls Try.prog 16 #[.pointer (some ⟨B, 0, none⟩), .string s] w fun e w' => 
      e = .returned (if s.data.toList = sealed (s.data.toList.drop 4) then .tuple #[.string (s.extract 4 s.size), .bool true] else .tuple #[.string ⟨#[]⟩, .bool false]) ∧ Below w.heap.size w w' := by
  have HT := Lib.hid hT; clear hT
  have hn := (sum (s.data.toList.drop 4)).isLt
  obtain ⟨c0, c1, c2, c3, hb, -⟩ := word_lits (sum (s.data.toList.drop 4)).toNat hn
  generalize hN : (sum (s.data.toList.drop 4)).toNat = n at *
  have HN := Lib.hid hN; clear hN
  go_enter Try.func16, Try.ntmps16
  go_wp2_with fail
  have hd : decide ((s.size : Int) < 4) = false := by simp; omega
  have hs4i : (4 : Int) ≤ (s.size : Int) := by omega
  refine Grow.wp_region_g 21 [none, none, none, none, none, none, none, none, none, none,
    some (.inr fun v w => ∃ b c, v = .slice (some ⟨b, 0, none⟩) 4 c ∧ Four b s[0] s[1] s[2] s[3] w),
    some (.inr fun v w => ∃ b, v = .pointer (some ⟨b, 0, none⟩) ∧ Four b s[0] s[1] s[2] s[3] w),
    some (.inl (.agg #[.int .u8 s[0].toNat, .int .u8 s[1].toNat, .int .u8 s[2].toNat, .int .u8 s[3].toNat])),
    none, none, none,
    some (.inr fun v w => ∃ b, v = .slice (some ⟨b, 0, none⟩) 1 1 ∧ b < w.heap.size ∧ w.cell? ⟨b, 0, none⟩ = some (.string (s.extract 4 s.size))),
    some (.inl (.int .i64 (n : Int))),
    some (.inl (.agg #[.int .u8 c0.toNat, .int .u8 c1.toNat, .int .u8 c2.toNat, .int .u8 c3.toNat])),
    none, none] Ext (by kernel_rfl) (by kernel_rfl) (by kernel_rfl) Ext.refl (fun _ _ _ => Ext.trans) ?_ ?_
  · intro K hK Y hY v w w' hR h
    have hR : Below w.heap.size w w' := hR
    simp only [List.mem_cons, List.not_mem_nil, or_false] at hK
    rcases hK with rfl | rfl | rfl | rfl | rfl | rfl | rfl | rfl | rfl | rfl | rfl | rfl | rfl | rfl | rfl | rfl | rfl | rfl | rfl | rfl | rfl <;> simp only [reduceCtorEq, Option.some.injEq, Sum.inr.injEq] at hY
    · subst hY; obtain ⟨b, c, rfl, hf⟩ := h; exact ⟨b, c, rfl, hf.ext hR⟩
    · subst hY; obtain ⟨b, rfl, hf⟩ := h; exact ⟨b, rfl, hf.ext hR⟩
    · subst hY; obtain ⟨b, rfl, hb, hc⟩ := h; exact ⟨b, rfl, Nat.lt_of_lt_of_le hb hR.size, by rw [hR.cell hb]; exact hc⟩
  simp only [List.take_succ_cons, List.take_zero, List.drop_succ_cons, List.drop_zero]
  iterate 10 (
    refine Grow.g_det rfl ?_
    apply Exists.intro
    refine ⟨fun w hw hF => ?_, ?_⟩
    · clear hF
      go_simp
      exact ⟨rfl, Ext.refl _⟩
    simp only [Act.put, List.setIfInBounds_toArray, List.set_cons_zero, List.set_cons_succ])
  refine Grow.g_new rfl (fun w2 hw hF => ?_) (fun v10 => ?_)
  · clear hF
    obtain ⟨c, w3, hrun, hb3, hz3, _, hcell, _⟩ := string_bytes (P := Try.prog) w2 9 29 5 (s.extract 0 4) Try.underlying9 Try.underlying29 Try.underlying5
    have hsz : (s.extract 0 4).size = 4 := by simp; omega
    rw [hsz] at hrun
    have HC := Lib.hid hcell; clear hcell
    have HSZ := Lib.hid hsz; clear hsz
    go_simp
    refine ⟨⟨by omega, ?_, ?_, ?_, ?_⟩, hb3⟩
    all_goals (rw [HC.out _ (by rw [HSZ.out]; omega)]; simp [ByteArray.getElem_extract])
  simp only [Act.put, List.setIfInBounds_toArray, List.set_cons_zero, List.set_cons_succ, Grow.addF]
  refine Grow.g_new rfl (fun w2 hw hF => ?_) (fun v11 => ?_)
  · obtain ⟨b, c, rfl, hfour⟩ := hF _ (List.Mem.head _) (by simp [Oper.looksAt, Op.operands, Call.operands])
    clear hF
    have harr : ∀ w, (Instr.arrayAt 50 (.slice (some ⟨b, 0, none⟩) 4 c)).run Try.prog w = .ok (.pointer (some ⟨b, 0, none⟩)) w := fun w => by kernel_rfl
    go_simp
    exact Ext.refl _
  simp only [Act.put, List.setIfInBounds_toArray, List.set_cons_zero, List.set_cons_succ, Grow.addF]
  refine Grow.g_con rfl (fun w2 hw hF => ?_) ?_
  · obtain ⟨b, rfl, hfour⟩ := hF _ (List.Mem.head _) (by simp [Oper.looksAt, Op.operands, Call.operands])
    clear hF
    obtain ⟨h0, h1, h2, h3, h4⟩ := hfour
    go_simp
    exact Ext.refl _
  simp only [Act.put, List.setIfInBounds_toArray, List.set_cons_zero, List.set_cons_succ, Grow.addF]
  iterate 3 (
    refine Grow.g_det rfl ?_
    apply Exists.intro
    refine ⟨fun w hw hF => ?_, ?_⟩
    · clear hF
      go_simp
      exact ⟨rfl, Ext.refl _⟩
    simp only [Act.put, List.setIfInBounds_toArray, List.set_cons_zero, List.set_cons_succ])
  refine Grow.g_new rfl (fun w2 hw hF => ?_) (fun v16 => ?_)
  · clear hF
    go_simp
    exact (Below.refl _ _).alloc (Nat.le_refl _) _
  simp only [Act.put, List.setIfInBounds_toArray, List.set_cons_zero, List.set_cons_succ, Grow.addF]
  refine Grow.g_con rfl (fun w2 hw hF => ?_) ?_
  · obtain ⟨b, rfl, hbz, hbc⟩ := hF _ (List.Mem.head _) (by simp [Oper.looksAt, Op.operands, Call.operands])
    clear hF
    go_simp
    refine (tsum_some B b 0 1 [s.extract 4 s.size] (by simp [maxLen]) (by simp [maxLen]; omega) w2 (fun i hi => ?_) (Tabs.ext (w := w.drew) HT.out (by simpa using hB) hw)).mono ?_
    · have : i = 0 := by simpa using hi
      subst this; simpa using hbc
    · rintro e w3 ⟨rfl, hd⟩
      exact ⟨_, rfl, by rw [← HN.out]; unfold flat; rw [List.map_cons, List.map_nil, Lib.extract_to_end]; simp, hd.below _⟩
  simp only [Act.put, List.setIfInBounds_toArray, List.set_cons_zero, List.set_cons_succ]
  refine Grow.g_con rfl (fun w2 hw hF => ?_) ?_
  · clear hF
    go_simp
    exact (word_at n hn c0 c1 c2 c3 hb w2).mono fun e w3 ⟨he, hb3⟩ => ⟨_, he, rfl, hb3⟩
  simp only [Act.put, List.setIfInBounds_toArray, List.set_cons_zero, List.set_cons_succ]
  have HQ := fun w => eq4 (s[0].toNat : Int) (s[1].toNat : Int) (s[2].toNat : Int) (s[3].toNat : Int) (c0.toNat : Int) (c1.toNat : Int) (c2.toNat : Int) (c3.toNat : Int) w
  rw [open_test s hs4 n c0 c1 c2 c3 hb.out] at HQ
  generalize htst : decide (s.data.toList = be4 n ++ s.data.toList.drop 4) = tst at HQ
  have HTST := Lib.hid htst; clear htst
  refine Grow.g_det rfl ?_
  apply Exists.intro
  refine ⟨fun w hw hF => ?_, ?_⟩
  · clear hF
    go_simp
    exact ⟨rfl, Ext.refl _⟩
  simp only [Act.put, List.setIfInBounds_toArray, List.set_cons_zero, List.set_cons_succ]
  refine Grow.g_det rfl ?_
  apply Exists.intro
  refine ⟨fun w hw hF => ?_, ?_⟩
  · clear hF
    go_simp
    exact ⟨rfl, Ext.refl _⟩
  simp only [Act.put, List.setIfInBounds_toArray, List.set_cons_zero, List.set_cons_succ]
  refine Grow.g_nil fun w3 hw3 hF => ?_
  clear hF HQ
  refine wpList_nil ?_
  have HW : Hid (Below w.heap.size w w3) := (Below.refl _ _).drew.trans hw3
  clear hw3
  have HFIN : Hid (tst = decide (s.data.toList = sealed (s.data.toList.drop 4))) := by unfold sealed; rw [HN.out]; exact HTST.out.symm
  clear HTST
  clear HN HT hb hd hs4i hn
  cases tst
  · simp only [Bool.not_false]
    repeat go_step
    go_ret2
    refine ⟨?_, HW.out⟩
    rw [if_neg (of_decide_eq_false HFIN.out.symm)]
    rfl
  · simp only [Bool.not_true]
    repeat go_step
    go_ret2
    refine ⟨?_, HW.out⟩
    rw [if_pos (of_decide_eq_true HFIN.out.symm)]
    rfl
end Go.Proofs.Ytfndekonkcdboaa.CrcW
