/- reveilleref01.Reads; a reader that isn't there. -/
import Derived.Test.YtdlfbpdcligecaaOctG
namespace Go.Proofs.Ytdlfbpdcligecaa.OctW
open Go.RowKit OctMath
set_option maxRecDepth 100000
set_option linter.unusedSimpArgs false
set_option linter.unusedVariables false

theorem numR_get (n : Nat) (l : List UInt8) (h1 : 1 ≤ n) (h7 : n ≤ 7) : numR (n : Int) ⟨l, 0⟩ = if l.length < n then (0, ⟨l, 3⟩) else (val (l.take n), ⟨l.drop n, 0⟩) := by
  have ht : takeR (n : Int) ⟨l, 0⟩ = if l.length < n then ([], ⟨l, 3⟩) else (l.take n, ⟨l.drop n, 0⟩) := by
    unfold takeR
    rw [if_neg (by simp), if_neg (by omega)]
    by_cases h : l.length < n
    · rw [if_pos h, if_pos (by simpa using h)]
    · rw [if_neg h, if_neg (by simpa using h)]; simp
  unfold numR
  rw [if_neg (by simp), if_neg (by omega), ht]
  split <;> rfl
theorem textR_readM (most : Int) (l : List UInt8) : textR most ⟨l, 0⟩ = ((readM most l).1, ⟨l.drop (readM most l).2.1, (readM most l).2.2⟩) := by
  rw [textR_eq most _ (by simp)]
  have hn := numR_get 2 l (by omega) (by omega)
  rw [show numR 2 ⟨l, 0⟩ = _ from hn]
  unfold readM
  by_cases h2 : l.length < 2
  · rw [if_pos h2, if_pos h2]
    have : longR (decide (most < ((0 : Nat) : Int))) ⟨l, 3⟩ = ⟨l, 3⟩ := longR_err _ (by simp)
    simp only [this]
    have : takeR ((0 : Nat) : Int) ⟨l, 3⟩ = ([], ⟨l, 3⟩) := by unfold takeR; rw [if_pos (by simp)]
    rw [this]; simp
  · rw [if_neg h2, if_neg h2]
    simp only
    generalize hx : val (l.take 2) = x
    by_cases hm : most < (x : Int)
    · rw [decide_eq_true hm, if_pos hm]
      have : longR true ⟨l.drop 2, 0⟩ = ⟨l.drop 2, 6⟩ := by unfold longR; rw [if_pos ⟨rfl, rfl⟩]
      rw [this]
      have : takeR (x : Int) ⟨l.drop 2, 6⟩ = ([], ⟨l.drop 2, 6⟩) := by unfold takeR; rw [if_pos (by simp)]
      rw [this]; simp
    · rw [decide_eq_false hm, if_neg hm, longR_false]
      have ht : takeR (x : Int) ⟨l.drop 2, 0⟩ = if l.length < 2 + x then ([], ⟨l.drop 2, 3⟩) else ((l.drop 2).take x, ⟨l.drop (2 + x), 0⟩) := by
        unfold takeR
        rw [if_neg (by simp), if_neg (show ¬ (x : Int) < 0 by omega)]
        by_cases hs : l.length < 2 + x
        · rw [if_pos hs, if_pos (show ((l.drop 2).length : Int) < x by rw [List.length_drop]; omega)]
        · rw [if_neg hs, if_neg (show ¬ ((l.drop 2).length : Int) < x by rw [List.length_drop]; omega)]; simp
      rw [ht]
      by_cases hs : l.length < 2 + x
      · rw [if_pos hs, if_pos hs, if_pos (by simp)]; simp
      · rw [if_neg hs, if_neg hs, if_neg (by simp)]
theorem readM_err (most : Int) (l : List UInt8) (h : (readM most l).2.2 ≠ 0) : (readM most l).1 = [] ∧ (readM most l).2.1 = 0 := by
  unfold readM at h ⊢
  split
  · exact ⟨rfl, rfl⟩
  · split
    · exact ⟨rfl, rfl⟩
    · split
      · exact ⟨rfl, rfl⟩
      · rename_i h1 h2 h3; rw [if_neg h1, if_neg h2, if_neg h3] at h; simp at h
theorem readM_le (most : Int) (l : List UInt8) : (readM most l).2.1 ≤ l.length := by
  unfold readM
  split
  · exact Nat.zero_le _
  · split
    · exact Nat.zero_le _
    · split
      · exact Nat.zero_le _
      · rename_i h1 h2 h3; simp only; omega
theorem readM_e (most : Int) (l : List UInt8) : (readM most l).2.2 ≤ 6 := by
  unfold readM
  split
  · simp
  · split
    · simp
    · split
      · simp
      · simp
theorem readM_size (most : Int) (l : List UInt8) : (readM most l).1.length ≤ 65535 := by
  have hv : val (l.take 2) < 65536 := by
    refine Nat.lt_of_lt_of_le (val_lt _) (Nat.pow_le_pow_right (n := 256) (by omega) (show _ ≤ 2 from ?_))
    simp; omega
  unfold readM
  split
  · simp
  · split
    · simp
    · split
      · simp
      · simp; omega
theorem textsR_err (most : Int) (k : Nat) : ∀ r : RS, r.e ≠ 0 → (textsR most k r).2 = r := by
  induction k with
  | zero => intro r _; rfl
  | succ k ih =>
    intro r h
    have ht : textR most r = ([], r) := by unfold textR; rw [if_pos h]
    show (textsR most k (textR most r).2).2 = r
    rw [ht]; exact ih r h
theorem textsR_add (most : Int) (k : Nat) : ∀ (m : Nat) (r : RS), (textsR most (k + m) r).2 = (textsR most m (textsR most k r).2).2 := by
  induction k with
  | zero => intro m r; rw [Nat.zero_add]; rfl
  | succ k ih =>
    intro m r
    rw [Nat.add_right_comm]
    show (textsR most (k + m) (textR most r).2).2 = (textsR most m (textsR most k (textR most r).2).2).2
    exact ih m _

/-- what Reads answers: the texts, how many bytes, the error's number -/
def readsM (many most : Int) (l : List UInt8) : List (List UInt8) × Nat × Nat :=
  ((listR many most ⟨l, 0⟩).1, l.length - (listR many most ⟨l, 0⟩).2.s.length, (listR many most ⟨l, 0⟩).2.e)
theorem readsM_of (many most : Int) (l : List UInt8) (ts : List (List UInt8)) (j e : Nat) (hj : j ≤ l.length) (h : listR many most ⟨l, 0⟩ = (ts, ⟨l.drop j, e⟩)) : readsM many most l = (ts, j, e) := by
  unfold readsM; rw [h]; simp; omega

set_option maxHeartbeats 1600000 in
theorem rreads_any (many most : Int) (hn0 : -9223372036854775808 ≤ most) (hn1 : most ≤ 9223372036854775807) (hm0 : -9223372036854775808 ≤ many) (hm1 : many ≤ 9223372036854775807) (l : List UInt8) (hl : l.length ≤ 1073741824) (w : World) :
    Calls Try.prog 27 #[.string (S l), .int .i64 many, .int .i64 most] w fun e w' => ∃ v, e = .returned (.tuple #[v, .int .i64 ((readsM many most l).2.1 : Int), .int .i64 ((readsM many most l).2.2 : Int)]) ∧ Texts w.heap.size v (readsM many most l).1 w' ∧ Below w.heap.size w w' := by
  obtain ⟨i0, hi0, hz0, hz1, hz2⟩ := info_parts (show (Try.prog.info? 9).map (fun i => (i.zero, i.size, i.bytes)) = some (some (.string ⟨#[]⟩), 1, 16) by kernel_rfl)
  have hsz := S_size l
  have HT := Lib.hid (listR_eq many most ⟨l, 0⟩ (by simp))
  have HN := Lib.hid (numR_get 1 l (by omega) (by omega))
  go_enter Try.func27, Try.ntmps27
  go_wp2_with fail
  refine (rget_any 1 l (by omega) (by omega) _).mono ?_
  rintro e w' ⟨rfl, rfl⟩
  by_cases hlt : l.length < 1
  · have hg : getM 1 l = -1 := by unfold getM; rw [if_pos hlt]
    have hR : Hid (readsM many most l = ([], 0, 3)) := by
      refine readsM_of many most l [] 0 3 (Nat.zero_le _) ?_
      have := HN.out
      rw [if_pos hlt] at this
      rw [HT.out, show numR 1 ⟨l, 0⟩ = _ from this]
      rw [longR_err _ (by simp), textsR_err _ _ _ (by simp), if_pos (by simp)]; rfl
    rw [hg]
    go_wp2_with fail
    go_ret3
    rw [hR.out]
    exact ⟨_, rfl, ⟨rfl, .inl ⟨rfl, rfl⟩⟩, Below.refl _ _⟩
  have hg : getM 1 l = (val (l.take 1) : Int) := by unfold getM; rw [if_neg hlt]
  have hv : val (l.take 1) < 256 := by
    refine Nat.lt_of_lt_of_le (val_lt _) (Nat.pow_le_pow_right (n := 256) (by omega) (show _ ≤ 1 from ?_))
    simp; omega
  have HN2 : Hid (numR 1 ⟨l, 0⟩ = (val (l.take 1), ⟨l.drop 1, 0⟩)) := by
    have := HN.out
    rw [if_neg hlt] at this
    exact this
  rw [hg]
  clear hg HN
  generalize val (l.take 1) = x at *
  by_cases hm : many < (x : Int)
  · have hR : Hid (readsM many most l = ([], 0, 6)) := by
      refine readsM_of many most l [] 0 6 (Nat.zero_le _) ?_
      have h6 : longR true ⟨l.drop 1, 0⟩ = ⟨l.drop 1, 6⟩ := by unfold longR; rw [if_pos ⟨rfl, rfl⟩]
      rw [HT.out, HN2.out]
      simp only
      rw [decide_eq_true hm, h6, textsR_err _ _ _ (by simp), if_pos (by simp)]; rfl
    go_wp2_with fail
    go_ret3
    rw [hR.out]
    exact ⟨_, rfl, ⟨rfl, .inl ⟨rfl, rfl⟩⟩, Below.refl _ _⟩
  have HR : Hid (listR many most ⟨l, 0⟩ = if (textsR most x ⟨l.drop 1, 0⟩).2.e ≠ 0 then ([], ⟨l, (textsR most x ⟨l.drop 1, 0⟩).2.e⟩) else textsR most x ⟨l.drop 1, 0⟩) := by
    have := HT.out
    rw [HN2.out] at this
    simp only at this
    rw [decide_eq_false hm, longR_false] at this
    exact this
  clear HT HN2
  have hm2 : (x : Int) ≤ many := by omega
  have hl1 : 1 ≤ l.length := by omega
  go_wp2_with fail
  have HO0 : Hid (Texts w.heap.size (.slice (some ⟨w.heap.size, 0, none⟩) 0 0) [] (w.alloc (.cells #[] 9))) := ⟨rfl, .inr ⟨w.heap.size, 0, #[], rfl, Nat.le_refl _, heap_alloc_new w _, Nat.le_refl _, by unfold maxLen; omega, rfl, rfl⟩⟩
  have HB0 : Hid (Below w.heap.size w (w.alloc (.cells #[] 9))) := (Below.refl _ _).alloc (Nat.le_refl _) _
  go_loopw [10, 11, 12] (fun v a i wr => ∃ k j : Nat, k ≤ x ∧ j ≤ l.length ∧ i = .int .i64 k ∧ a = .int .i64 j ∧ Hid ((textsR most k ⟨l.drop 1, 0⟩).2 = ⟨l.drop j, 0⟩) ∧ Hid (Texts w.heap.size v (textsR most k ⟨l.drop 1, 0⟩).1 wr) ∧ Hid (Below w.heap.size w wr)) (fun _ _ i _ => x - (intOf i).toNat)
  case atStart => exact ⟨0, 1, by omega, hl1, rfl, rfl, rfl, HO0, HB0⟩
  case round =>
    clear HO0 HB0
    obtain ⟨k, j, hk, hj, rfl, rfl, HS, HTX, HB⟩ := hrel
    by_cases hk2 : k < x
    · have hsub : Hid ((S l).extract j l.length = S (l.drop j)) := by have := S_drop l j; rw [S_size] at this; exact this
      have hrm := textR_readM most (l.drop j)
      have hle := readM_le most (l.drop j)
      have hee := readM_err most (l.drop j)
      have he6 := readM_e most (l.drop j)
      rw [List.drop_drop] at hrm
      rw [List.length_drop] at hle
      go_wp2_with fail
      rw [hsub.out]
      refine (rread_any most (l.drop j) hn0 hn1 (by simp; omega) _).mono ?_
      rintro e w3 ⟨rfl, rfl⟩
      have hso := textsR_succ most k ⟨l.drop 1, 0⟩
      rw [HS.out, hrm] at hso
      have hse : ∀ m, (textsR most (k + m) ⟨l.drop 1, 0⟩).2 = (textsR most m ⟨l.drop j, 0⟩).2 := by intro m; rw [textsR_add, HS.out]
      generalize hRM : readM most (l.drop j) = rm at *
      obtain ⟨t, n, e⟩ := rm
      simp only at *
      have HEE := Lib.hid hee; clear hee
      have HRM := Lib.hid hRM; clear hRM
      have HSO := Lib.hid hso; clear hso
      have HSE := Lib.hid hse; clear hse
      have HRMM := Lib.hid hrm; clear hrm
      by_cases he : e = 0
      · subst he
        have hsl := textsR_length most k ⟨l.drop 1, 0⟩
        have HTX3 : Hid (wr.ownsRow w.heap.size 9 1 u10 k ((textsR most k ⟨l.drop 1, 0⟩).1.map fun l => .string (S l))) := by
          have := HTX.out
          unfold Texts at this
          rw [hsl] at this; exact this
        clear HTX hsl
        go_wp2_with (at_builtin; refine wpList_append_own _ rfl (.tmp 41) (.tmp 43) 48 rfl w.heap.size 9 i0 (.string ⟨#[]⟩) 1 16 Try.underlying48 hi0 hz0 hz1 hz2 rfl (by decide) _ k ((textsR most k ⟨l.drop 1, 0⟩).1.map fun l => .string (S l)) rfl (HTX3.out.alloc _) ⟨wr.heap.size, 0, none⟩ 1 1 [.string (S t)] rfl rfl ?c1 ?c2 ?c3 ?c4 ?c5 ?_)
        case c1 => exact cell_one_new _ _ _
        case c2 => intro u hu; simp at hu; subst hu; rfl
        case c3 => unfold maxLen; omega
        case c4 => omega
        case c5 => have := HB.out.size; simp; omega
        intro v' w4 hown' hgrow _
        have HO4 : Hid (Texts w.heap.size v' (textsR most (k + 1) ⟨l.drop 1, 0⟩).1 w4) := by
          show w4.ownsRow _ _ _ _ (textsR most (k + 1) ⟨l.drop 1, 0⟩).1.length _
          rw [textsR_length, HSO.out, List.map_append]; rw [← List.drop_one] at hown'; exact hown'
        have hrow : ∀ g, u10.ownBlock = some g → w.heap.size ≤ g := ownsRow_block HTX3.out
        have HB4 : Hid (Below w.heap.size w w4) := (HB.out.alloc HB.out.size _).grown hgrow (by have := HB.out.size; simp; omega) hrow
        have HS4 : Hid ((textsR most (k + 1) ⟨l.drop 1, 0⟩).2 = ⟨l.drop (j + n), 0⟩) := by rw [HSO.out]; rfl
        clear hown' hgrow HTX3 hrow HB HSO
        go_wp2_with fail
        go_roundw
        case rel => exact ⟨k + 1, j + n, by omega, by omega, by go_num, by go_num, HS4, HO4, HB4⟩
        case measure => simp [intOf]; omega
      · have hb := ne_b he
        have hR : Hid (readsM many most l = ([], 0, e)) := by
          refine readsM_of many most l [] 0 e (Nat.zero_le _) ?_
          obtain ⟨m, rfl⟩ : ∃ m, x = k + (m + 1) := ⟨x - k - 1, by omega⟩
          have h1 : (textsR most (k + (m + 1)) ⟨l.drop 1, 0⟩).2 = ⟨l.drop (j + n), e⟩ := by
            rw [HSE.out]
            show (textsR most m (textR most ⟨l.drop j, 0⟩).2).2 = _
            rw [HRMM.out, textsR_err _ _ _ he]
          rw [HR.out, h1, if_pos he]; rfl
        go_wp2_with fail
        go_ret3
        rw [hR.out]
        exact ⟨_, rfl, ⟨rfl, .inl ⟨rfl, rfl⟩⟩, HB.out⟩
    · have ek : k = x := by omega
      subst ek
      have hR : Hid (readsM many most l = ((textsR most k ⟨l.drop 1, 0⟩).1, j, 0)) := by
        refine readsM_of many most l _ j 0 hj ?_
        have := HR.out
        rw [HS.out, if_neg (by simp)] at this
        rw [this, ← HS.out]
      go_wp2_with fail
      go_ret3
      rw [hR.out]
      exact ⟨_, rfl, HTX.out, HB.out⟩

theorem err_nil (w : World) : Calls Try.prog 22 #[.pointer none] w fun e w' => e = .returned (.int .i64 1) ∧ w = w' := by
  go_enter Try.func22, Try.ntmps22
  go_wp2_with fail
  go_ret
  exact ⟨rfl, rfl⟩
theorem left_nil (w : World) : Calls Try.prog 24 #[.pointer none] w fun e w' => e = .returned (.int .i64 0) ∧ w = w' := by
  go_enter Try.func24, Try.ntmps24
  go_wp2_with fail
  go_ret
  exact ⟨rfl, rfl⟩
theorem end_nil (w : World) : Calls Try.prog 21 #[.pointer none] w fun e w' => e = .returned (.int .i64 1) ∧ w = w' := by
  go_enter Try.func21, Try.ntmps21
  go_wp2_with fail
  refine (err_nil _).mono ?_
  rintro e w' ⟨rfl, rfl⟩
  go_wp2_with fail
  go_ret
  exact ⟨rfl, rfl⟩
theorem num_nil (n : Int) (w : World) : Calls Try.prog 20 #[.pointer none, .int .i64 n] w fun e w' => e = .returned (.int .i64 0) ∧ w = w' := by
  go_enter Try.func20, Try.ntmps20
  go_wp2_with fail
  refine (err_nil _).mono ?_
  rintro e w' ⟨rfl, rfl⟩
  go_wp2_with fail
  go_ret
  exact ⟨rfl, rfl⟩
theorem take_nil (n : Int) (w : World) : Calls Try.prog 30 #[.pointer none, .int .i64 n] w fun e w' => e = .returned (.string (S [])) ∧ w = w' := by
  go_enter Try.func30, Try.ntmps30
  go_wp2_with fail
  refine (err_nil _).mono ?_
  rintro e w' ⟨rfl, rfl⟩
  go_wp2_with fail
  go_ret
  exact ⟨rfl, rfl⟩
theorem text_nil (n : Int) (w : World) : Calls Try.prog 26 #[.pointer none, .int .i64 n] w fun e w' => e = .returned (.string (S [])) ∧ w = w' := by
  go_enter Try.func26, Try.ntmps26
  go_wp2_with fail
  refine (err_nil _).mono ?_
  rintro e w' ⟨rfl, rfl⟩
  go_wp2_with fail
  go_ret
  exact ⟨rfl, rfl⟩
theorem list_nil (n m : Int) (w : World) : Calls Try.prog 29 #[.pointer none, .int .i64 n, .int .i64 m] w fun e w' => e = .returned (.slice none 0 0) ∧ w = w' := by
  go_enter Try.func29, Try.ntmps29
  go_wp2_with fail
  refine (err_nil _).mono ?_
  rintro e w' ⟨rfl, rfl⟩
  go_wp2_with fail
  go_ret
  exact ⟨rfl, rfl⟩
end Go.Proofs.Ytdlfbpdcligecaa.OctW
