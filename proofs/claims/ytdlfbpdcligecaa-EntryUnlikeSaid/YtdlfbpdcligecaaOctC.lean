/- octet.Reader: Num, Text, List. -/
import Derived.Test.YtdlfbpdcligecaaOctB
namespace Go.Proofs.Ytdlfbpdcligecaa.OctW
open Go.RowKit OctMath
set_option maxRecDepth 100000
set_option linter.unusedSimpArgs false
set_option linter.unusedVariables false

theorem takeR_len (n : Int) (r : RS) : (takeR n r).2.s.length ≤ r.s.length := by
  unfold takeR; split
  · exact Nat.le_refl _
  · split
    · exact Nat.le_refl _
    · split
      · exact Nat.le_refl _
      · simp
theorem takeR_out (n : Int) (r : RS) : (takeR n r).1.length ≤ n.toNat := by
  unfold takeR; split
  · simp
  · split
    · simp
    · split
      · simp
      · simp; omega
theorem numR_len (n : Int) (r : RS) : (numR n r).2.s.length ≤ r.s.length := by
  unfold numR; split
  · exact Nat.le_refl _
  · split
    · exact Nat.le_refl _
    · exact takeR_len _ _
theorem numR_lt (n : Int) (r : RS) : (numR n r).1 < 256 ^ n.toNat := by
  have hp : 0 < 256 ^ n.toNat := Nat.pow_pos (by omega)
  unfold numR; split
  · exact hp
  · split
    · exact hp
    · exact Nat.lt_of_lt_of_le (val_lt _) (Nat.pow_le_pow_right (by omega) (takeR_out n r))

set_option maxHeartbeats 800000 in
theorem num_any (B : Nat) (r : RS) (n : Int) (hn0 : -9223372036854775808 ≤ n) (hn1 : n ≤ 9223372036854775807) (hl : r.s.length ≤ 1152921504606846976) (w : World) (h : Rd B r w) :
    Calls Try.prog 20 #[.pointer (some ⟨B, 0, none⟩), .int .i64 n] w fun e w' => e = .returned (.int .i64 ((numR n r).1 : Int)) ∧ Rd B (numR n r).2 w' ∧ One B w w' := by
  have HR := Lib.hid h
  have hef := h.e_free
  have he := h.e_cell
  go_enter Try.func20, Try.ntmps20
  go_wp2_with (go_at_call 22; refine (err_any B r _ HR.out).mono ?_)
  rintro e w' ⟨rfl, rfl⟩
  by_cases hz : r.e ≠ 0
  · have hb := ne_b hz
    have HZ := Lib.hid hz; clear hz h
    have HT : Hid (numR n r = (0, r)) := by unfold numR; rw [if_pos HZ.out]; rfl
    go_wp2_with fail
    go_ret
    rw [HT.out]
    exact ⟨rfl, HR.out, Mod.refl _ _⟩
  · have hb := eq_b (show r.e = 0 by omega)
    have HZ := Lib.hid hz; clear hz
    have h2 := Lib.hid (h.set1 1)
    have hm : Hid (One B w (w.setCell ⟨B, 1, none⟩ (.int .i64 ((1 : Nat) : Int)))) := (Mod.refl (fun k => k = B) w).setCell (a := ⟨B, 1, none⟩) (Or.inl rfl) _
    clear h
    by_cases hw : n < 1 ∨ 7 < n
    · have HT : Hid (numR n r = (0, ⟨r.s, 1⟩)) := by unfold numR; rw [if_neg HZ.out, if_pos hw]; rfl
      rcases hw with hw | hw
      · go_wp2_with fail
        go_ret
        rw [HT.out]
        exact ⟨rfl, h2.out, hm.out⟩
      · have hw1 : 1 ≤ n := by omega
        go_wp2_with fail
        go_ret
        rw [HT.out]
        exact ⟨rfl, h2.out, hm.out⟩
    · have HT : Hid (numR n r = (val (takeR n r).1, (takeR n r).2)) := by unfold numR; rw [if_neg HZ.out, if_neg hw]; rfl
      have hw1 : 1 ≤ n := by omega
      have hw2 : n ≤ 7 := by omega
      have ho := Nat.le_trans (takeR_out n r) (show n.toNat ≤ 7 by omega)
      clear hw h2 hm
      go_wp2_with (go_at_call 30; refine (take_any B r n (by omega) (by omega) hl _ HR.out).mono ?_)
      rintro e w1 ⟨rfl, hr1, hm1⟩
      have HR1 := Lib.hid hr1; clear hr1
      have HM1 := Lib.hid hm1; clear hm1
      go_wp2_with (go_at_call 45; refine (get_any _ ho _).mono ?_)
      rintro e w2 ⟨rfl, hd⟩
      have HR2 : Hid (Rd B (takeR n r).2 w2) := HR1.out.drawn hd
      have HM2 : Hid (One B w w2) := HM1.out.drawn hd
      clear hd
      go_wp2_with fail
      go_ret
      rw [HT.out]
      exact ⟨rfl, HR2.out, HM2.out⟩

theorem longR_set {B : Nat} {r : RS} {w : World} (h : Rd B r w) (h0 : r.e = 0) : Rd B (longR true r) (w.setCell ⟨B, 1, none⟩ (.int .i64 ((6 : Nat) : Int))) := by
  have := h.set1 6
  unfold longR; rw [if_pos ⟨h0, rfl⟩]; exact this
theorem longR_false (r : RS) : longR false r = r := by unfold longR; simp
theorem longR_err {r : RS} (b : Bool) (h : r.e ≠ 0) : longR b r = r := by unfold longR; rw [if_neg (fun x => h x.1)]
theorem longR_len (b : Bool) (r : RS) : (longR b r).s.length ≤ r.s.length := by unfold longR; split <;> exact Nat.le_refl _

/-- Text, from behind its first two readings -/
theorem textR_eq (most : Int) (r : RS) (h : ¬ r.e ≠ 0) : textR most r = (if (takeR ((numR 2 r).1 : Int) (longR (decide (most < ((numR 2 r).1 : Int))) (numR 2 r).2)).2.e ≠ 0
    then ((takeR ((numR 2 r).1 : Int) (longR (decide (most < ((numR 2 r).1 : Int))) (numR 2 r).2)).1, ⟨r.s, (takeR ((numR 2 r).1 : Int) (longR (decide (most < ((numR 2 r).1 : Int))) (numR 2 r).2)).2.e⟩)
    else takeR ((numR 2 r).1 : Int) (longR (decide (most < ((numR 2 r).1 : Int))) (numR 2 r).2)) := by
  unfold textR; rw [if_neg h]

set_option maxHeartbeats 1600000 in
theorem text_any (B : Nat) (r : RS) (most : Int) (hn0 : -9223372036854775808 ≤ most) (hn1 : most ≤ 9223372036854775807) (hl : r.s.length ≤ 1152921504606846976) (w : World) (h : Rd B r w) :
    Calls Try.prog 26 #[.pointer (some ⟨B, 0, none⟩), .int .i64 most] w fun e w' => e = .returned (.string (S (textR most r).1)) ∧ Rd B (textR most r).2 w' ∧ One B w w' := by
  have HR := Lib.hid h
  have hsc := h.s_cell
  clear h
  go_enter Try.func26, Try.ntmps26
  go_wp2_with (go_at_call 22; refine (err_any B r _ HR.out).mono ?_)
  rintro e w' ⟨rfl, rfl⟩
  by_cases hz : r.e ≠ 0
  · have hb := ne_b hz
    have HZ := Lib.hid hz; clear hz
    have HT : Hid (textR most r = ([], r)) := by unfold textR; rw [if_pos HZ.out]; rfl
    go_wp2_with fail
    go_ret
    rw [HT.out]
    exact ⟨rfl, HR.out, Mod.refl _ _⟩
  · have hb := eq_b (show r.e = 0 by omega)
    have HT := Lib.hid (textR_eq most r hz)
    clear hz
    go_wp2_with (go_at_call 20; refine (num_any B r 2 (by omega) (by omega) hl _ HR.out).mono ?_)
    rintro e w1 ⟨rfl, hr1, hm1⟩
    have hx : (numR 2 r).1 < 65536 := numR_lt 2 r
    have hl2 : (numR 2 r).2.s.length ≤ r.s.length := numR_len 2 r
    generalize numR 2 r = nr at *
    obtain ⟨x, r1⟩ := nr
    simp only at *
    have he1 := hr1.e_cell
    have hf1 := hr1.e_free
    have HM1 := Lib.hid hm1; clear hm1
    have HR1 := Lib.hid hr1; clear hr1
    have fin : ∀ (L : RS) (w2 w3 : World), L = longR (decide (most < (x : Int))) r1 → One B w1 w2 → Rd B (takeR (x : Int) L).2 w3 → One B w2 w3 → (takeR (x : Int) L).2.e = 0 →
        S (takeR (x : Int) L).1 = S (textR most r).1 ∧ Rd B (textR most r).2 w3 ∧ One B w w3 := by
      intro L w2 w3 h1 h2 h3 h4 h5
      have := HT.out
      rw [← h1, if_neg (by rw [h5]; simp)] at this
      rw [this]
      exact ⟨rfl, h3, (HM1.out.trans h2).trans h4⟩
    have fin2 : ∀ (L : RS) (w2 w3 w4 : World), L = longR (decide (most < (x : Int))) r1 → One B w1 w2 → One B w2 w3 → (takeR (x : Int) L).2.e ≠ 0 → Rd B ⟨r.s, (takeR (x : Int) L).2.e⟩ w4 → One B w3 w4 →
        S (takeR (x : Int) L).1 = S (textR most r).1 ∧ Rd B (textR most r).2 w4 ∧ One B w w4 := by
      intro L w2 w3 w4 h1 h2 h4 h5 h6 h7
      have := HT.out
      rw [← h1, if_pos h5] at this
      rw [this]
      exact ⟨rfl, h6, ((HM1.out.trans h2).trans h4).trans h7⟩
    have FIN := Lib.hid fin; clear fin
    have FIN2 := Lib.hid fin2; clear fin2
    have hx1 : (x : Int) ≤ 9223372036854775807 := by omega
    by_cases hz1 : r1.e ≠ 0
    · have hb1 := ne_b hz1
      have hb1e := eq_f hz1
      have HL : Hid (r1 = longR (decide (most < (x : Int))) r1) := (longR_err _ hz1).symm
      have HW : Hid (One B w1 w1) := Mod.refl _ _
      clear hz1
      have HRL := HR1
      clear HR1
      go_wp2_with (go_at_call 30; refine (take_any B r1 x (by omega) (by omega) (by omega) _ HRL.out).mono ?_)
      first | rintro e w3 rfl hr3 hm3 | rintro e w3 ⟨rfl, hr3, hm3⟩
      have hc3 := hr3.e_cell
      have HR3 := Lib.hid hr3; clear hr3
      have HM3 := Lib.hid hm3; clear hm3
      clear hf1 he1
      by_cases hz3 : (takeR (x : Int) r1).2.e ≠ 0
      · have hb3 := ne_b hz3
        have HZ3 := Lib.hid hz3; clear hz3
        go_wp2_with (go_at_call 46; refine (fails_any B _ _ HR3.out (takeR (x : Int) r1).2.e r.s).mono ?_)
        rintro e w4 ⟨rfl, hr4, hm4⟩
        have H := Lib.hid (FIN2.out r1 _ _ _ HL.out HW.out HM3.out HZ3.out hr4 hm4)
        clear hr4 hm4
        go_wp2_with fail
        go_ret
        exact ⟨ret_str H.out.1, H.out.2⟩
      · have hz3 : (takeR (x : Int) r1).2.e = 0 := by omega
        have hb3 := eq_b hz3
        have H := Lib.hid (FIN.out r1 _ _ HL.out HW.out HR3.out HM3.out hz3)
        clear hz3
        go_wp2_with fail
        go_ret
        exact ⟨ret_str H.out.1, H.out.2⟩
    · have hz10 : r1.e = 0 := by omega
      have hb1e := eq_t hz10
      by_cases hm : most < (x : Int)
      · have HL : Hid (longR true r1 = longR (decide (most < (x : Int))) r1) := by rw [decide_eq_true hm]; rfl
        have hlen : (longR true r1).s.length ≤ 1152921504606846976 := by have := longR_len true r1; omega
        have HRL : Hid (Rd B (longR true r1) (w1.setCell ⟨B, 1, none⟩ (.int .i64 6))) := longR_set HR1.out hz10
        have HW : Hid (One B w1 (w1.setCell ⟨B, 1, none⟩ (.int .i64 6))) := (Mod.refl (fun k => k = B) w1).setCell (a := ⟨B, 1, none⟩) (Or.inl rfl) _
        clear hz10 hz1 HR1
        go_wp2_with (go_at_call 30; refine (take_any B (longR true r1) x (by omega) (by omega) hlen _ HRL.out).mono ?_)
        first | rintro e w3 rfl hr3 hm3 | rintro e w3 ⟨rfl, hr3, hm3⟩
        have hc3 := hr3.e_cell
        have HR3 := Lib.hid hr3; clear hr3
        have HM3 := Lib.hid hm3; clear hm3
        clear hf1 he1
        by_cases hz3 : (takeR (x : Int) (longR true r1)).2.e ≠ 0
        · have hb3 := ne_b hz3
          have HZ3 := Lib.hid hz3; clear hz3
          go_wp2_with (go_at_call 46; refine (fails_any B _ _ HR3.out (takeR (x : Int) (longR true r1)).2.e r.s).mono ?_)
          rintro e w4 ⟨rfl, hr4, hm4⟩
          have H := Lib.hid (FIN2.out (longR true r1) _ _ _ HL.out HW.out HM3.out HZ3.out hr4 hm4)
          clear hr4 hm4
          go_wp2_with fail
          go_ret
          exact ⟨ret_str H.out.1, H.out.2⟩
        · have hz3 : (takeR (x : Int) (longR true r1)).2.e = 0 := by omega
          have hb3 := eq_b hz3
          have H := Lib.hid (FIN.out (longR true r1) _ _ HL.out HW.out HR3.out HM3.out hz3)
          clear hz3
          go_wp2_with fail
          go_ret
          exact ⟨ret_str H.out.1, H.out.2⟩
      · have HL : Hid (r1 = longR (decide (most < (x : Int))) r1) := by rw [decide_eq_false hm, longR_false]; rfl
        have HW : Hid (One B w1 w1) := Mod.refl _ _
        have hm2 : (x : Int) ≤ most := by omega
        have HRL := HR1
        clear hz10 hz1 HR1
        go_wp2_with (go_at_call 30; refine (take_any B r1 x (by omega) (by omega) (by omega) _ HRL.out).mono ?_)
        first | rintro e w3 rfl hr3 hm3 | rintro e w3 ⟨rfl, hr3, hm3⟩
        have hc3 := hr3.e_cell
        have HR3 := Lib.hid hr3; clear hr3
        have HM3 := Lib.hid hm3; clear hm3
        clear hf1 he1
        by_cases hz3 : (takeR (x : Int) r1).2.e ≠ 0
        · have hb3 := ne_b hz3
          have HZ3 := Lib.hid hz3; clear hz3
          go_wp2_with (go_at_call 46; refine (fails_any B _ _ HR3.out (takeR (x : Int) r1).2.e r.s).mono ?_)
          rintro e w4 ⟨rfl, hr4, hm4⟩
          have H := Lib.hid (FIN2.out r1 _ _ _ HL.out HW.out HM3.out HZ3.out hr4 hm4)
          clear hr4 hm4
          go_wp2_with fail
          go_ret
          exact ⟨ret_str H.out.1, H.out.2⟩
        · have hz3 : (takeR (x : Int) r1).2.e = 0 := by omega
          have hb3 := eq_b hz3
          have H := Lib.hid (FIN.out r1 _ _ HL.out HW.out HR3.out HM3.out hz3)
          clear hz3
          go_wp2_with fail
          go_ret
          exact ⟨ret_str H.out.1, H.out.2⟩
end Go.Proofs.Ytdlfbpdcligecaa.OctW
