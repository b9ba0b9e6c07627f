/- octet.Reader.List: the texts lie in a row of the call's own. -/
import Derived.Test.YtdlfbpdcligecaaOctC
namespace Go.Proofs.Ytdlfbpdcligecaa.OctW
open Go.RowKit OctMath
set_option maxRecDepth 100000
set_option linter.unusedSimpArgs false
set_option linter.unusedVariables false

theorem ownsRow_mod {M : Nat → Prop} {w w' : World} {base e sz n : Nat} {v : Value} {xs : List Value} (h : w.ownsRow base e sz v n xs) (hm : Mod M w w') (hM : ∀ k, M k → k < base) : w'.ownsRow base e sz v n xs := by
  refine ⟨h.1, ?_⟩
  rcases h.2 with hn | ⟨g, cap, cur, hv, hb, hg, rest⟩
  · exact .inl hn
  · exact .inr ⟨g, cap, cur, hv, hb, (hm.block g (Array.getElem?_eq_some_iff.1 hg).1 (fun hk => by have := hM g hk; omega)).trans hg, rest⟩
theorem ownsRow_block {w : World} {base e sz n : Nat} {v : Value} {xs : List Value} (h : w.ownsRow base e sz v n xs) : ∀ g, v.ownBlock = some g → base ≤ g := by
  intro g hg
  rcases h.2 with ⟨rfl, _⟩ | ⟨g', cap, cur, rfl, hb, _⟩
  · cases hg
  · cases hg; exact hb
theorem _root_.Go.Proofs.Ytdlfbpdcligecaa.Mod.grown {M : Nat → Prop} {u v w : World} {row : Option Nat} (h : Mod M u v) (k : v.grownBy w row) (hr : ∀ g, row = some g → u.heap.size ≤ g) : Mod M u w := by
  refine ⟨k.os.trans h.os, k.tape.trans h.tape, k.output.trans h.output, Nat.le_trans h.size k.size, fun i hi hM => ?_⟩
  rw [k.block i (Nat.lt_of_lt_of_le hi h.size) (fun e => by have := hr i e.symm; omega)]
  exact h.block i hi hM
/-- a row of texts, of the call's own -/
abbrev Texts (base : Nat) (v : Value) (ts : List (List UInt8)) (w : World) : Prop := w.ownsRow base 9 1 v ts.length (ts.map fun l => .string (S l))
theorem Texts.strs {base : Nat} {v : Value} {ts : List (List UInt8)} {w : World} (h : Texts base v ts w) : ∃ a cap, v = .slice a ts.length cap ∧ Strs w a (ts.map S) := by
  obtain ⟨hl, h⟩ := h
  rcases h with ⟨rfl, h0⟩ | ⟨g, cap, cur, rfl, hb, hg, hc1, hc2, hcs, hcur⟩
  · refine ⟨none, 0, by rw [h0], fun i hi => ?_⟩
    simp [h0] at hi
  · refine ⟨some ⟨g, 0, none⟩, cap, rfl, fun i hi => ⟨g, 0, rfl, ?_⟩⟩
    unfold World.cell?
    rw [hg]
    have hi' : i < ts.length := by simpa using hi
    have : cur[0 + i]? = (cur.toList.take (ts.length * 1))[i]? := by
      rw [List.getElem?_take, if_pos (by omega)]; simp
    simp only [this, hcur]
    simp [hi']

theorem textsR_succ (most : Int) (k : Nat) : ∀ r : RS, textsR most (k + 1) r = ((textsR most k r).1 ++ [(textR most (textsR most k r).2).1], (textR most (textsR most k r).2).2) := by
  induction k with
  | zero => intro r; rfl
  | succ k ih =>
    intro r
    have h := ih (textR most r).2
    show ((textR most r).1 :: (textsR most (k + 1) (textR most r).2).1, (textsR most (k + 1) (textR most r).2).2) = _
    rw [h]; rfl
theorem textsR_length (most : Int) (k : Nat) : ∀ r : RS, (textsR most k r).1.length = k := by
  induction k with
  | zero => intro r; rfl
  | succ k ih => intro r; simp [textsR, ih]
theorem textR_len (most : Int) (r : RS) : (textR most r).2.s.length ≤ r.s.length := by
  by_cases h : r.e ≠ 0
  · unfold textR; rw [if_pos h]; exact Nat.le_refl _
  · rw [textR_eq most r h]
    split
    · exact Nat.le_refl _
    · exact Nat.le_trans (takeR_len _ _) (Nat.le_trans (longR_len _ _) (numR_len _ _))
theorem textsR_len (most : Int) (k : Nat) : ∀ r : RS, (textsR most k r).2.s.length ≤ r.s.length := by
  induction k with
  | zero => intro r; exact Nat.le_refl _
  | succ k ih => intro r; exact Nat.le_trans (ih _) (textR_len most r)

theorem listR_eq (many most : Int) (r : RS) (h : ¬ r.e ≠ 0) : listR many most r = (if (textsR most (numR 1 r).1 (longR (decide (many < ((numR 1 r).1 : Int))) (numR 1 r).2)).2.e ≠ 0
    then ([], ⟨r.s, (textsR most (numR 1 r).1 (longR (decide (many < ((numR 1 r).1 : Int))) (numR 1 r).2)).2.e⟩)
    else textsR most (numR 1 r).1 (longR (decide (many < ((numR 1 r).1 : Int))) (numR 1 r).2)) := by
  unfold listR; rw [if_neg h]

set_option maxHeartbeats 3200000 in
theorem list_any (B : Nat) (r : RS) (many most : Int) (hn0 : -9223372036854775808 ≤ most) (hn1 : most ≤ 9223372036854775807) (hm0 : -9223372036854775808 ≤ many) (hm1 : many ≤ 9223372036854775807) (hl : r.s.length ≤ 1152921504606846976) (w : World) (h : Rd B r w) :
    Calls Try.prog 29 #[.pointer (some ⟨B, 0, none⟩), .int .i64 many, .int .i64 most] w fun e w' => ∃ v, e = .returned v ∧ Texts w.heap.size v (listR many most r).1 w' ∧ Rd B (listR many most r).2 w' ∧ One B w w' := by
  obtain ⟨i0, hi0, hz0, hz1, hz2⟩ := info_parts (show (Try.prog.info? 9).map (fun i => (i.zero, i.size, i.bytes)) = some (some (.string ⟨#[]⟩), 1, 16) by kernel_rfl)
  have HR := Lib.hid h
  have hsc := h.s_cell
  have HBL : Hid (B < w.heap.size) := h.lt
  clear h
  go_enter Try.func29, Try.ntmps29
  go_wp2_with (go_at_call 22; refine (err_any B r _ HR.out).mono ?_)
  rintro e w' ⟨rfl, rfl⟩
  by_cases hz : r.e ≠ 0
  · have hb := ne_b hz
    have HZ := Lib.hid hz; clear hz
    have HT : Hid (listR many most r = ([], r)) := by unfold listR; rw [if_pos HZ.out]; rfl
    go_wp2_with fail
    go_ret
    rw [HT.out]
    exact ⟨_, rfl, ⟨rfl, .inl ⟨rfl, rfl⟩⟩, HR.out, Mod.refl _ _⟩
  · have hb := eq_b (show r.e = 0 by omega)
    have HT := Lib.hid (listR_eq many most r hz)
    clear hz
    go_wp2_with (go_at_call 20; refine (num_any B r 1 (by omega) (by omega) hl _ HR.out).mono ?_)
    rintro e w1 ⟨rfl, hr1, hm1⟩
    have hx : (numR 1 r).1 < 256 := numR_lt 1 r
    have hl2 : (numR 1 r).2.s.length ≤ r.s.length := numR_len 1 r
    generalize numR 1 r = nr at *
    obtain ⟨x, r1⟩ := nr
    simp only at *
    have he1 := hr1.e_cell
    have hf1 := hr1.e_free
    have HM1 := Lib.hid hm1; clear hm1
    have HR1 := Lib.hid hr1; clear hr1
    have fin : ∀ (L : RS) (v : Value) (w3 : World), L = longR (decide (many < (x : Int))) r1 → Texts w.heap.size v (textsR most x L).1 w3 → Rd B (textsR most x L).2 w3 → One B w w3 → (textsR most x L).2.e = 0 →
        Texts w.heap.size v (listR many most r).1 w3 ∧ Rd B (listR many most r).2 w3 ∧ One B w w3 := by
      intro L v w3 h1 h2 h3 h4 h5
      have := HT.out
      rw [← h1, if_neg (by rw [h5]; simp)] at this
      rw [this]
      exact ⟨h2, h3, h4⟩
    have fin2 : ∀ (L : RS) (w4 : World), L = longR (decide (many < (x : Int))) r1 → (textsR most x L).2.e ≠ 0 → Rd B ⟨r.s, (textsR most x L).2.e⟩ w4 → One B w w4 →
        Texts w.heap.size (.slice none 0 0) (listR many most r).1 w4 ∧ Rd B (listR many most r).2 w4 ∧ One B w w4 := by
      intro L w4 h1 h5 h6 h7
      have := HT.out
      rw [← h1, if_pos h5] at this
      rw [this]
      exact ⟨⟨rfl, .inl ⟨rfl, rfl⟩⟩, h6, h7⟩
    have FIN := Lib.hid fin; clear fin
    have FIN2 := Lib.hid fin2; clear fin2
    by_cases hz1 : r1.e ≠ 0
    · have hb1 := ne_b hz1
      have hb1e := eq_f hz1
      have HL : Hid (r1 = longR (decide (many < (x : Int))) r1) := (longR_err _ hz1).symm
      have HW : Hid (One B w1 w1) := Mod.refl _ _
      clear hz1
      have HRL := HR1
      clear HR1
      have hll : r1.s.length ≤ 1152921504606846976 := by have := longR_len true r1; omega
      have HWW : Hid (One B w w1) := HM1.out.trans HW.out
      go_wp2_with fail
      clear hf1 he1
      go_loopw [9, 33] (fun v i wr => ∃ k : Nat, k ≤ x ∧ i = .int .i64 k ∧ Hid (Texts w.heap.size v (textsR most k r1).1 wr) ∧ Hid (Rd B (textsR most k r1).2 wr) ∧ Hid (One B w wr)) (fun _ i _ => x - (intOf i).toNat)
      case atStart => exact ⟨0, by omega, rfl, ⟨rfl, .inl ⟨rfl, rfl⟩⟩, HRL.out, HWW.out⟩
      case round =>
        clear HRL HWW HW
        obtain ⟨k, hk, rfl, HTX, HRD, HW⟩ := hrel
        have hkl := textsR_len most k r1
        by_cases hlt : k < x
        · go_wp2_with (go_at_call 26; refine (text_any B _ most hn0 hn1 (by omega) _ HRD.out).mono ?_)
          rintro e w3 ⟨rfl, hr3, hm3⟩
          have hso := textsR_succ most k r1
          have hsl := textsR_length most k r1
          have HTX3 : Hid (w3.ownsRow w.heap.size 9 1 u9 k ((textsR most k r1).1.map fun l => .string (S l))) := by
            have := ownsRow_mod HTX.out hm3 (fun g hg => by rw [hg]; exact HBL.out)
            rw [hsl] at this; exact this
          have HW3 : Hid (One B w w3) := HW.out.trans hm3
          clear HTX HW hm3
          generalize textR most (textsR most k r1).2 = tx at *
          have HSO := Lib.hid hso; clear hso
          have HR3 := Lib.hid hr3; clear hr3
          go_wp2_with (at_builtin; refine wpList_append_own _ rfl (.tmp 35) (.tmp 39) 48 rfl w.heap.size 9 i0 (.string ⟨#[]⟩) 1 16 Try.underlying48 hi0 hz0 hz1 hz2 rfl (by decide) _ k ((textsR most k r1).1.map fun l => .string (S l)) rfl (HTX3.out.alloc _) ⟨w3.heap.size, 0, none⟩ 1 1 [.string (S tx.1)] rfl rfl ?c1 ?c2 ?c3 ?c4 ?c5 ?_)
          case c1 => exact cell_one_new _ _ _
          case c2 => intro u hu; simp at hu; subst hu; rfl
          case c3 => unfold maxLen; omega
          case c4 => omega
          case c5 => have := HW3.out.size; simp; omega
          intro v' w4 hown' hgrow _
          have HO4 : Hid (Texts w.heap.size v' (textsR most (k + 1) r1).1 w4) := by
            show w4.ownsRow _ _ _ _ (textsR most (k + 1) r1).1.length _
            rw [textsR_length, HSO.out, List.map_append]; exact hown'
          have hrow : ∀ g, u9.ownBlock = some g → w.heap.size ≤ g := ownsRow_block HTX3.out
          have HW4 : Hid (One B w w4) := (HW3.out.alloc _).grown hgrow hrow
          have HR4 : Hid (Rd B (textsR most (k + 1) r1).2 w4) := by
            have h1 : Rd B tx.2 (w3.alloc (.cells #[.string (S tx.1)] 9)) := HR3.out.mod ((Mod.refl (fun _ => False) w3).alloc _) (fun x => x)
            have h2 := (hgrow.block B h1.lt (fun e => by have := hrow B e.symm; have := HBL.out; omega)).trans h1
            rw [HSO.out]; exact h2
          clear hown' hgrow HTX3 HW3 HR3 hrow
          go_wp2_with fail
          go_roundw
          case rel => exact ⟨k + 1, by omega, by go_num, HO4.out, HR4.out, HW4.out⟩
          case measure => simp [intOf]; omega
        · have ek : k = x := by omega
          subst ek
          have hc3 := HRD.out.e_cell
          by_cases hz3 : (textsR most k r1).2.e ≠ 0
          · have hb3 := ne_b hz3
            have HZ3 := Lib.hid hz3; clear hz3
            go_wp2_with (go_at_call 46; refine (fails_any B _ _ HRD.out (textsR most k r1).2.e r.s).mono ?_)
            rintro e w4 ⟨rfl, hr4, hm4⟩
            have H := Lib.hid (FIN2.out r1 _ HL.out HZ3.out hr4 (HW.out.trans hm4))
            clear hr4 hm4
            go_wp2_with fail
            go_ret
            exact ⟨_, rfl, H.out⟩
          · have hz3 : (textsR most k r1).2.e = 0 := by omega
            have hb3 := eq_b hz3
            have H := Lib.hid (FIN.out r1 _ _ HL.out HTX.out HRD.out HW.out hz3)
            clear hz3
            go_wp2_with fail
            go_ret
            exact ⟨_, rfl, H.out⟩
    · have hz10 : r1.e = 0 := by omega
      have hb1e := eq_t hz10
      by_cases hm : many < (x : Int)
      · have HL : Hid (longR true r1 = longR (decide (many < (x : Int))) r1) := by rw [decide_eq_true hm]; rfl
        have HRL : Hid (Rd B (longR true r1) (w1.setCell ⟨B, 1, none⟩ (.int .i64 6))) := longR_set HR1.out hz10
        have HW : Hid (One B w1 (w1.setCell ⟨B, 1, none⟩ (.int .i64 6))) := (Mod.refl (fun k => k = B) w1).setCell (a := ⟨B, 1, none⟩) (Or.inl rfl) _
        clear hz10 hz1 HR1
        have hll : (longR true r1).s.length ≤ 1152921504606846976 := by have := longR_len true r1; omega
        have HWW : Hid (One B w (w1.setCell ⟨B, 1, none⟩ (.int .i64 6))) := HM1.out.trans HW.out
        go_wp2_with fail
        clear hf1 he1
        go_loopw [9, 33] (fun v i wr => ∃ k : Nat, k ≤ x ∧ i = .int .i64 k ∧ Hid (Texts w.heap.size v (textsR most k (longR true r1)).1 wr) ∧ Hid (Rd B (textsR most k (longR true r1)).2 wr) ∧ Hid (One B w wr)) (fun _ i _ => x - (intOf i).toNat)
        case atStart => exact ⟨0, by omega, rfl, ⟨rfl, .inl ⟨rfl, rfl⟩⟩, HRL.out, HWW.out⟩
        case round =>
          clear HRL HWW HW
          obtain ⟨k, hk, rfl, HTX, HRD, HW⟩ := hrel
          have hkl := textsR_len most k (longR true r1)
          by_cases hlt : k < x
          · go_wp2_with (go_at_call 26; refine (text_any B _ most hn0 hn1 (by omega) _ HRD.out).mono ?_)
            rintro e w3 ⟨rfl, hr3, hm3⟩
            have hso := textsR_succ most k (longR true r1)
            have hsl := textsR_length most k (longR true r1)
            have HTX3 : Hid (w3.ownsRow w.heap.size 9 1 u9 k ((textsR most k (longR true r1)).1.map fun l => .string (S l))) := by
              have := ownsRow_mod HTX.out hm3 (fun g hg => by rw [hg]; exact HBL.out)
              rw [hsl] at this; exact this
            have HW3 : Hid (One B w w3) := HW.out.trans hm3
            clear HTX HW hm3
            generalize textR most (textsR most k (longR true r1)).2 = tx at *
            have HSO := Lib.hid hso; clear hso
            have HR3 := Lib.hid hr3; clear hr3
            go_wp2_with (at_builtin; refine wpList_append_own _ rfl (.tmp 35) (.tmp 39) 48 rfl w.heap.size 9 i0 (.string ⟨#[]⟩) 1 16 Try.underlying48 hi0 hz0 hz1 hz2 rfl (by decide) _ k ((textsR most k (longR true r1)).1.map fun l => .string (S l)) rfl (HTX3.out.alloc _) ⟨w3.heap.size, 0, none⟩ 1 1 [.string (S tx.1)] rfl rfl ?c1 ?c2 ?c3 ?c4 ?c5 ?_)
            case c1 => exact cell_one_new _ _ _
            case c2 => intro u hu; simp at hu; subst hu; rfl
            case c3 => unfold maxLen; omega
            case c4 => omega
            case c5 => have := HW3.out.size; simp; omega
            intro v' w4 hown' hgrow _
            have HO4 : Hid (Texts w.heap.size v' (textsR most (k + 1) (longR true r1)).1 w4) := by
              show w4.ownsRow _ _ _ _ (textsR most (k + 1) (longR true r1)).1.length _
              rw [textsR_length, HSO.out, List.map_append]; exact hown'
            have hrow : ∀ g, u9.ownBlock = some g → w.heap.size ≤ g := ownsRow_block HTX3.out
            have HW4 : Hid (One B w w4) := (HW3.out.alloc _).grown hgrow hrow
            have HR4 : Hid (Rd B (textsR most (k + 1) (longR true r1)).2 w4) := by
              have h1 : Rd B tx.2 (w3.alloc (.cells #[.string (S tx.1)] 9)) := HR3.out.mod ((Mod.refl (fun _ => False) w3).alloc _) (fun x => x)
              have h2 := (hgrow.block B h1.lt (fun e => by have := hrow B e.symm; have := HBL.out; omega)).trans h1
              rw [HSO.out]; exact h2
            clear hown' hgrow HTX3 HW3 HR3 hrow
            go_wp2_with fail
            go_roundw
            case rel => exact ⟨k + 1, by omega, by go_num, HO4.out, HR4.out, HW4.out⟩
            case measure => simp [intOf]; omega
          · have ek : k = x := by omega
            subst ek
            have hc3 := HRD.out.e_cell
            by_cases hz3 : (textsR most k (longR true r1)).2.e ≠ 0
            · have hb3 := ne_b hz3
              have HZ3 := Lib.hid hz3; clear hz3
              go_wp2_with (go_at_call 46; refine (fails_any B _ _ HRD.out (textsR most k (longR true r1)).2.e r.s).mono ?_)
              rintro e w4 ⟨rfl, hr4, hm4⟩
              have H := Lib.hid (FIN2.out (longR true r1) _ HL.out HZ3.out hr4 (HW.out.trans hm4))
              clear hr4 hm4
              go_wp2_with fail
              go_ret
              exact ⟨_, rfl, H.out⟩
            · have hz3 : (textsR most k (longR true r1)).2.e = 0 := by omega
              have hb3 := eq_b hz3
              have H := Lib.hid (FIN.out (longR true r1) _ _ HL.out HTX.out HRD.out HW.out hz3)
              clear hz3
              go_wp2_with fail
              go_ret
              exact ⟨_, rfl, H.out⟩
      · have HL : Hid (r1 = longR (decide (many < (x : Int))) r1) := by rw [decide_eq_false hm, longR_false]; rfl
        have HW : Hid (One B w1 w1) := Mod.refl _ _
        have hm2 : (x : Int) ≤ many := by omega
        have HRL := HR1
        clear hz10 hz1 HR1
        have hll : r1.s.length ≤ 1152921504606846976 := by have := longR_len true r1; omega
        have HWW : Hid (One B w w1) := HM1.out.trans HW.out
        go_wp2_with fail
        clear hf1 he1
        go_loopw [9, 33] (fun v i wr => ∃ k : Nat, k ≤ x ∧ i = .int .i64 k ∧ Hid (Texts w.heap.size v (textsR most k r1).1 wr) ∧ Hid (Rd B (textsR most k r1).2 wr) ∧ Hid (One B w wr)) (fun _ i _ => x - (intOf i).toNat)
        case atStart => exact ⟨0, by omega, rfl, ⟨rfl, .inl ⟨rfl, rfl⟩⟩, HRL.out, HWW.out⟩
        case round =>
          clear HRL HWW HW
          obtain ⟨k, hk, rfl, HTX, HRD, HW⟩ := hrel
          have hkl := textsR_len most k r1
          by_cases hlt : k < x
          · go_wp2_with (go_at_call 26; refine (text_any B _ most hn0 hn1 (by omega) _ HRD.out).mono ?_)
            rintro e w3 ⟨rfl, hr3, hm3⟩
            have hso := textsR_succ most k r1
            have hsl := textsR_length most k r1
            have HTX3 : Hid (w3.ownsRow w.heap.size 9 1 u9 k ((textsR most k r1).1.map fun l => .string (S l))) := by
              have := ownsRow_mod HTX.out hm3 (fun g hg => by rw [hg]; exact HBL.out)
              rw [hsl] at this; exact this
            have HW3 : Hid (One B w w3) := HW.out.trans hm3
            clear HTX HW hm3
            generalize textR most (textsR most k r1).2 = tx at *
            have HSO := Lib.hid hso; clear hso
            have HR3 := Lib.hid hr3; clear hr3
            go_wp2_with (at_builtin; refine wpList_append_own _ rfl (.tmp 35) (.tmp 39) 48 rfl w.heap.size 9 i0 (.string ⟨#[]⟩) 1 16 Try.underlying48 hi0 hz0 hz1 hz2 rfl (by decide) _ k ((textsR most k r1).1.map fun l => .string (S l)) rfl (HTX3.out.alloc _) ⟨w3.heap.size, 0, none⟩ 1 1 [.string (S tx.1)] rfl rfl ?c1 ?c2 ?c3 ?c4 ?c5 ?_)
            case c1 => exact cell_one_new _ _ _
            case c2 => intro u hu; simp at hu; subst hu; rfl
            case c3 => unfold maxLen; omega
            case c4 => omega
            case c5 => have := HW3.out.size; simp; omega
            intro v' w4 hown' hgrow _
            have HO4 : Hid (Texts w.heap.size v' (textsR most (k + 1) r1).1 w4) := by
              show w4.ownsRow _ _ _ _ (textsR most (k + 1) r1).1.length _
              rw [textsR_length, HSO.out, List.map_append]; exact hown'
            have hrow : ∀ g, u9.ownBlock = some g → w.heap.size ≤ g := ownsRow_block HTX3.out
            have HW4 : Hid (One B w w4) := (HW3.out.alloc _).grown hgrow hrow
            have HR4 : Hid (Rd B (textsR most (k + 1) r1).2 w4) := by
              have h1 : Rd B tx.2 (w3.alloc (.cells #[.string (S tx.1)] 9)) := HR3.out.mod ((Mod.refl (fun _ => False) w3).alloc _) (fun x => x)
              have h2 := (hgrow.block B h1.lt (fun e => by have := hrow B e.symm; have := HBL.out; omega)).trans h1
              rw [HSO.out]; exact h2
            clear hown' hgrow HTX3 HW3 HR3 hrow
            go_wp2_with fail
            go_roundw
            case rel => exact ⟨k + 1, by omega, by go_num, HO4.out, HR4.out, HW4.out⟩
            case measure => simp [intOf]; omega
          · have ek : k = x := by omega
            subst ek
            have hc3 := HRD.out.e_cell
            by_cases hz3 : (textsR most k r1).2.e ≠ 0
            · have hb3 := ne_b hz3
              have HZ3 := Lib.hid hz3; clear hz3
              go_wp2_with (go_at_call 46; refine (fails_any B _ _ HRD.out (textsR most k r1).2.e r.s).mono ?_)
              rintro e w4 ⟨rfl, hr4, hm4⟩
              have H := Lib.hid (FIN2.out r1 _ HL.out HZ3.out hr4 (HW.out.trans hm4))
              clear hr4 hm4
              go_wp2_with fail
              go_ret
              exact ⟨_, rfl, H.out⟩
            · have hz3 : (textsR most k r1).2.e = 0 := by omega
              have hb3 := eq_b hz3
              have H := Lib.hid (FIN.out r1 _ _ HL.out HTX.out HRD.out HW.out hz3)
              clear hz3
              go_wp2_with fail
              go_ret
              exact ⟨_, rfl, H.out⟩
end Go.Proofs.Ytdlfbpdcligecaa.OctW
