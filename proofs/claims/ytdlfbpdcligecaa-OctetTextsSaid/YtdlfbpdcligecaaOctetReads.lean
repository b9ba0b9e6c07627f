/- The statement OctetReads: any bytes are read as the document says: a number, a text, a list, or why not; what isn't read isn't gone over. No condition. -/
import Derived.Test.YtdlfbpdcligecaaOctH
import Derived.Test.YtdlfbpdcligecaaOctetNums
import Derived.Deep.DeepCutAuto
namespace Go.Proofs.Ytdlfbpdcligecaa.octetReads
open Go.ChangeShapes Go.WideShapes Go.ChangeAt Go.RowKit OctW OctMath
set_option maxRecDepth 100000
set_option linter.unusedSimpArgs false
set_option linter.unusedVariables false

theorem readsM_s (many most : Int) (l : List UInt8) : listR many most ⟨l, 0⟩ = ((readsM many most l).1, ⟨(listR many most ⟨l, 0⟩).2.s, (readsM many most l).2.2⟩) := rfl
theorem textsR_s (most : Int) (k : Nat) : ∀ r : RS, ∃ j, (textsR most k r).2.s = r.s.drop j := by
  induction k with
  | zero => intro r; exact ⟨0, rfl⟩
  | succ k ih =>
    intro r
    obtain ⟨j, hj⟩ := ih (textR most r).2
    have h1 : ∃ i, (textR most r).2.s = r.s.drop i := by
      obtain ⟨s, e⟩ := r
      by_cases he : e = 0
      · subst he; rw [textR_readM]; exact ⟨_, rfl⟩
      · refine ⟨0, ?_⟩; unfold textR; rw [if_pos he]; rfl
    obtain ⟨i, hi⟩ := h1
    exact ⟨i + j, by show (textsR most k (textR most r).2).2.s = _; rw [hj, hi, List.drop_drop]⟩
theorem listR_err (many most : Int) (l : List UInt8) (h : (listR many most ⟨l, 0⟩).2.e ≠ 0) : (listR many most ⟨l, 0⟩).1 = [] ∧ (listR many most ⟨l, 0⟩).2.s = l := by
  rw [listR_eq many most ⟨l, 0⟩ (by simp)] at h ⊢
  split
  · exact ⟨rfl, rfl⟩
  · rename_i h1; rw [if_neg h1] at h; exact absurd h h1
theorem listR_le (many most : Int) (l : List UInt8) : (listR many most ⟨l, 0⟩).2.s.length ≤ l.length := by
  rw [listR_eq many most ⟨l, 0⟩ (by simp)]
  split
  · exact Nat.le_refl _
  · exact Nat.le_trans (textsR_len _ _ _) (Nat.le_trans (longR_len _ _) (numR_len 1 ⟨l, 0⟩))
theorem err_reads (n m : Int) (r : RS) (h : r.e ≠ 0) : numR n r = (0, r) ∧ textR n r = ([], r) ∧ listR n m r = ([], r) ∧ takeR n r = ([], r) := by
  refine ⟨?_, ?_, ?_, ?_⟩
  · unfold numR; rw [if_pos h]
  · unfold textR; rw [if_pos h]
  · unfold listR; rw [if_pos h]
  · unfold takeR; rw [if_pos h]

theorem same_texts (a b : Option Addr) (c1 c2 : Nat) (xs ys : List (List UInt8)) (hx : xs.length ≤ 1048576) (hy : ys.length ≤ 1048576) (W : World) (h : Strs W a (xs.map S)) (h2 : Strs W b (ys.map S)) :
    Calls Try.prog 28 #[.slice a xs.length c1, .slice b ys.length c2] W fun e w' => e = .returned (.bool (decide (xs = ys))) ∧ Drawn W w' := by
  have := same_any a b c1 c2 (xs.map S) (ys.map S) (by simpa using hx) (by simpa using hy) W h h2
  rw [List.length_map, List.length_map] at this
  have e : decide (xs.map S = ys.map S) = decide (xs = ys) := by
    apply decide_eq_decide.2
    refine ⟨fun h => ?_, fun h => by rw [h]⟩
    exact List.map_inj_right (fun _ _ => S_inj) |>.1 h
  rw [e] at this
  exact this

set_option maxHeartbeats 2000000 in
theorem law (W : World) (s : ByteArray) (hs : s.size ≤ 140737488351232) (many : Int) (hm0 : -9223372036854775808 ≤ many) (hm1 : many ≤ 9223372036854775807) (most : Int) (hn0 : -9223372036854775808 ≤ most) (hn1 : most ≤ 9223372036854775807) :
    Calls Try.prog 5 #[.string s, .int .i64 many, .int .i64 most] W fun e w' => e = .returned (.bool true) ∧ Below W.heap.size W w' := by
  obtain ⟨l, rfl⟩ : ∃ l, s = S l := ⟨s.data.toList, (S_of s).symm⟩
  have hsz := S_size l
  rw [hsz] at hs
  go_enter Try.func5, Try.ntmps5
  go_wp2_with fail
  refine (awake01_any _).mono ?_
  rintro e w1 ⟨rfl, hb1⟩
  have HB1 := Lib.hid hb1; clear hb1
  by_cases hlen : 300 < l.length
  · go_wp2_with fail
    go_ret
    exact ⟨rfl, HB1.out⟩
  go_wp2_with fail
  refine (new_any l _).mono ?_
  rintro e w2 ⟨rfl, hra, hb2⟩
  have HG1 : Hid (W.heap.size ≤ w1.heap.size) := HB1.out.size
  have HB2 : Hid (Below W.heap.size W w2) := HB1.out.trans (hb2.mono HB1.out.size)
  have HRA := Lib.hid hra; clear hra hb2
  generalize w1.heap.size = A at *
  clear HB1 w1
  go_wp2_with fail
  refine (new_any l _).mono ?_
  rintro e w3 ⟨rfl, hrb, hb3⟩
  have HAB : Hid (A < w2.heap.size) := HRA.out.lt
  have HRA2 : Hid (Rd A ⟨l, 0⟩ w3) := HRA.out.mod (M := fun _ => False) (Mod.of_below hb3) (fun x => x)
  have HB3 : Hid (Below W.heap.size W w3) := HB2.out.trans (hb3.mono HB2.out.size)
  have HRB := Lib.hid hrb; clear hrb hb3
  generalize w2.heap.size = B at *
  clear HB2 HRA w2
  go_wp2_with fail
  refine (new_any l _).mono ?_
  rintro e w4 ⟨rfl, hrc, hb4⟩
  have HBC : Hid (B < w3.heap.size) := HRB.out.lt
  have HRA : Hid (Rd A ⟨l, 0⟩ w4) := HRA2.out.mod (M := fun _ => False) (Mod.of_below hb4) (fun x => x)
  have HRB2 : Hid (Rd B ⟨l, 0⟩ w4) := HRB.out.mod (M := fun _ => False) (Mod.of_below hb4) (fun x => x)
  have HB4 : Hid (Below W.heap.size W w4) := HB3.out.trans (hb4.mono HB3.out.size)
  have HRC := Lib.hid hrc; clear hrc hb4
  generalize w3.heap.size = C at *
  clear HB3 HRB HRA2 w3
  go_wp2_with fail
  refine (rget_any 3 l (by omega) (by omega) _).mono ?_
  rintro e w' ⟨rfl, rfl⟩
  go_wp2_with fail
  have hcall := num_any A ⟨l, 0⟩ 3 (by omega) (by omega) (show l.length ≤ _ by omega) _ HRA.out
  rw [show numR 3 ⟨l, 0⟩ = _ from numR_get 3 l (by omega) (by omega)] at hcall
  refine hcall.mono ?_
  rintro e w5 ⟨rfl, hr5, hm5⟩
  have HRB3 : Hid (Rd B ⟨l, 0⟩ w5) := HRB2.out.mod hm5 (fun h => by have := HAB.out; omega)
  have HRC3 : Hid (Rd C ⟨l, 0⟩ w5) := HRC.out.mod hm5 (fun h => by have := HAB.out; have := HBC.out; omega)
  have HB5 : Hid (Below W.heap.size W w5) := one_below HB4.out HG1.out hm5
  clear hm5 HB4 HRA HRB2 HRC hcall
  have hv3 : val (l.take 3) < 16777216 := by
    refine Nat.lt_of_lt_of_le (val_lt _) (Nat.pow_le_pow_right (n := 256) (by omega) (show _ ≤ 3 from ?_))
    simp; omega
  have hgx : ∃ (g : Int) (x : Nat) (r : RS), getM 3 l = g ∧ (if l.length < 3 then ((0 : Nat), (⟨l, 3⟩ : RS)) else (val (l.take 3), ⟨l.drop 3, 0⟩)) = (x, r) ∧ (l.length < 3 → g = -1 ∧ x = 0 ∧ r = ⟨l, 3⟩) ∧ (¬ l.length < 3 → g = (x : Int) ∧ r = ⟨l.drop 3, 0⟩) ∧ x < 16777216 := by
    unfold getM
    by_cases h : l.length < 3
    · simp only [if_pos h]; exact ⟨_, _, _, rfl, rfl, fun _ => ⟨rfl, rfl, rfl⟩, fun h2 => absurd h h2, by omega⟩
    · simp only [if_neg h]; exact ⟨_, _, _, rfl, rfl, fun h2 => absurd h2 h, fun _ => ⟨rfl, rfl⟩, hv3⟩
  obtain ⟨g, x, r, hg, hx, hgx, hgy, hx3⟩ := hgx
  rw [hg, hx]
  rw [hx] at hr5
  clear hg hx hv3
  have HR5 := Lib.hid hr5; clear hr5
  simp only
  go_upto_region 8 with fail
  go_cut [65] (fun t wx => t = .bool false ∧ w5 = wx)
  case first =>
    by_cases h3 : l.length < 3
    · obtain ⟨rfl, rfl, rfl⟩ := hgx h3
      go_wp2_with fail
      refine (err_any A _ _ HR5.out).mono ?_
      rintro e w6 ⟨rfl, rfl⟩
      go_wp2_with fail
      refine (left_any A _ _ HR5.out).mono ?_
      rintro e w6 ⟨rfl, rfl⟩
      go_wp2_with fail
      go_meet
      exact ⟨rfl, rfl⟩
    · obtain ⟨rfl, rfl⟩ := hgy h3
      have hd : (l.drop 3).length = l.length - 3 := by simp
      go_wp2_with fail
      refine (left_any A _ _ HR5.out).mono ?_
      rintro e w6 ⟨rfl, rfl⟩
      go_wp2_with fail
      go_meet
      exact ⟨congrArg Value.bool (bne_eq_false_iff_eq.2 (by omega)), rfl⟩
  case rest =>
    obtain ⟨rfl, rfl⟩ := hcut
    clear hgx hgy HR5
    go_wp2_with fail
    refine (rread_any most l hn0 hn1 (by omega) _).mono ?_
    rintro e w6 ⟨rfl, rfl⟩
    have hrm := textR_readM most l
    have hle := readM_le most l
    have he6 := readM_e most l
    have hcall := text_any B ⟨l, 0⟩ most hn0 hn1 (show l.length ≤ _ by omega) _ HRB3.out
    rw [hrm] at hcall
    have hdl : (l.drop (readM most l).2.1).length = l.length - (readM most l).2.1 := by simp
    generalize readM most l = rm at *
    obtain ⟨t, k, e⟩ := rm
    simp only at *
    have HCALL := Lib.hid hcall
    clear hcall hrm
    go_wp2_with fail
    refine HCALL.out.mono ?_
    rintro e w6 ⟨rfl, hr6, hm6⟩
    have HR6 := Lib.hid hr6; clear hr6
    have HRC6 : Hid (Rd C ⟨l, 0⟩ w6) := HRC3.out.mod hm6 (fun h => by have := HBC.out; omega)
    have HB6 : Hid (Below W.heap.size W w6) := one_below HB5.out (show W.heap.size ≤ B from by have := HG1.out; have := HAB.out; omega) hm6
    clear hm6 HCALL HRC3 HRB3 HB5
    go_wp2_with fail
    refine (err_any B _ _ HR6.out).mono ?_
    rintro e w7 ⟨rfl, rfl⟩
    go_wp2_with fail
    refine (left_any B _ _ HR6.out).mono ?_
    rintro e w7 ⟨rfl, rfl⟩
    have hb2 : (((l.drop k).length : Nat) : Int) = (l.length : Int) - k := by omega
    simp only
    rw [hb2]
    clear hb2 hdl
    go_wp2_with fail
    clear HR6
    have hls := readsM_s many most l
    have hle2 := listR_le many most l
    have herr := listR_err many most l
    have hk2 : (readsM many most l).2.1 = l.length - (listR many most ⟨l, 0⟩).2.s.length := rfl
    have hrd := rreads_any many most hn0 hn1 hm0 hm1 l (by omega) w6
    have hlc := list_any C ⟨l, 0⟩ many most hn0 hn1 hm0 hm1 (show l.length ≤ _ by omega)
    have hcnt : (listR many most ⟨l, 0⟩).1.length ≤ 255 := by
      rw [listR_eq many most ⟨l, 0⟩ (by simp)]
      have := numR_lt 1 ⟨l, 0⟩
      split
      · simp
      · rw [textsR_length]; simp at this; omega
    generalize (listR many most ⟨l, 0⟩).2.s = sl at *
    generalize readsM many most l = rm at *
    rw [hls] at hlc herr hcnt
    clear hls
    obtain ⟨ts, k2, e2⟩ := rm
    simp only at *
    have HLC := Lib.hid hlc
    have HERR := Lib.hid herr
    have HK2 := Lib.hid hk2
    clear hlc herr hk2
    refine hrd.mono ?_
    clear hrd
    rintro e w7 ⟨v, rfl, htx, hb7⟩
    have HRC7 : Hid (Rd C ⟨l, 0⟩ w7) := HRC6.out.mod (M := fun _ => False) (Mod.of_below hb7) (fun x => x)
    have HB7 : Hid (Below W.heap.size W w7) := HB6.out.trans (hb7.mono HB6.out.size)
    have HG7 : Hid (w6.heap.size ≤ w7.heap.size) := hb7.size
    have HC6 : Hid (C < w6.heap.size) := HRC6.out.lt
    have HTX := Lib.hid htx
    clear htx hb7 HRC6 HB6
    go_wp2_with fail
    refine (HLC.out _ HRC7.out).mono ?_
    rintro e w8 ⟨v2, rfl, htx2, hr8, hm8⟩
    have htx1 : Texts w6.heap.size v ts w8 := ownsRow_mod HTX.out hm8 (fun k hk => by rw [hk]; exact HC6.out)
    have HB8 : Hid (Below W.heap.size W w8) := one_below HB7.out (show W.heap.size ≤ C from by have := HG1.out; have := HAB.out; have := HBC.out; omega) hm8
    have HR8 := Lib.hid hr8
    obtain ⟨a1, c1, rfl, hst1⟩ := htx1.strs
    obtain ⟨a2, c2, rfl, hst2⟩ := htx2.strs
    have HS1 := Lib.hid hst1
    have HS2 := Lib.hid hst2
    clear hr8 hm8 hst1 hst2 htx1 htx2 HTX HLC HRC7 HB7 HC6 HG7
    go_wp2_with fail
    refine (same_texts a2 a1 c2 c1 ts ts (by omega) (by omega) _ HS2.out HS1.out).mono ?_
    rintro e w9 ⟨rfl, hd9⟩
    rw [decide_eq_true rfl]
    have HB9 : Hid (Below W.heap.size W w9) := HB8.out.trans (hd9.below _)
    have HR9 : Hid (Rd C ⟨sl, e2⟩ w9) := HR8.out.drawn hd9
    clear hd9 HB8 HR8 HS1 HS2
    go_wp2_with fail
    refine (err_any C _ _ HR9.out).mono ?_
    rintro e w10 ⟨rfl, rfl⟩
    go_wp2_with fail
    refine (left_any C _ _ HR9.out).mono ?_
    rintro e w10 ⟨rfl, rfl⟩
    have hb2 : (sl.length : Int) = (l.length : Int) - k2 := by have := HK2.out; omega
    simp only
    rw [hb2]
    have HB2 := Lib.hid hb2
    have hk2l : (k2 : Int) ≤ l.length := by have := HK2.out; omega
    clear hb2
    by_cases he2 : e2 = 0
    · subst he2
      go_wp2_with fail
      refine (end_any C _ _ HR9.out).mono ?_
      rintro e w10 ⟨rfl, rfl⟩
      by_cases h0 : sl.length = 0
      · have : endR ⟨sl, 0⟩ = 0 := by unfold endR; simp [h0]
        rw [this]
        have hk : (k2 : Int) = l.length := by have := HB2.out; omega
        go_wp2_with fail
        go_ret
        exact ⟨ret_bool (by simp), HB9.out⟩
      · have : endR ⟨sl, 0⟩ = 4 := by unfold endR; simp [h0]
        rw [this]
        have hk : ((k2 : Int) == l.length) = false := beq_eq_false_iff_ne.2 (by have := HB2.out; omega)
        go_wp2_with fail
        go_ret
        exact ⟨ret_bool (by simp), HB9.out⟩
    · obtain ⟨rfl, rfl⟩ := HERR.out he2
      have hne : ((e2 : Int) == 0) = false := eq_f he2
      have hnn : ((e2 : Int) != 0) = true := ne_b he2
      obtain ⟨q1, q2, q3, q4⟩ := err_reads 9 9 ⟨sl, e2⟩ he2
      obtain ⟨p1, _, _, _⟩ := err_reads 1 9 ⟨sl, e2⟩ he2
      obtain ⟨_, _, _, z4⟩ := err_reads 0 9 ⟨sl, e2⟩ he2
      have hend : endR ⟨sl, e2⟩ = e2 := by unfold endR; rw [if_pos he2]
      have h1 := num_any C ⟨sl, e2⟩ 1 (by omega) (by omega) (show sl.length ≤ _ by omega)
      have h2 := text_any C ⟨sl, e2⟩ 9 (by omega) (by omega) (show sl.length ≤ _ by omega)
      have h3 := list_any C ⟨sl, e2⟩ 9 9 (by omega) (by omega) (by omega) (by omega) (show sl.length ≤ _ by omega)
      have h4 := take_any C ⟨sl, e2⟩ 0 (by omega) (by omega) (show sl.length ≤ _ by omega)
      have h5 := end_any C ⟨sl, e2⟩
      rw [p1] at h1
      rw [q2] at h2
      rw [q3] at h3
      rw [z4] at h4
      rw [hend] at h5
      have H1 := Lib.hid h1
      have H2 := Lib.hid h2
      have H3 := Lib.hid h3
      have H4 := Lib.hid h4
      have H5 := Lib.hid h5
      have hk0 : Hid (k2 = 0) := by have := HK2.out; show _ = _; omega
      have hnil := S_toList []
      have HC : Hid (W.heap.size ≤ C) := by show _ ≤ _; have := HG1.out; have := HAB.out; have := HBC.out; omega
      clear h1 h2 h3 h4 h5 hend p1 q1 q2 q3 q4 z4 he2 HK2 HERR HB2
      go_wp2_with fail
      refine (H1.out _ HR9.out).mono ?_
      rintro e w10 ⟨rfl, hr, hm⟩
      have HR10 := Lib.hid hr
      have HB10 : Hid (Below W.heap.size W w10) := one_below HB9.out HC.out hm
      clear hr hm HR9 HB9
      go_wp2_with fail
      refine (H2.out _ HR10.out).mono ?_
      rintro e w11 ⟨rfl, hr, hm⟩
      have HR11 := Lib.hid hr
      have HB11 : Hid (Below W.heap.size W w11) := one_below HB10.out HC.out hm
      clear hr hm HR10 HB10
      go_wp2_with fail
      refine (H3.out _ HR11.out).mono ?_
      rintro e w12 ⟨v, rfl, htx, hr, hm⟩
      obtain ⟨a3, c3, rfl, _⟩ := htx.strs
      have HR12 := Lib.hid hr
      have HB12 : Hid (Below W.heap.size W w12) := one_below HB11.out HC.out hm
      clear hr hm HR11 HB11 htx
      go_wp2_with fail
      refine (H4.out _ HR12.out).mono ?_
      rintro e w13 ⟨rfl, hr, hm⟩
      have HR13 := Lib.hid hr
      have HB13 : Hid (Below W.heap.size W w13) := one_below HB12.out HC.out hm
      clear hr hm HR12 HB12
      go_wp2_with fail
      refine (err_any C _ _ HR13.out).mono ?_
      rintro e w14 ⟨rfl, rfl⟩
      go_wp2_with fail
      refine (H5.out _ HR13.out).mono ?_
      rintro e w14 ⟨rfl, rfl⟩
      go_wp2_with fail
      refine (left_any C _ _ HR13.out).mono ?_
      rintro e w14 ⟨rfl, rfl⟩
      go_wp2_with fail
      go_ret
      exact ⟨ret_bool (by simp), HB13.out⟩

theorem lifted (os : Os) (started : os.Started) (H : Type) (enc : TypeId × Value → H) :
    ReturnsInHanded {} Try.checked os 5 .any (Rows.octetReadsSpec.pre6 enc Try.prog Try.f5 Rows.octetReadsRow.domain false) (Rows.octetReadsSpec.post enc Try.prog Try.f5 false true false false) := by
  refine returnsInHanded_of_change_sized (C := Try.checked) own started (by kernel_rfl) Try.func5
    (ChangeSpec.witness6 (enc := enc) (C := Try.checked) false ⟨#[], #[.string ⟨#[]⟩, .int .i64 0, .int .i64 0], []⟩ 8 (by kernel_rfl) (by kernel_rfl) (by kernel_rfl) (by kernel_rfl)) ?_
  intro W base args ds gs before hval0 hW hcnd0 hsz0 hholds
  have hval : ∀ (j : Nat) t v, Try.f5.params[j]? = some t → args[j]? = some v → Value.okWide Try.prog W .any base t v := hval0
  have hsz : (DataW.weightsEach Try.prog (Try.f5.params.toList ++ Rows.octetReadsSpec.plain.varTypes Try.prog) (ds ++ gs)).all (· ≤ reachBytes) = true := hsz0
  have hW' := hW
  obtain ⟨p, q, hA0, hV, rfl, hfz, hnd⟩ := hW
  have hA : DataW.TrodAll enc Try.prog W 0 (fun _ => true) true Try.f5.params.toList args.toList ds p := hA0
  rw [Try.params5] at hA hval hsz
  obtain ⟨v0, v1, v2, d0, d1, d2, p0, p1, p2, rfl, rfl, rfl, h0, h1, h2⟩ := trodAll_three hA
  obtain ⟨rfl, rfl⟩ := trodVars_none hV
  obtain ⟨x0, rfl, rfl, rfl, hx0⟩ := Go.ChangeMaps.open_string Try.underlying9 (hval 0 9 v0 rfl rfl) h0
  have z0 : x0.size ≤ 140737488351232 := of_decide_eq_true (List.all_eq_true.1 hsz _ (DataW.weights_mem_each (j := 0) (t := 9) rfl rfl x0.data.toList.length (by simp [DataW.weights])))
  obtain ⟨x1, rfl, rfl, rfl, w1⟩ := open_int Try.underlying3 (hval 1 3 v1 rfl rfl) h1
  obtain ⟨x2, rfl, rfl, rfl, w2⟩ := open_int Try.underlying3 (hval 2 3 v2 rfl rfl) h2
  clear hA0 hval0
  refine (law W x0 z0 x1 (i64_range w1).1 (i64_range w1).2 x2 (i64_range w2).1 (i64_range w2).2).mono fun e W' ⟨he, hb⟩ => ?_
  subst he
  refine ⟨_, rfl, law_post hW' ?_ (tb := 4) (by kernel_rfl) Try.underlying4 rfl ⟨rfl, rfl, rfl⟩ hb⟩
  rw [Try.params5]
  intro t ht
  have : t = 9 ∨ t = 3 := by simpa using ht
  rcases this with rfl | rfl <;> exact ⟨by kernel_rfl, of_decide_eq_true (by kernel_rfl)⟩

theorem proved : Rows.OctetReadsSaid :=
  OpenClaim.holds_of_wide 5 Try.f5 rfl rfl rfl rfl rfl rfl rfl ⟨rfl, rfl, rfl, rfl, rfl⟩ rfl rfl rfl rfl rfl (by kernel_rfl) Try.func5 (by kernel_rfl)
    (of_decide_eq_true (by kernel_rfl)) (by unfold Func.isWrapper; rw [if_neg (of_decide_eq_false (by kernel_rfl))]; exact ⟨rfl, rfl⟩)
    (fun os started H enc _ => lifted os started H enc)
end Go.Proofs.Ytdlfbpdcligecaa.octetReads
