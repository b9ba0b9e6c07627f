/- The document's answer for layer 1: what its functions tell. -/
import Derived.Test.YtdlfbpdcligecaaOctF
import Derived.Test.YtdlfbpdcligecaaNumW
namespace Go.Proofs.Ytdlfbpdcligecaa.OctW
open Go.RowKit OctMath
set_option maxRecDepth 100000
set_option linter.unusedSimpArgs false
set_option linter.unusedVariables false

theorem be_same (k x : Nat) : NumW.be k x = be k x := by
  induction k with
  | zero => rfl
  | succ k ih => simp [NumW.be, be, ih]
theorem rnum_any (n x : Nat) (hn : n ≤ 4611686018427387904) (hx : x ≤ 9223372036854775807) (W : World) :
    Calls Try.prog 18 #[.int .i64 (n : Int), .int .i64 (x : Int)] W fun e w' => e = .returned (.string (S (be n x))) ∧ Below W.heap.size W w' := by
  refine (NumW.num_any n x hn hx W).mono ?_
  rintro e w' ⟨rfl, h⟩
  exact ⟨by rw [be_same]; rfl, h⟩

set_option maxHeartbeats 400000 in
theorem fits_any (n : Nat) (x : Int) (hn : n ≤ 7) (hx0 : -9223372036854775808 ≤ x) (hx1 : x ≤ 9223372036854775807) (W : World) :
    Calls Try.prog 17 #[.int .i64 (n : Int), .int .i64 x] W fun e w' => e = .returned (.bool (decide (fits n x))) ∧ W = w' := by
  go_enter Try.func17, Try.ntmps17
  go_wp2_with fail
  go_loopw [5, 6] (fun y i wr => ∃ k m : Nat, k ≤ n ∧ i = .int .i64 k ∧ y = .int .i64 m ∧ Hid (m = 256 ^ k) ∧ W = wr) (fun _ i _ => n - (intOf i).toNat)
  case atStart => exact ⟨0, 1, by omega, rfl, rfl, rfl, rfl⟩
  case round =>
    obtain ⟨k, m, hk, rfl, rfl, HM, rfl⟩ := hrel
    have hm : m ≤ 72057594037927936 := by
      rw [HM.out]; exact Nat.pow_le_pow_right (n := 256) (by omega) (show k ≤ 7 by omega)
    by_cases hlt : k < n
    · have hm2 : m ≤ 281474976710656 := by
        rw [HM.out]; exact Nat.pow_le_pow_right (n := 256) (by omega) (show k ≤ 6 by omega)
      go_wp2_with fail
      go_roundw
      case rel => exact ⟨k + 1, m * 256, by omega, by go_num, by go_num, by show _ = _; rw [HM.out, Nat.pow_succ], trivial⟩
      case measure => simp [intOf]; omega
    · have ek : k = n := by omega
      subst ek
      by_cases h0 : 0 ≤ x
      · have HF : Hid (decide (fits k x) = decide (x < (m : Int))) := by
          show _ = _
          apply decide_eq_decide.2
          unfold fits; rw [HM.out]
          exact ⟨fun h => h.2, fun h => ⟨h0, h⟩⟩
        go_wp2_with fail
        go_ret
        exact ⟨ret_bool HF.out.symm, rfl⟩
      · have HF : Hid (decide (fits k x) = false) := decide_eq_false (fun h => h0 h.1)
        have h1 : x < 0 := by omega
        go_wp2_with fail
        go_ret
        exact ⟨ret_bool HF.out.symm, rfl⟩

def getM (n : Nat) (l : List UInt8) : Int := if l.length < n then -1 else (val (l.take n) : Int)
set_option maxHeartbeats 400000 in
theorem rget_any (n : Nat) (l : List UInt8) (hn : n ≤ 3) (hl : l.length ≤ 1152921504606846976) (W : World) :
    Calls Try.prog 23 #[.string (S l), .int .i64 (n : Int)] W fun e w' => e = .returned (.int .i64 (getM n l)) ∧ W = w' := by
  have hsz := S_size l
  go_enter Try.func23, Try.ntmps23
  by_cases hlt : l.length < n
  · have HT : Hid (getM n l = -1) := by unfold getM; rw [if_pos hlt]; rfl
    go_wp2_with fail
    go_ret
    exact ⟨ret_int HT.out.symm, rfl⟩
  · have HT : Hid (getM n l = (val (l.take n) : Int)) := by unfold getM; rw [if_neg hlt]; rfl
    go_wp2_with fail
    go_loopw [5, 6] (fun y i wr => ∃ k : Nat, k ≤ n ∧ i = .int .i64 k ∧ y = .int .i64 (val (l.take k) : Int) ∧ W = wr) (fun _ i _ => n - (intOf i).toNat)
    case atStart => exact ⟨0, by omega, rfl, rfl, rfl⟩
    case round =>
      obtain ⟨k, hk, rfl, rfl, rfl⟩ := hrel
      by_cases hk2 : k < n
      · have hkl : k < l.length := by omega
        have hv : val (l.take k) < 256 ^ 3 := by
          refine Nat.lt_of_lt_of_le (val_lt _) (Nat.pow_le_pow_right (by omega) ?_)
          simp; omega
        have hstep : val (l.take (k + 1)) = 256 * val (l.take k) + l[k].toNat := by
          rw [List.take_succ_eq_append_getElem hkl, val_snoc]
        have hi : k < (S l).size := by rw [hsz]; exact hkl
        have hget : (S l)[k] = l[k] := rfl
        generalize l[k] = c at *
        generalize hV : val (l.take k) = V at *
        have HV := Lib.hid hV; clear hV
        have HST := Lib.hid hstep; clear hstep
        have hc := c.toNat_lt
        go_wp2_with fail
        go_roundw
        case rel => exact ⟨k + 1, by omega, by go_num, by rw [HST.out]; go_num, trivial⟩
        case measure => simp [intOf]; omega
      · have ek : k = n := by omega
        subst ek
        generalize hV : val (l.take k) = V at *
        go_wp2_with fail
        go_ret
        exact ⟨ret_int HT.out.symm, rfl⟩

def readM (most : Int) (l : List UInt8) : List UInt8 × Nat × Nat :=
  if l.length < 2 then ([], 0, 3) else if most < (val (l.take 2) : Int) then ([], 0, 6) else if l.length < 2 + val (l.take 2) then ([], 0, 3) else ((l.drop 2).take (val (l.take 2)), 2 + val (l.take 2), 0)
set_option maxHeartbeats 400000 in
theorem rread_any (most : Int) (l : List UInt8) (hm0 : -9223372036854775808 ≤ most) (hm1 : most ≤ 9223372036854775807) (hl : l.length ≤ 1152921504606846976) (W : World) :
    Calls Try.prog 25 #[.string (S l), .int .i64 most] W fun e w' => e = .returned (.tuple #[.string (S (readM most l).1), .int .i64 ((readM most l).2.1 : Int), .int .i64 ((readM most l).2.2 : Int)]) ∧ W = w' := by
  have hsz := S_size l
  go_enter Try.func25, Try.ntmps25
  go_wp2_with (go_at_call 23; refine (rget_any 2 l (by omega) hl _).mono ?_)
  rintro e w' ⟨rfl, rfl⟩
  by_cases hlt : l.length < 2
  · have hg : getM 2 l = -1 := by unfold getM; rw [if_pos hlt]
    have HT : Hid (readM most l = ([], 0, 3)) := by unfold readM; rw [if_pos hlt]; rfl
    rw [hg]
    go_wp2_with fail
    go_ret3
    rw [HT.out]
    exact ⟨rfl, rfl⟩
  · have hg : getM 2 l = (val (l.take 2) : Int) := by unfold getM; rw [if_neg hlt]
    have hv : val (l.take 2) < 65536 := by
      refine Nat.lt_of_lt_of_le (val_lt _) (Nat.pow_le_pow_right (n := 256) (by omega) (show _ ≤ 2 from ?_))
      simp; omega
    have hT : readM most l = if most < (val (l.take 2) : Int) then ([], 0, 6) else if l.length < 2 + val (l.take 2) then ([], 0, 3) else ((l.drop 2).take (val (l.take 2)), 2 + val (l.take 2), 0) := by unfold readM; rw [if_neg hlt]
    rw [hg]
    clear hg
    generalize val (l.take 2) = x at *
    by_cases hm : most < (x : Int)
    · have HT : Hid (readM most l = ([], 0, 6)) := by rw [hT, if_pos hm]; rfl
      clear hT
      go_wp2_with fail
      go_ret3
      rw [HT.out]
      exact ⟨rfl, rfl⟩
    · by_cases hs : l.length < 2 + x
      · have HT : Hid (readM most l = ([], 0, 3)) := by rw [hT, if_neg hm, if_pos hs]; rfl
        clear hT
        have hs2 : (l.length : Int) - 2 < x := by omega
        have hm2 : (x : Int) ≤ most := by omega
        go_wp2_with fail
        go_ret3
        rw [HT.out]
        exact ⟨rfl, rfl⟩
      · have HT : Hid (readM most l = ((l.drop 2).take x, 2 + x, 0)) := by rw [hT, if_neg hm, if_neg hs]; rfl
        have hmid : Hid ((S l).extract 2 (2 + x) = S ((l.drop 2).take x)) := by
          have := S_mid l 2 (2 + x); rw [Nat.add_sub_cancel_left] at this; exact this
        clear hT
        have hs2 : 2 + x ≤ l.length := by omega
        have hs3 : (x : Int) ≤ (l.length : Int) - 2 := by omega
        have hm2 : (x : Int) ≤ most := by omega
        go_wp2_with fail
        rw [hmid.out]
        go_ret3
        rw [HT.out]
        exact ⟨rfl, rfl⟩

set_option maxHeartbeats 400000 in
theorem rtext_any (t : List UInt8) (hl : t.length ≤ 1152921504606846976) (W : World) :
    Calls Try.prog 36 #[.string (S t)] W fun e w' => e = .returned (.string (S (textL t))) ∧ Below W.heap.size W w' := by
  have hsz := S_size t
  have hs2 : (S (be 2 t.length)).size = 2 := by rw [S_size, be_length]
  have hcat : Hid (S (be 2 t.length) ++ S t = S (textL t)) := S_append _ _
  go_enter Try.func36, Try.ntmps36
  go_wp2_with (go_at_call 18; refine (rnum_any 2 t.length (by omega) (by omega) _).mono ?_)
  rintro e w1 ⟨rfl, hb1⟩
  go_wp2_with fail
  rw [hcat.out]
  go_wp2_with fail
  go_ret
  exact ⟨rfl, hb1⟩

def rlistL (ts : List (List UInt8)) : List UInt8 := be 1 ts.length ++ textsL ts
set_option maxHeartbeats 800000 in
theorem rlist_any (a : Option Addr) (cap : Nat) (ts : List (List UInt8)) (hx : ts.length ≤ 1048576) (hlen : (textsL ts).length ≤ 1073741824) (W : World) (h : Strs W a (ts.map S)) :
    Calls Try.prog 39 #[.slice a ts.length cap] W fun e w' => e = .returned (.string (S (rlistL ts))) ∧ Below W.heap.size W w' := by
  have HI := Lib.hid h; clear h
  have HLEN := Lib.hid hlen; clear hlen
  go_enter Try.func39, Try.ntmps39
  go_wp2_with (go_at_call 18; refine (rnum_any 1 ts.length (by omega) (by omega) _).mono ?_)
  rintro e w1 ⟨rfl, hb1⟩
  have HB := Lib.hid hb1; clear hb1
  go_wp2_with fail
  go_loopw [3, 4] (fun s i wr => ∃ k : Nat, k ≤ ts.length ∧ i = .int .i64 k ∧ s = .string (S (be 1 ts.length ++ textsL (ts.take k))) ∧ Hid (Below W.heap.size W wr)) (fun _ i _ => ts.length - (intOf i).toNat)
  case atStart => exact ⟨0, by omega, rfl, by simp [textsL], HB⟩
  case round =>
    clear HB
    obtain ⟨k, hk, rfl, rfl, HB⟩ := hrel
    by_cases hlt : k < ts.length
    · obtain ⟨b, off, rfl, hc⟩ := HI.out k (by simpa using hlt)
      rw [← HB.out.cell (cell_lt hc), List.getElem_map] at hc
      have hnl := textsL_take ts k hlt
      have hl1 : (textsL (ts.take (k + 1))).length ≤ 1073741824 := Nat.le_trans (textsL_take_le ts _) HLEN.out
      rw [hnl, List.length_append] at hl1
      generalize ts[k] = x at *
      have hxl : (textL x).length = x.length + 2 := by unfold textL; rw [List.length_append, be_length]; omega
      have HNL := Lib.hid hnl; clear hnl
      have hsz := S_size x
      have hs2 : (S (textL x)).size = x.length + 2 := by rw [S_size]; exact hxl
      have hs3 : (S (be 1 ts.length ++ textsL (ts.take k))).size = 1 + (textsL (ts.take k)).length := by rw [S_size, List.length_append, be_length]
      have hcat : Hid (S (be 1 ts.length ++ textsL (ts.take k)) ++ S (textL x) = S (be 1 ts.length ++ textsL (ts.take (k + 1)))) := by
        rw [S_append, HNL.out, List.append_assoc]; rfl
      generalize S (be 1 ts.length ++ textsL (ts.take k)) = s at *
      go_wp2_with (go_at_call 36; refine (rtext_any x (by omega) _).mono ?_)
      rintro e w2 ⟨rfl, hb2⟩
      have HB2 : Hid (Below W.heap.size W w2) := HB.out.trans (hb2.mono HB.out.size)
      clear hb2
      go_wp2_with fail
      rw [hcat.out]
      go_wp2_with fail
      go_roundw
      case rel => exact ⟨k + 1, by omega, by go_num, rfl, HB2⟩
      case measure => simp [intOf]; omega
    · have ek : k = ts.length := by omega
      subst ek
      rw [List.take_length]
      go_wp2_with fail
      go_ret
      exact ⟨rfl, HB.out⟩

theorem bytes_beq (x y : ByteArray) : (x.toList == y.toList) = decide (x = y) := by
  rw [ByteArray.toList_eq, ByteArray.toList_eq]
  by_cases h : x = y
  · subst h; simp
  · rw [decide_eq_false h]
    apply beq_eq_false_iff_ne.2
    intro e
    exact h (by cases x; cases y; simpa using e)

set_option maxHeartbeats 800000 in
theorem same_any (a b : Option Addr) (c1 c2 : Nat) (xs ys : List ByteArray) (hx : xs.length ≤ 1048576) (hy : ys.length ≤ 1048576) (W : World) (h : Strs W a xs) (h2 : Strs W b ys) :
    Calls Try.prog 28 #[.slice a xs.length c1, .slice b ys.length c2] W fun e w' => e = .returned (.bool (decide (xs = ys))) ∧ Drawn W w' := by
  have HX := Lib.hid h; clear h
  have HY := Lib.hid h2; clear h2
  go_enter Try.func28, Try.ntmps28
  by_cases hl : xs.length = ys.length
  · go_wp2_with fail
    go_loopw [5] (fun i wr => ∃ k : Nat, k ≤ xs.length ∧ i = .int .i64 k ∧ Hid (Drawn W wr) ∧ Hid (xs.take k = ys.take k)) (fun i _ => xs.length - (intOf i).toNat)
    case atStart => exact ⟨0, by omega, rfl, Drawn.refl _, rfl⟩
    case round =>
      obtain ⟨k, hk, rfl, HD, HS⟩ := hrel
      by_cases hlt : k < xs.length
      · have hlt2 : k < ys.length := by omega
        obtain ⟨b1, o1, rfl, hc1⟩ := HX.out k hlt
        obtain ⟨b2, o2, rfl, hc2⟩ := HY.out k hlt2
        rw [← HD.out.cell] at hc1 hc2
        have hs : Hid (xs[k] = ys[k] → xs.take (k + 1) = ys.take (k + 1)) := fun h => by
          rw [List.take_succ_eq_append_getElem hlt, List.take_succ_eq_append_getElem hlt2, HS.out, h]
        have hs2 : Hid (¬ xs[k] = ys[k] → xs ≠ ys) := fun h e => h (by subst e; rfl)
        generalize xs[k] = x at *
        generalize ys[k] = y at *
        go_wp2_with fail
        go_region
        rw [bytes_beq]
        have HD2 : Hid (Drawn W wr.drew) := HD.out.drew
        clear hc1 hc2 HD
        by_cases hxy : x = y
        · rw [decide_eq_true hxy]
          have HT := Lib.hid (hs.out hxy)
          clear hs hs2 HS hxy
          go_wp2_with fail
          go_roundw
          case rel => exact ⟨k + 1, by omega, by go_num, HD2, HT⟩
          case measure => simp [intOf]; omega
        · rw [decide_eq_false hxy]
          have HT := Lib.hid (hs2.out hxy)
          clear hs hs2 HS hxy
          go_wp2_with fail
          go_ret
          exact ⟨ret_bool (decide_eq_false HT.out).symm, HD2.out⟩
      · have ek : k = xs.length := by omega
        subst ek
        have heq : Hid (xs = ys) := by
          have := HS.out
          rw [List.take_length, hl, List.take_length] at this; exact this
        go_wp2_with fail
        go_ret
        exact ⟨ret_bool (decide_eq_true heq.out).symm, HD.out⟩
  · have hne : Hid (xs ≠ ys) := fun e => hl (by rw [e])
    have hb : ((xs.length : Int) != (ys.length : Int)) = true := bne_iff_ne.2 (by omega)
    go_wp2_with fail
    go_ret
    exact ⟨ret_bool (decide_eq_false hne.out).symm, Drawn.refl _⟩
end Go.Proofs.Ytdlfbpdcligecaa.OctW
