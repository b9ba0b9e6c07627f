/- The statement OctetNums: any numbers in any number of bytes are written as the document says, or refused, told so, and read again. No condition. -/
import Derived.Test.YtdlfbpdcligecaaOctG
import Derived.Test.YtdlfbpdcligecaaLawN
namespace Go.Proofs.Ytdlfbpdcligecaa.OctW
open Go.RowKit OctMath
set_option maxRecDepth 100000
set_option linter.unusedSimpArgs false
set_option linter.unusedVariables false

theorem S_toList (l : List UInt8) : (S l).toList = l := by rw [ByteArray.toList_eq, S_list]
theorem one_below {B : Nat} {W w w' : World} (hb : Below W.heap.size W w) (hB : W.heap.size ≤ B) (h : One B w w') : Below W.heap.size W w' :=
  hb.trans (h.to_below _ hb.size (fun k hk => by rw [hk]; exact hB))
theorem Ints.in_below {W w : World} {a : Option Addr} {xs : List Int} (h : Ints W a xs) (hb : Below W.heap.size W w) : Ints w a xs := h.below hb

/-- the document's example -/
theorem nums_258 : numsW 2 [258] = ([1, 2], 0) := by decide
set_option maxHeartbeats 400000 in
theorem awake01_any (W : World) : Calls Try.prog 15 #[] W fun e w' => e = .returned (.bool true) ∧ Below W.heap.size W w' := by
  have HI : Hid (Ints (W.alloc (.cells #[.int .i64 258] 3)) (some ⟨W.heap.size, 0, none⟩) [258]) := by
    intro i hi
    have : i = 0 := by simpa using hi
    subst this
    exact ⟨_, _, rfl, by rw [World.cell?_alloc_new]; rfl⟩
  have HB : Hid (Below W.heap.size W (W.alloc (.cells #[.int .i64 258] 3))) := (Below.refl _ W).alloc (Nat.le_refl _) _
  go_enter Try.func15, Try.ntmps15
  go_wp2_with (go_at_call 16; refine (nums_any 2 (by omega) (by omega) _ 1 [258] (by decide) (by simp) _ HI.out).mono ?_)
  rintro e w1 ⟨rfl, hb1⟩
  have HB1 : Hid (Below W.heap.size W w1) := HB.out.trans (hb1.mono HB.out.size)
  clear hb1
  rw [nums_258]
  have hs := S_toList [1, 2]
  go_wp2_with fail
  go_ret
  exact ⟨rfl, HB1.out⟩

theorem numR_be (m x : Nat) (rest : List UInt8) (h1 : 1 ≤ m) (h7 : m ≤ 7) (hx : x < 256 ^ m) : numR (m : Int) ⟨be m x ++ rest, 0⟩ = (x, ⟨rest, 0⟩) := by
  have hl := be_length m x
  have ht : takeR (m : Int) ⟨be m x ++ rest, 0⟩ = (be m x, ⟨rest, 0⟩) := by
    unfold takeR
    rw [if_neg (by simp), if_neg (by omega), if_neg (by simp [hl]; omega)]
    simp [hl]
  unfold numR
  rw [if_neg (by simp), if_neg (by omega), ht, val_be, Nat.mod_eq_of_lt hx]
theorem numR_end (m : Nat) (h1 : 1 ≤ m) (h7 : m ≤ 7) : numR (m : Int) ⟨[], 0⟩ = (0, ⟨[], 3⟩) := by
  have ht : takeR (m : Int) ⟨[], 0⟩ = ([], ⟨[], 3⟩) := by
    unfold takeR
    rw [if_neg (by simp), if_neg (by omega), if_pos (by simp; omega)]
  unfold numR
  rw [if_neg (by simp), if_neg (by omega), ht]; rfl
theorem numsL_drop (n : Nat) (xs : List Int) (k : Nat) (h : k < xs.length) : numsL n (xs.drop k) = be n xs[k].toNat ++ numsL n (xs.drop (k + 1)) := by
  unfold numsL; rw [List.drop_eq_getElem_cons h]; rfl

set_option maxHeartbeats 1000000 in
theorem nums_law (n : Int) (hn0 : -9223372036854775808 ≤ n) (hn1 : n ≤ 9223372036854775807) (a : Option Addr) (cap : Nat) (xs : List Int) (hx : xs.length ≤ 17592186043904) (hr : ∀ x ∈ xs, -9223372036854775808 ≤ x ∧ x ≤ 9223372036854775807) (W : World) (h : Ints W a xs) :
    Calls Try.prog 4 #[.int .i64 n, .slice a xs.length cap] W fun e w' => e = .returned (.bool true) ∧ Below W.heap.size W w' := by
  have HI := Lib.hid h; clear h
  have HRG := Lib.hid hr; clear hr
  go_enter Try.func4, Try.ntmps4
  go_wp2_with (go_at_call 15; refine (awake01_any _).mono ?_)
  rintro e w1 ⟨rfl, hb1⟩
  have HB1 := Lib.hid hb1; clear hb1
  by_cases hl : 60 < xs.length
  · go_wp2_with fail
    go_ret
    exact ⟨rfl, HB1.out⟩
  go_wp2_with (go_at_call 16; refine (nums_any n hn0 hn1 a cap xs (by omega) HRG.out _ (HI.out.below HB1.out)).mono ?_)
  rintro e w2 ⟨rfl, hb2⟩
  have HB2 : Hid (Below W.heap.size W w2) := HB1.out.trans (hb2.mono HB1.out.size)
  clear hb2 HB1
  by_cases hw : n < 1 ∨ 7 < n
  · have HT : numsW n xs = ([], 1) := by unfold numsW; rw [if_pos hw]
    rw [HT]
    clear HT
    have hs := S_toList []
    rcases hw with hw | hw
    · go_wp2_with fail
      go_ret
      exact ⟨rfl, HB2.out⟩
    · have hw1 : 1 ≤ n := by omega
      go_wp2_with fail
      go_ret
      exact ⟨rfl, HB2.out⟩
  obtain ⟨m, rfl⟩ : ∃ m : Nat, n = m := ⟨n.toNat, by omega⟩
  have hm1 : 1 ≤ m := by omega
  have hm7 : m ≤ 7 := by omega
  have HT : Hid (numsW (m : Int) xs = if ∀ x ∈ xs, fits m x then (numsL m xs, 0) else ([], 2)) := by unfold numsW; rw [if_neg hw]; rfl
  clear hw
  generalize hNW : numsW (m : Int) xs = nw at *
  obtain ⟨ns, ne⟩ := nw
  clear hNW
  go_wp2_with fail
  go_loopw [7, 38] (fun s i wr => ∃ k : Nat, k ≤ xs.length ∧ i = .int .i64 k ∧ s = .string (S (numsL m (xs.take k))) ∧ Hid (Below W.heap.size W wr) ∧ Hid (∀ x ∈ xs.take k, fits m x)) (fun _ i _ => xs.length - (intOf i).toNat)
  case atStart => exact ⟨0, by omega, rfl, rfl, HB2, by simp [Hid]⟩
  case round =>
    clear HB2
    obtain ⟨k, hk, rfl, rfl, HB, HA⟩ := hrel
    by_cases hlt : k < xs.length
    · obtain ⟨b, off, rfl, hc⟩ := HI.out k hlt
      rw [← HB.out.cell (cell_lt hc)] at hc
      have hrg := HRG.out xs[k] (by simp)
      have hnl := numsL_take m xs k hlt
      have htk : ∀ y, y ∈ xs.take (k + 1) ↔ y ∈ xs.take k ∨ y = xs[k] := by intro y; rw [List.take_succ_eq_append_getElem hlt, List.mem_append, List.mem_singleton]
      have hmem : xs[k] ∈ xs := by simp
      generalize xs[k] = x at *
      have HNL := Lib.hid hnl; clear hnl
      have HTK := Lib.hid htk; clear htk
      have HMEM := Lib.hid hmem; clear hmem
      have hlk : (numsL m (xs.take k)).length ≤ 420 := by
        rw [numsL_length, List.length_take]
        have : min k xs.length * m ≤ 60 * 7 := Nat.mul_le_mul (by omega) hm7
        omega
      go_wp2_with (go_at_call 17; refine (fits_any m x hm7 hrg.1 hrg.2 _).mono ?_)
      rintro e w3 ⟨rfl, rfl⟩
      by_cases hf : fits m x
      · rw [decide_eq_true hf]
        obtain ⟨z, rfl⟩ : ∃ z : Nat, x = z := ⟨x.toNat, by have := hf.1; omega⟩
        have HFX := Lib.hid hf; clear hf
        go_wp2_with (go_at_call 18; refine (rnum_any m z (by omega) (by omega) _).mono ?_)
        rintro e w3 ⟨rfl, hb3⟩
        have HB3 : Hid (Below W.heap.size W w3) := HB.out.trans (hb3.mono HB.out.size)
        have hs1 : (S (numsL m (xs.take k))).size ≤ 420 := by rw [S_size]; exact hlk
        have hs2 : (S (be m z)).size ≤ 7 := by rw [S_size, be_length]; exact hm7
        have hcat : Hid (S (numsL m (xs.take k)) ++ S (be m z) = S (numsL m (xs.take (k + 1)))) := by rw [S_append, HNL.out]; rfl
        generalize S (numsL m (xs.take k)) = s at *
        generalize S (be m z) = s2 at *
        clear hb3 HB
        go_wp2_with fail
        rw [hcat.out]
        go_wp2_with fail
        go_roundw
        case rel =>
          refine ⟨k + 1, by omega, by go_num, rfl, HB3, fun y hy => ?_⟩
          rcases (HTK.out y).1 hy with hy | rfl
          · exact HA.out y hy
          · exact HFX.out
        case measure => simp [intOf]; omega
      · rw [decide_eq_false hf]
        have hno : (ns, ne) = ([], 2) := by rw [HT.out, if_neg (fun h => hf (h x HMEM.out))]
        obtain ⟨rfl, rfl⟩ := Prod.mk.inj hno
        have hs := S_toList []
        clear hf hno HT
        go_wp2_with fail
        go_ret
        exact ⟨rfl, HB.out⟩
    · have ek : k = xs.length := by omega
      subst ek
      rw [List.take_length] at HA
      have hno : (ns, ne) = (numsL m xs, 0) := by rw [HT.out, if_pos HA.out]
      obtain ⟨rfl, rfl⟩ := Prod.mk.inj hno
      clear HT hno
      rw [List.take_length]
      go_wp2_with (go_at_call 19; refine (new_any (numsL m xs) _).mono ?_)
      rintro e w3 ⟨rfl, hr3, hb3⟩
      have HR3 := Lib.hid hr3; clear hr3
      have HB3 : Hid (Below W.heap.size W w3) := HB.out.trans (hb3.mono HB.out.size)
      have HG : Hid (W.heap.size ≤ wr.heap.size) := HB.out.size
      clear hb3 HB
      generalize wr.heap.size = BR at *
      clear wr
      go_wp2_with fail
      go_loopw [69] (fun i wr => ∃ k : Nat, k ≤ xs.length ∧ i = .int .i64 k ∧ Hid (Rd BR ⟨numsL m (xs.drop k), 0⟩ wr) ∧ Hid (Below W.heap.size W wr)) (fun i _ => xs.length - (intOf i).toNat)
      case atStart => exact ⟨0, by omega, rfl, HR3, HB3⟩
      case round =>
        clear HR3 HB3
        obtain ⟨k, hk, rfl, HR, HB⟩ := hrel
        by_cases hlt : k < xs.length
        · obtain ⟨b, off, rfl, hc⟩ := HI.out k hlt
          rw [← HB.out.cell (cell_lt hc)] at hc
          have hf := HA.out xs[k] (by simp)
          have hnl := numsL_drop m xs k hlt
          generalize xs[k] = x at *
          obtain ⟨z, rfl⟩ : ∃ z : Nat, x = z := ⟨x.toNat, by have := hf.1; omega⟩
          have hz : z < 256 ^ m := by have := hf.2; omega
          have hnr := numR_be m z (numsL m (xs.drop (k + 1))) hm1 hm7 hz
          rw [← show numsL m (xs.drop k) = be m z ++ numsL m (xs.drop (k + 1)) from hnl] at hnr
          have hlen : (numsL m (xs.drop k)).length ≤ 1152921504606846976 := by
            rw [numsL_length, List.length_drop]
            have : (xs.length - k) * m ≤ 60 * 7 := Nat.mul_le_mul (by omega) hm7
            omega
          have hcall := num_any BR ⟨numsL m (xs.drop k), 0⟩ (m : Int) (by omega) (by omega) hlen _ HR.out
          rw [hnr] at hcall
          have HCALL := Lib.hid hcall
          clear hf hz hnr hcall hnl hlen
          go_wp2_with (go_at_call 20; refine HCALL.out.mono ?_)
          first | rintro e w4 rfl hr4 hm4 | rintro e w4 ⟨rfl, hr4, hm4⟩
          have HR4 := Lib.hid hr4; clear hr4
          have HB4 : Hid (Below W.heap.size W w4) := one_below HB.out HG.out hm4
          clear hm4 HR HB HCALL
          go_wp2_with fail
          go_roundw
          case rel => exact ⟨k + 1, by omega, by go_num, HR4, HB4⟩
          case measure => simp [intOf]; omega
        · have ek : k = xs.length := by omega
          subst ek
          have HR0 : Hid (Rd BR ⟨[], 0⟩ wr) := by have := HR.out; rw [List.drop_length] at this; exact this
          clear HR
          have hend : endR ⟨[], 0⟩ = 0 := rfl
          have hnr := numR_end m hm1 hm7
          go_wp2_with (go_at_call 21; refine (end_any BR _ _ HR0.out).mono ?_)
          rintro e w4 ⟨rfl, rfl⟩
          rw [hend]
          have hcall := num_any BR ⟨[], 0⟩ (m : Int) (by omega) (by omega) (by simp) _ HR0.out
          rw [hnr] at hcall
          have HCALL := Lib.hid hcall
          clear hcall hnr
          go_wp2_with (go_at_call 20; refine HCALL.out.mono ?_)
          first | rintro e w4 rfl hr4 hm4 | rintro e w4 ⟨rfl, hr4, hm4⟩
          have HR4 := Lib.hid hr4; clear hr4
          have HB4 : Hid (Below W.heap.size W w4) := one_below HB.out HG.out hm4
          clear hm4 HB hend HCALL
          go_wp2_with (go_at_call 22; refine (err_any BR _ _ HR4.out).mono ?_)
          go_ret
          exact ⟨rfl, HB4.out⟩
end Go.Proofs.Ytdlfbpdcligecaa.OctW

namespace Go.Proofs.Ytdlfbpdcligecaa.octetNums
open Go.ChangeShapes Go.WideShapes Go.ChangeAt Go.RowKit OctW OctMath
set_option linter.unusedVariables false
theorem law (W : World) (n : Int) (hn0 : -9223372036854775808 ≤ n) (hn1 : n ≤ 9223372036854775807) (a : Option Addr) (xs : List Int) (cap : Nat) (hI : Nums .i64 W a xs) (hr : ∀ x ∈ xs, (Lit.int .i64 x).wf = true) (hx : xs.length * 8 ≤ 140737488351232) :
    Calls Try.prog 4 #[.int .i64 n, .slice a xs.length cap] W fun e w' => e = .returned (.bool true) ∧ Below W.heap.size W w' :=
  nums_law n hn0 hn1 a cap xs (by omega) (fun x hm => i64_range (hr x hm)) W hI

theorem lifted (os : Os) (started : os.Started) (H : Type) (enc : TypeId × Value → H) :
    ReturnsInHanded {} Try.checked os 4 .any (Rows.octetNumsSpec.pre6 enc Try.prog Try.f4 Rows.octetNumsRow.domain false) (Rows.octetNumsSpec.post enc Try.prog Try.f4 false true false false) := by
  refine returnsInHanded_of_change_sized (C := Try.checked) own started (by kernel_rfl) Try.func4
    (ChangeSpec.witness6 (enc := enc) (C := Try.checked) false ⟨#[], #[.int .i64 0, .slice none 0 0], []⟩ 8 (by kernel_rfl) (by kernel_rfl) (by kernel_rfl) (by kernel_rfl)) ?_
  intro W base args ds gs before hval0 hW hcnd0 hsz0 hholds
  have hval : ∀ (j : Nat) t v, Try.f4.params[j]? = some t → args[j]? = some v → Value.okWide Try.prog W .any base t v := hval0
  have hsz : (DataW.weightsEach Try.prog (Try.f4.params.toList ++ Rows.octetNumsSpec.plain.varTypes Try.prog) (ds ++ gs)).all (· ≤ reachBytes) = true := hsz0
  have hW' := hW
  obtain ⟨p, q, hA0, hV, rfl, hfz, hnd⟩ := hW
  have hA : DataW.TrodAll enc Try.prog W 0 (fun _ => true) true Try.f4.params.toList args.toList ds p := hA0
  rw [Try.params4] at hA hval hsz
  obtain ⟨v0, v1, d0, d1, p0, p1, rfl, rfl, rfl, h0, h1⟩ := trodAll_two hA
  obtain ⟨rfl, rfl⟩ := trodVars_none hV
  obtain ⟨x0, rfl, rfl, rfl, w0⟩ := open_int Try.underlying3 (hval 0 3 v0 rfl rfl) h0
  obtain ⟨a1, x1, cap1, rfl, hs1, hz1, hn1⟩ := open_nums (z := 8) Try.underlying32 Try.underlying3 (by kernel_rfl) (by kernel_rfl) (hval 1 32 v1 rfl rfl) h1
    (fun n hn => by simpa using List.all_eq_true.1 hsz n (DataW.weights_mem_each (j := 1) (t := 32) rfl rfl n hn))
  clear hA0 hval0
  refine (law W x0 (i64_range w0).1 (i64_range w0).2 a1 x1 cap1 hs1 hz1 hn1).mono fun e W' ⟨he, hb⟩ => ?_
  subst he
  refine ⟨_, rfl, law_post hW' ?_ (tb := 4) (by kernel_rfl) Try.underlying4 rfl ⟨rfl, rfl, rfl⟩ hb⟩
  rw [Try.params4]
  intro t ht
  have : t = 3 ∨ t = 32 := by simpa using ht
  rcases this with rfl | rfl <;> exact ⟨by kernel_rfl, of_decide_eq_true (by kernel_rfl)⟩

theorem proved : Rows.OctetNumsSaid :=
  OpenClaim.holds_of_wide 4 Try.f4 rfl rfl rfl rfl rfl rfl rfl ⟨rfl, rfl, rfl, rfl, rfl⟩ rfl rfl rfl rfl rfl (by kernel_rfl) Try.func4 (by kernel_rfl)
    (of_decide_eq_true (by kernel_rfl)) (by unfold Func.isWrapper; rw [if_neg (of_decide_eq_false (by kernel_rfl))]; exact ⟨rfl, rfl⟩)
    (fun os started H enc _ => lifted os started H enc)
end Go.Proofs.Ytdlfbpdcligecaa.octetNums
