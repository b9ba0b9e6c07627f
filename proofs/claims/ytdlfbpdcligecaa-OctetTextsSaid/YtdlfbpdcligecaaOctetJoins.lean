/- The statement OctetJoins: numbers, texts and lists that are written one behind the other are read one behind the other. No condition. -/
import Derived.Test.YtdlfbpdcligecaaOctetCuts
import Derived.Test.YtdlfbpdcligecaaOctetReads
import Derived.Test.YtdlfbpdcligecaaAppend
import Derived.Deep.DeepCutAuto
namespace Go.Proofs.Ytdlfbpdcligecaa.octetJoins
open Go.ChangeShapes Go.WideShapes Go.ChangeAt Go.RowKit OctW OctMath octetReads octetCuts
set_option maxRecDepth 100000
set_option linter.unusedSimpArgs false
set_option linter.unusedVariables false

theorem numsW_one (z : Nat) (h : z ≤ 65535) : numsW 2 [(z : Int)] = (be 2 z, 0) := by
  unfold numsW
  rw [if_neg (by omega), if_pos]
  · simp [numsL]
  · intro x hx
    have : x = z := by simpa using hx
    subst this
    refine ⟨by omega, ?_⟩
    show (z : Int) < ((256 ^ 2 : Nat) : Int)
    omega

theorem textsL_bound : ∀ (us : List (List UInt8)) (n : Nat), (∀ t ∈ us, t.length ≤ n) → (textsL us).length ≤ (n + 2) * us.length := by
  intro us n
  induction us with
  | nil => intro _; simp [textsL]
  | cons u us ih =>
    intro h
    have h1 := h u (List.mem_cons_self ..)
    have h2 := ih (fun t ht => h t (List.mem_cons_of_mem _ ht))
    rw [textsL_cons, List.length_append, textL_length, List.length_cons, Nat.mul_succ]; omega

set_option maxHeartbeats 4000000 in
theorem law (W : World) (a : Option Addr) (xs : List Int) (cap : Nat) (hI : Nums .u16 W a xs) (hr : ∀ x ∈ xs, (Lit.int .u16 x).wf = true) (hx : xs.length * 2 ≤ 140737488351232)
    (a2 : Option Addr) (ss : List ByteArray) (cap2 : Nat) (hS : Strs W a2 ss) (hz : ∀ i (h : i < ss.length), ss[i].size ≤ 140737488351232) (hn : ss.length ≤ 8796093021952)
    (a3 : Option Addr) (ss3 : List ByteArray) (cap3 : Nat) (hS3 : Strs W a3 ss3) (hz3 : ∀ i (h : i < ss3.length), ss3[i].size ≤ 140737488351232) (hn3 : ss3.length ≤ 8796093021952) :
    Calls Try.prog 9 #[.slice a xs.length cap, .slice a2 ss.length cap2, .slice a3 ss3.length cap3] W fun e w' => e = .returned (.bool true) ∧ Below W.heap.size W w' := by
  obtain ⟨us, rfl⟩ := strs_texts ss
  obtain ⟨vs, rfl⟩ := strs_texts ss3
  have hzz : ∀ t ∈ us ++ vs, t.length ≤ 140737488351232 := fun t ht => by
    rcases List.mem_append.1 ht with h | h
    · obtain ⟨i, hi, rfl⟩ := List.getElem_of_mem h
      have := hz i (by simpa using hi); rw [List.getElem_map, S_size] at this; exact this
    · obtain ⟨i, hi, rfl⟩ := List.getElem_of_mem h
      have := hz3 i (by simpa using hi); rw [List.getElem_map, S_size] at this; exact this
  clear hz hz3
  rw [List.length_map] at hn hn3
  rw [List.length_map, List.length_map]
  obtain ⟨i0, hi0, hz0, hz1, hz2⟩ := info_parts (show (Try.prog.info? 9).map (fun i => (i.zero, i.size, i.bytes)) = some (some (.string ⟨#[]⟩), 1, 16) by kernel_rfl)
  have HI := Lib.hid hI
  have HRG := Lib.hid hr
  have HS := Lib.hid hS
  have HS3 := Lib.hid hS3
  have HZ := Lib.hid hzz
  have HI0 := Lib.hid hi0
  have HZ0 := Lib.hid hz0
  have HZ1 := Lib.hid hz1
  have HZ2 := Lib.hid hz2
  clear hI hr hS hS3 hzz hi0 hz0 hz1 hz2
  go_enter Try.func9, Try.ntmps9
  go_wp2_with fail
  refine (awake01_any _).mono ?_
  rintro e w1 ⟨rfl, hb1⟩
  have HB1 := Lib.hid hb1; clear hb1
  by_cases h1 : 20 < xs.length
  · go_wp2_with fail
    go_ret
    exact ⟨rfl, HB1.out⟩
  by_cases h2 : 20 < us.length
  · go_wp2_with fail
    go_ret
    exact ⟨rfl, HB1.out⟩
  by_cases h3 : 20 < vs.length
  · go_wp2_with fail
    go_ret
    exact ⟨rfl, HB1.out⟩
  have d1 : decide (20 < (xs.length : Int)) = false := decide_eq_false (by omega)
  have d2 : decide (20 < (us.length : Int)) = false := decide_eq_false (by omega)
  have d3 : decide (20 < (vs.length : Int)) = false := decide_eq_false (by omega)
  go_wp2_with fail
  clear d1 d2 d3
  go_loopw [7, 40] (fun s i wr => ∃ k : Nat, k ≤ xs.length ∧ i = .int .i64 k ∧ s = .string (S (numsL 2 (xs.take k))) ∧ Hid (Below W.heap.size W wr)) (fun _ i _ => xs.length - (intOf i).toNat)
  case atStart => exact ⟨0, by omega, rfl, rfl, HB1⟩
  case round =>
    clear HB1
    obtain ⟨k, hk, rfl, rfl, HB⟩ := hrel
    by_cases hlt : k < xs.length
    · obtain ⟨b, off, rfl, hc⟩ := HI.out k hlt
      rw [← HB.out.cell (cell_lt hc)] at hc
      have hrg := u16_range (HRG.out xs[k] (by simp))
      have hnl := numsL_take 2 xs k hlt
      have hlk : (numsL 2 (xs.take k)).length ≤ 40 := by
        rw [numsL_length, List.length_take]; omega
      generalize xs[k] = x at *
      obtain ⟨z, rfl⟩ := Int.eq_ofNat_of_zero_le hrg.1
      obtain ⟨hr0, hr1⟩ := hrg
      have HNL := Lib.hid hnl; clear hnl
      go_wp2_with fail
      have hints : Ints (wr.alloc (.cells #[.int .i64 (z : Int)] 3)) (some ⟨wr.heap.size, 0, none⟩) [(z : Int)] := by
        intro i hi
        have : i = 0 := by simpa using hi
        subst this
        exact ⟨_, _, rfl, by rw [World.cell?_alloc_new]; rfl⟩
      have HBa : Hid (Below W.heap.size W (wr.alloc (.cells #[.int .i64 (z : Int)] 3))) := HB.out.alloc HB.out.size _
      refine (nums_any 2 (by omega) (by omega) _ 1 [(z : Int)] (by simp) (fun x hx => by have : x = z := by simpa using hx
                                                                                         omega) _ hints).mono ?_
      rintro e w3 ⟨rfl, hb3⟩
      have HB3 : Hid (Below W.heap.size W w3) := HBa.out.trans (hb3.mono HBa.out.size)
      rw [numsW_one z (by omega)]
      have hs1 : (S (numsL 2 (xs.take k))).size ≤ 40 := by rw [S_size]; exact hlk
      have hs2 : (S (be 2 z)).size = 2 := by rw [S_size, be_length]
      have hcat : Hid (S (numsL 2 (xs.take k)) ++ S (be 2 z) = S (numsL 2 (xs.take (k + 1)))) := by rw [S_append, HNL.out]; rfl
      generalize S (numsL 2 (xs.take k)) = s at *
      generalize S (be 2 z) = s2 at *
      clear hb3 HB HBa hints
      go_wp2_with fail
      rw [hcat.out]
      go_wp2_with fail
      go_roundw
      case rel => exact ⟨k + 1, by omega, by go_num, rfl, HB3⟩
      case measure => simp [intOf]; omega
    · have ek : k = xs.length := by omega
      subst ek
      rw [List.take_length]
      have hsA : Strs wr a2 (us.map S) := HS.out.below HB.out
      have hsB : Strs wr a3 (vs.map S) := HS3.out.below HB.out
      have hrA := Row1.of_strs hsA
      have hrB := Row1.of_strs hsB
      have HRA : Hid (Row1 (wr.alloc (.cells #[] 9)) a2 ((us.map S).map .string)) := hrA.below ((Below.refl _ _).alloc (Nat.le_refl _) _)
      have HBE : Hid (Below W.heap.size W (wr.alloc (.cells #[] 9))) := HB.out.alloc HB.out.size _
      have HRB := Lib.hid hrB
      clear hsA hsB hrA hrB
      go_wp2_with (at_builtin; refine wpList_append_row rfl (.tmp 57) (.tmp 58) 48 rfl W.heap.size 9 i0 (.string ⟨#[]⟩) 16 Try.underlying48 HI0.out HZ0.out HZ1.out HZ2.out rfl _ 0 [] rfl (ownsRow_empty wr W.heap.size 9 HB.out.size) a2 us.length cap2 ((us.map S).map .string) rfl (by simp) HRA.out ?c2 ?c3 ?c4 ?c5 ?_)
      case c2 => intro u hu; simp at hu; obtain ⟨x, _, rfl⟩ := hu; rfl
      case c3 => unfold maxLen; omega
      case c4 => omega
      case c5 => exact HBE.out.size
      intro v1 w2 hown1 hg1
      have hb2 : Below wr.heap.size wr w2 := ((Below.refl _ wr).alloc (Nat.le_refl _) _).grown hg1 (by simp) (by intro g hg; have : g = wr.heap.size := by simpa [Value.ownBlock] using hg.symm
                                                                                                                 omega)
      have HRB2 : Hid (Row1 w2 a3 ((vs.map S).map .string)) := HRB.out.below hb2
      have HB2 : Hid (Below W.heap.size W w2) := HB.out.trans (hb2.mono HB.out.size)
      have HOWN := Lib.hid hown1
      clear hown1 hg1 hb2 HRA HRB HBE HB
      go_wp2_with (at_builtin; refine wpList_append_row rfl (.tmp 59) (.tmp 60) 48 rfl W.heap.size 9 i0 (.string ⟨#[]⟩) 16 Try.underlying48 HI0.out HZ0.out HZ1.out HZ2.out rfl v1 us.length _ rfl HOWN.out a3 vs.length cap3 ((vs.map S).map .string) rfl (by simp) HRB2.out ?d2 ?d3 ?d4 ?d5 ?_)
      case d2 => intro u hu; simp at hu; obtain ⟨x, _, rfl⟩ := hu; rfl
      case d3 => unfold maxLen; omega
      case d4 => omega
      case d5 => exact HB2.out.size
      intro v2 w3 hown2 hg2
      have HB3 : Hid (Below W.heap.size W w3) := HB2.out.grown hg2 HB2.out.size (ownBlock_of_own HOWN.out)
      obtain ⟨a4, c4, rfl, hrow4, hl4⟩ := Row1.of_own hown2
      have hcat : us.map (Value.string ∘ S) ++ vs.map (Value.string ∘ S) = ((us ++ vs).map S).map Value.string := by simp
      rw [hcat] at hrow4 hl4
      have hl5 : us.length + vs.length = (us ++ vs).length := by simp
      rw [hl5]
      have HS4 := Lib.hid hrow4.to_strs
      have hlen4 : (us ++ vs).length ≤ 40 := by simp; omega
      clear hown2 hg2 hcat hrow4 HB2 HOWN HRB2 hl4 hl5
      have HUV : Hid ((us ++ vs).length = us.length + vs.length) := by show _ = _; simp
      generalize hts : us ++ vs = ts at *
      have HTS := Lib.hid hts
      clear hts
      go_wp2_with fail
      go_loopw [63] (fun i wr => ∃ k : Nat, k ≤ ts.length ∧ i = .int .i64 k ∧ w3 = wr ∧ Hid (∀ t ∈ ts.take k, t.length ≤ 1000)) (fun i _ => ts.length - (intOf i).toNat)
      case atStart => exact ⟨0, by omega, rfl, rfl, by simp [Hid]⟩
      case round =>
        obtain ⟨k, hk, rfl, rfl, HA⟩ := hrel
        by_cases hlt : k < ts.length
        · obtain ⟨b, off, rfl, hc⟩ := HS4.out k (by simpa using hlt)
          rw [List.getElem_map] at hc
          have hz := HZ.out ts[k] (by simp)
          have htk : ∀ y, y ∈ ts.take (k + 1) ↔ y ∈ ts.take k ∨ y = ts[k] := by intro y; rw [List.take_succ_eq_append_getElem hlt, List.mem_append, List.mem_singleton]
          generalize ts[k] = x at *
          have HTK := Lib.hid htk; clear htk
          have hsz := S_size x
          by_cases h50 : 1000 < x.length
          · go_wp2_with fail
            go_ret
            exact ⟨rfl, HB3.out⟩
          · go_wp2_with fail
            go_roundw
            case rel =>
              refine ⟨k + 1, by omega, by go_num, trivial, fun y hy => ?_⟩
              rcases (HTK.out y).1 hy with hy | rfl
              · exact HA.out y hy
              · omega
            case measure => simp [intOf]; omega
        · have ek : k = ts.length := by omega
          subst ek
          rw [List.take_length] at HA
          go_wp2_with fail
          have hAu : ∀ t ∈ us, t.length ≤ 1000 := fun t ht => HA.out t (by rw [← HTS.out]; exact List.mem_append_left _ ht)
          have hAv : ∀ t ∈ vs, t.length ≤ 1000 := fun t ht => HA.out t (by rw [← HTS.out]; exact List.mem_append_right _ ht)
          have hlu := textsL_bound us 1000 hAu
          have hlv := textsL_bound vs 1000 hAv
          have HAU := Lib.hid hAu
          have HAV := Lib.hid hAv
          clear hAu hAv HA HS4 HZ HUV HTS hlen4
          have htw : textsW us = (textsL us, 0) := by unfold textsW; rw [if_pos (fun t ht => by have := HAU.out t ht; omega)]
          have hlw : listW vs = (be 1 vs.length ++ textsL vs, 0) := by unfold listW; rw [if_neg (by omega), if_pos (fun t ht => by have := HAV.out t ht; omega)]
          have hcu := texts_any a2 cap2 us (by omega) (by omega) w3 (HS.out.below HB3.out)
          rw [htw] at hcu
          refine hcu.mono ?_
          clear hcu htw
          rintro e w4 ⟨rfl, hb4⟩
          have HB4 : Hid (Below W.heap.size W w4) := HB3.out.trans (hb4.mono HB3.out.size)
          have hcv := listw_any a3 cap3 vs (by omega) (by omega) w4 (HS3.out.below HB4.out)
          rw [hlw] at hcv
          have HCV := Lib.hid hcv
          clear hcv hlw hb4
          go_wp2_with fail
          refine HCV.out.mono ?_
          clear HCV
          rintro e w5 ⟨rfl, hb5⟩
          have HB5 : Hid (Below W.heap.size W w5) := HB4.out.trans (hb5.mono HB4.out.size)
          clear hb5 HB4 HB3
          have hc1 : Hid (S (numsL 2 xs) ++ S (textsL us) = S (numsL 2 xs ++ textsL us)) := S_append _ _
          have hc2 : Hid (S (numsL 2 xs ++ textsL us) ++ S (be 1 vs.length ++ textsL vs) = S (numsL 2 xs ++ textsL us ++ (be 1 vs.length ++ textsL vs))) := S_append _ _
          have z1 : (S (numsL 2 xs)).size ≤ 40 := by rw [S_size, numsL_length]; omega
          have z2 : (S (textsL us)).size ≤ 100000 := by rw [S_size]; omega
          have z3 : (S (be 1 vs.length ++ textsL vs)).size ≤ 100000 := by rw [S_size, List.length_append, be_length]; omega
          have z4 : (S (numsL 2 xs ++ textsL us)).size ≤ 110000 := by rw [S_size, List.length_append, numsL_length]; omega
          have hall : (numsL 2 xs ++ textsL us ++ (be 1 vs.length ++ textsL vs)).length ≤ 300000 := by
            rw [List.length_append, List.length_append, List.length_append, numsL_length, be_length]; omega
          go_wp2_with fail
          rw [hc1.out]
          go_wp2_with fail
          rw [hc2.out]
          go_wp2_with fail
          refine (new_any _ _).mono ?_
          rintro e w6 ⟨rfl, hra, hb6⟩
          have HG : Hid (W.heap.size ≤ w5.heap.size) := HB5.out.size
          have HB6 : Hid (Below W.heap.size W w6) := HB5.out.trans (hb6.mono HB5.out.size)
          have HR : Hid (Rd w5.heap.size ⟨numsL 2 (xs.drop 0) ++ (textsL us ++ (be 1 vs.length ++ textsL vs)), 0⟩ w6) := by rw [← List.append_assoc]; exact hra
          have hrest : (textsL us ++ (be 1 vs.length ++ textsL vs)).length ≤ 300000 := by rw [List.append_assoc, List.length_append] at hall; omega
          clear hra hb6 z1 z2 z3 z4 hc1 hc2 hall
          generalize w5.heap.size = A at *
          clear HB5 w5 w4
          go_wp2_with fail
          go_loopw [89] (fun i wr => ∃ k : Nat, k ≤ xs.length ∧ i = .int .i64 k ∧ Hid (Rd A ⟨numsL 2 (xs.drop k) ++ (textsL us ++ (be 1 vs.length ++ textsL vs)), 0⟩ wr) ∧ Hid (Below W.heap.size W wr)) (fun i _ => xs.length - (intOf i).toNat)
          case atStart => exact ⟨0, by omega, rfl, HR, HB6⟩
          case round =>
            clear HR HB6
            obtain ⟨k, hk, rfl, HR, HB⟩ := hrel
            by_cases hlt : k < xs.length
            · obtain ⟨b, off, rfl, hc⟩ := HI.out k hlt
              rw [← HB.out.cell (cell_lt hc)] at hc
              have hrg := u16_range (HRG.out xs[k] (by simp))
              have hnl := numsL_drop 2 xs k hlt
              have hlen : (numsL 2 (xs.drop k) ++ (textsL us ++ (be 1 vs.length ++ textsL vs))).length ≤ 1152921504606846976 := by
                rw [List.length_append, numsL_length, List.length_drop]; omega
              have hcall := num_any A _ 2 (by omega) (by omega) hlen _ HR.out
              rw [hnl, List.append_assoc] at hcall
              clear hnl hlen
              generalize xs[k] = x at *
              obtain ⟨z, rfl⟩ := Int.eq_ofNat_of_zero_le hrg.1
              obtain ⟨hr0, hr1⟩ := hrg
              have hnr : numR 2 ⟨be 2 z ++ (numsL 2 (xs.drop (k + 1)) ++ (textsL us ++ (be 1 vs.length ++ textsL vs))), 0⟩ = (z, ⟨_, 0⟩) := numR_be 2 z _ (by omega) (by omega) (by omega)
              rw [show ((z : Int)).toNat = z from rfl, hnr] at hcall
              have HCALL := Lib.hid hcall
              clear hcall hnr
              go_wp2_with fail
              refine HCALL.out.mono ?_
              rintro e w7 ⟨rfl, hr7, hm7⟩
              have HR7 := Lib.hid hr7
              have HB7 : Hid (Below W.heap.size W w7) := one_below HB.out HG.out hm7
              clear hr7 hm7 HR HB HCALL
              go_wp2_with fail
              go_roundw
              case rel => exact ⟨k + 1, by omega, by go_num, HR7, HB7⟩
              case measure => simp [intOf]; omega
            · have ek : k = xs.length := by omega
              subst ek
              have HR0 : Hid (Rd A ⟨textsL (us.drop 0) ++ (be 1 vs.length ++ textsL vs), 0⟩ wr) := by have := HR.out; rw [List.drop_length] at this; exact this
              have HB0 := HB
              clear HR HB
              have hrest2 : (be 1 vs.length ++ textsL vs).length ≤ 300000 := by rw [List.length_append] at hrest; omega
              obtain ⟨wo, rfl⟩ : ∃ wo : World, wo = wr := ⟨_, rfl⟩
              go_wp2_with fail
              go_loopw [101] (fun i wr => ∃ k : Nat, k ≤ us.length ∧ i = .int .i64 k ∧ Hid (Rd A ⟨textsL (us.drop k) ++ (be 1 vs.length ++ textsL vs), 0⟩ wr) ∧ Hid (Below W.heap.size W wr)) (fun i _ => us.length - (intOf i).toNat)
              case atStart => exact ⟨0, by omega, rfl, HR0, HB0⟩
              case round =>
                clear HR0 HB0
                obtain ⟨k, hk, rfl, HR, HB⟩ := hrel
                by_cases hlt : k < us.length
                · obtain ⟨b, off, rfl, hc⟩ := HS.out k (by simpa using hlt)
                  rw [← HB.out.cell (cell_lt hc), List.getElem_map] at hc
                  have h1000 := HAU.out us[k] (by simp)
                  have hnl : textsL (us.drop k) = textL us[k] ++ textsL (us.drop (k + 1)) := by rw [List.drop_eq_getElem_cons hlt, textsL_cons]
                  have hlen : (textsL (us.drop k) ++ (be 1 vs.length ++ textsL vs)).length ≤ 1152921504606846976 := by
                    have := textsL_bound (us.drop k) 1000 (fun t ht => HAU.out t (List.mem_of_mem_drop ht))
                    rw [List.length_append]; rw [List.length_drop] at this; omega
                  have hcall := text_any A _ 1000 (by omega) (by omega) hlen _ HR.out
                  rw [hnl, List.append_assoc, textR_text 1000 us[k] _ (by omega) (by omega)] at hcall
                  clear hnl hlen
                  generalize us[k] = x at *
                  have HCALL := Lib.hid hcall
                  clear hcall
                  go_wp2_with fail
                  refine HCALL.out.mono ?_
                  rintro e w7 ⟨rfl, hr7, hm7⟩
                  have HR7 := Lib.hid hr7
                  have HB7 : Hid (Below W.heap.size W w7) := one_below HB.out HG.out hm7
                  clear hr7 hm7 HR HB HCALL
                  go_wp2_with fail
                  go_roundw
                  case rel => exact ⟨k + 1, by omega, by go_num, HR7, HB7⟩
                  case measure => simp [intOf]; omega
                · have ek : k = us.length := by omega
                  subst ek
                  have HR0 : Hid (Rd A ⟨be 1 vs.length ++ textsL vs ++ [], 0⟩ wr) := by have := HR.out; rw [List.drop_length] at this; rw [List.append_nil]; exact this
                  have hcall := list_any A ⟨be 1 vs.length ++ textsL vs ++ [], 0⟩ 20 1000 (by omega) (by omega) (by omega) (by omega) (show (be 1 vs.length ++ textsL vs ++ []).length ≤ _ by rw [List.append_nil]; omega) _ HR0.out
                  rw [listR_list 20 1000 [] vs (by omega) (by omega) (fun t ht => by have := HAV.out t ht; omega)] at hcall
                  have HCALL := Lib.hid hcall
                  have HAL : Hid (A < wr.heap.size) := HR0.out.lt
                  clear hcall HR HR0
                  go_wp2_with fail
                  refine HCALL.out.mono ?_
                  clear HCALL
                  rintro e w8 ⟨v, rfl, htx, hr8, hm8⟩
                  have HB8 : Hid (Below W.heap.size W w8) := one_below HB.out HG.out hm8
                  obtain ⟨a8, c8, rfl, hst⟩ := htx.strs
                  have hsm := same_texts a8 a3 c8 cap3 vs vs (by omega) (by omega) w8 hst (HS3.out.below HB8.out)
                  rw [decide_eq_true rfl] at hsm
                  have HSM := Lib.hid hsm
                  have HR8 := Lib.hid hr8
                  clear hsm hst htx hr8 hm8 HB
                  go_wp2_with fail
                  refine HSM.out.mono ?_
                  clear HSM
                  rintro e w9 ⟨rfl, hd9⟩
                  have HR9 : Hid (Rd A ⟨[], 0⟩ w9) := HR8.out.drawn hd9
                  have HB9 : Hid (Below W.heap.size W w9) := HB8.out.trans (hd9.below _)
                  have hend := end_any A _ _ HR9.out
                  rw [show endR ⟨[], 0⟩ = 0 from rfl] at hend
                  have HEND := Lib.hid hend
                  clear hend hd9 HR8 HB8
                  go_wp2_with fail
                  refine HEND.out.mono ?_
                  rintro e w10 ⟨rfl, rfl⟩
                  go_wp2_with fail
                  go_ret
                  exact ⟨rfl, HB9.out⟩

theorem lifted (os : Os) (started : os.Started) (H : Type) (enc : TypeId × Value → H) :
    ReturnsInHanded {} Try.checked os 9 .any (Rows.octetJoinsSpec.pre6 enc Try.prog Try.f9 Rows.octetJoinsRow.domain false) (Rows.octetJoinsSpec.post enc Try.prog Try.f9 false true false false) := by
  refine returnsInHanded_of_change_sized (C := Try.checked) own started (by kernel_rfl) Try.func9
    (ChangeSpec.witness6 (enc := enc) (C := Try.checked) false ⟨#[], #[.slice none 0 0, .slice none 0 0, .slice none 0 0], []⟩ 8 (by kernel_rfl) (by kernel_rfl) (by kernel_rfl) (by kernel_rfl)) ?_
  intro W base args ds gs before hval0 hW hcnd0 hsz0 hholds
  have hval : ∀ (j : Nat) t v, Try.f9.params[j]? = some t → args[j]? = some v → Value.okWide Try.prog W .any base t v := hval0
  have hsz : (DataW.weightsEach Try.prog (Try.f9.params.toList ++ Rows.octetJoinsSpec.plain.varTypes Try.prog) (ds ++ gs)).all (· ≤ reachBytes) = true := hsz0
  have hW' := hW
  obtain ⟨p, q, hA0, hV, rfl, hfz, hnd⟩ := hW
  have hA : DataW.TrodAll enc Try.prog W 0 (fun _ => true) true Try.f9.params.toList args.toList ds p := hA0
  rw [Try.params9] at hA hval hsz
  obtain ⟨v0, v1, v2, d0, d1, d2, p0, p1, p2, rfl, rfl, rfl, h0, h1, h2⟩ := trodAll_three hA
  obtain ⟨rfl, rfl⟩ := trodVars_none hV
  obtain ⟨a0, x0, cap0, rfl, hs0, hz0, hn0⟩ := open_nums (z := 2) Try.underlying71 Try.underlying72 (by kernel_rfl) (by kernel_rfl) (hval 0 71 v0 rfl rfl) h0
    (fun n hn => by simpa using List.all_eq_true.1 hsz n (DataW.weights_mem_each (j := 0) (t := 71) rfl rfl n hn))
  obtain ⟨a1, x1, cap1, rfl, hs1, hz1, hn1⟩ := open_strs Try.underlying48 Try.underlying9 (by kernel_rfl) (by kernel_rfl) (hval 1 48 v1 rfl rfl) h1
    (fun n hn => by simpa using List.all_eq_true.1 hsz n (DataW.weights_mem_each (j := 1) (t := 48) rfl rfl n hn))
  obtain ⟨a2, x2, cap2, rfl, hs2, hz2, hn2⟩ := open_strs Try.underlying48 Try.underlying9 (by kernel_rfl) (by kernel_rfl) (hval 2 48 v2 rfl rfl) h2
    (fun n hn => by simpa using List.all_eq_true.1 hsz n (DataW.weights_mem_each (j := 2) (t := 48) rfl rfl n hn))
  clear hA0 hval0
  refine (law W a0 x0 cap0 hs0 hz0 hn0 a1 x1 cap1 hs1 hz1 hn1 a2 x2 cap2 hs2 hz2 hn2).mono fun e W' ⟨he, hb⟩ => ?_
  subst he
  refine ⟨_, rfl, law_post hW' ?_ (tb := 4) (by kernel_rfl) Try.underlying4 rfl ⟨rfl, rfl, rfl⟩ hb⟩
  rw [Try.params9]
  intro t ht
  have : t = 71 ∨ t = 48 := by simpa using ht
  rcases this with rfl | rfl <;> exact ⟨by kernel_rfl, of_decide_eq_true (by kernel_rfl)⟩

theorem proved : Rows.OctetJoinsSaid :=
  OpenClaim.holds_of_wide 9 Try.f9 rfl rfl rfl rfl rfl rfl rfl ⟨rfl, rfl, rfl, rfl, rfl⟩ rfl rfl rfl rfl rfl (by kernel_rfl) Try.func9 (by kernel_rfl)
    (of_decide_eq_true (by kernel_rfl)) (by unfold Func.isWrapper; rw [if_neg (of_decide_eq_false (by kernel_rfl))]; exact ⟨rfl, rfl⟩)
    (fun os started H enc _ => lifted os started H enc)
end Go.Proofs.Ytdlfbpdcligecaa.octetJoins
