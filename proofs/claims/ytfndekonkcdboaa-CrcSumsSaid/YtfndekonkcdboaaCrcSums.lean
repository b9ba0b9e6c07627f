/- The statement CrcSums: any texts, up to 60 of 3000 bytes in all, have the sum that the document says, however they are cut. No condition. -/
import Derived.Test.YtfndekonkcdboaaCrcE
import Derived.Test.YtfndekonkcdboaaLaw
namespace Go.Proofs.Ytfndekonkcdboaa.crcSums
open Go.ChangeShapes Go.WideShapes Go.ChangeAt Go.RowKit CrcW CrcMath
set_option maxRecDepth 100000
set_option linter.unusedSimpArgs false
set_option linter.unusedVariables false

def cat (ss : List ByteArray) : ByteArray := ⟨(flat ss).toArray⟩
theorem cat_snoc (ss : List ByteArray) (k : Nat) (h : k < ss.length) : cat (ss.take (k + 1)) = cat (ss.take k) ++ ss[k] := by
  unfold cat
  rw [flat_take ss k h]
  apply ByteArray.ext
  apply Array.ext'
  simp
theorem cat_size (ss : List ByteArray) (k : Nat) (h : k < ss.length) : (cat (ss.take (k + 1))).size = (cat (ss.take k)).size + ss[k].size := by
  rw [cat_snoc ss k h]; simp

set_option maxHeartbeats 2000000 in
theorem law (a : Option Addr) (cap : Nat) (ss : List ByteArray) (W : World) (hs : Strs W a ss) (hz : ∀ i (h : i < ss.length), ss[i].size ≤ 140737488351232) (hn : ss.length ≤ 8796093021952) :
    Calls Try.prog 3 #[.slice a ss.length cap] W fun e w' => e = .returned (.bool true) ∧ Below W.heap.size W w' := by
  have HS := Lib.hid hs; clear hs
  have HZ := Lib.hid hz; clear hz
  go_enter Try.func3, Try.ntmps3
  go_wp2_with fail
  refine (awake_any _).mono ?_
  rintro e w1 ⟨rfl, hb1⟩
  have HB1 := Lib.hid hb1; clear hb1
  have HS1 : Hid (Strs w1 a ss) := HS.out.below HB1.out
  go_wp2_with fail
  go_loop [3, 13] (fun s i => ∃ k : Nat, k ≤ ss.length ∧ i = .int .i64 k ∧ s = .string (cat (ss.take k)) ∧ (cat (ss.take k)).size ≤ 3000) (fun _ i => ss.length - (intOf i).toNat)
  case atStart => exact ⟨0, by omega, rfl, by simp [cat, flat], by simp [cat, flat, ByteArray.size]⟩
  case round =>
    obtain ⟨k, hk, rfl, rfl, hsz⟩ := hrel
    by_cases hlt : k < ss.length
    · obtain ⟨b, off, rfl, hc⟩ := HS1.out k hlt
      have hzk := HZ.out k hlt
      have hcat := cat_snoc ss k hlt
      have hcz := cat_size ss k hlt
      generalize cat (ss.take k) = s at *
      generalize hs' : cat (ss.take (k + 1)) = s' at *
      have HS' := Lib.hid hs'; clear hs'
      generalize ss[k] = x at *
      have HCAT := Lib.hid hcat; clear hcat
      have HCZ := Lib.hid hcz; clear hcz
      by_cases hbig : 3000 < s.size + x.size
      · go_wp2_with fail
        go_ret
        exact ⟨rfl, HB1.out⟩
      · go_wp2_with fail
        go_round
        case rel => exact ⟨k + 1, by omega, by go_num, by rw [HS'.out, HCAT.out], by rw [HS'.out, HCZ.out]; omega⟩
        case measure => simp [intOf]; omega
    · have ek : k = ss.length := by omega
      subst ek
      rw [List.take_length] at hsz ⊢
      by_cases h60 : 60 < ss.length
      · go_wp2_with fail
        go_ret
        exact ⟨rfl, HB1.out⟩
      have hall : (cat ss).data.toList = flat ss := by simp [cat]
      have h1 := fun w => rsum_any (cat ss) (by omega) w
      rw [hall] at h1
      have h2 := fun w (hs : Strs w a ss) => sum_any a cap ss (by unfold maxLen; omega) (fun i hi => by have := HZ.out i hi; unfold maxLen; omega) w hs
      have h3 := fun B w (hs : Strs w a ss) hT => tsum_any B a cap ss (by unfold maxLen; omega) (fun i hi => by have := HZ.out i hi; unfold maxLen; omega) w hs hT
      have h4 := fun B w b hc hT => tsum_some B b 0 1 [cat ss] (by unfold maxLen; simp) (by unfold maxLen; simp; omega) w hc hT
      have hb : flat [cat ss] = flat ss := by unfold flat; simp [cat]; rfl
      rw [hb] at h4
      have hlt := (sum (flat ss)).isLt
      generalize (sum (flat ss)).toNat = n at *
      generalize cat ss = s at *
      have H1 := Lib.hid h1; clear h1
      have H2 := Lib.hid h2; clear h2
      have H3 := Lib.hid h3; clear h3
      have H4 := Lib.hid h4; clear h4
      clear hall hb
      go_wp2_with fail
      refine (H1.out _).mono ?_
      rintro e w2 ⟨rfl, rfl⟩
      go_wp2_with fail
      refine (new_any _).mono ?_
      rintro e w3 ⟨B, rfl, hl⟩
      have HS3 : Hid (Strs w3 a ss) := HS1.out.below hl.below
      have HB3 : Hid (Below W.heap.size W w3) := HB1.out.trans (hl.below.mono HB1.out.size)
      have HT3 := Lib.hid hl.tabs
      have HL3 := Lib.hid hl.size
      clear hl
      go_wp2_with fail
      refine (H2.out _ HS3.out).mono ?_
      rintro e w4 ⟨rfl, hb4⟩
      have HB4 : Hid (Below W.heap.size W w4) := HB3.out.trans (hb4.mono HB3.out.size)
      have HS4 : Hid (Strs w4 a ss) := HS3.out.below hb4
      have HT4 : Hid (Tabs w4 B) := HT3.out.ext HL3.out hb4
      have HL4 : Hid (B < w4.heap.size) := Nat.lt_of_lt_of_le HL3.out hb4.size
      clear hb4
      go_wp2_with fail
      refine (H3.out B _ HS4.out HT4.out).mono ?_
      rintro e w5 ⟨rfl, hd5⟩
      have HB5 : Hid (Below W.heap.size W w5) := HB4.out.trans (hd5.below _)
      have HT5 : Hid (Tabs w5 B) := HT4.out.drawn hd5
      have HL5 : Hid (B < w5.heap.size) := by rw [hd5.heap]; exact HL4.out
      clear hd5
      go_wp2_with fail
      refine (H4.out B _ w5.heap.size (fun i hi => ?_) (HT5.out.ext HL5.out ((Below.refl _ _).alloc (Nat.le_refl _) _))).mono ?_
      · have : i = 0 := by simpa using hi
        subst this
        rw [World.cell?_alloc_new]; rfl
      rintro e w6 ⟨rfl, hd6⟩
      have HB6 : Hid (Below W.heap.size W w6) := (HB5.out.alloc HB5.out.size _).trans (hd6.below _)
      clear hd6
      go_wp2_with fail
      refine (tsum_nil _ _).mono ?_
      rintro e w7 ⟨rfl, rfl⟩
      go_wp2_with fail
      go_ret
      exact ⟨ret_bool (by simp), HB6.out⟩

theorem lifted (os : Os) (started : os.Started) (H : Type) (enc : TypeId × Value → H) :
    ReturnsInHanded {} Try.checked os 3 .any (Rows.crcSumsSpec.pre6 enc Try.prog Try.f3 Rows.crcSumsRow.domain false) (Rows.crcSumsSpec.post enc Try.prog Try.f3 false true false false) := by
  refine returnsInHanded_of_change_sized (C := Try.checked) own started (by kernel_rfl) Try.func3
    (ChangeSpec.witness6 (enc := enc) (C := Try.checked) false ⟨#[], #[.slice none 0 0], []⟩ 8 (by kernel_rfl) (by kernel_rfl) (by kernel_rfl) (by kernel_rfl)) ?_
  intro W base args ds gs before hval0 hW hcnd0 hsz0 hholds
  have hval : ∀ (j : Nat) t v, Try.f3.params[j]? = some t → args[j]? = some v → Value.okWide Try.prog W .any base t v := hval0
  have hsz : (DataW.weightsEach Try.prog (Try.f3.params.toList ++ Rows.crcSumsSpec.plain.varTypes Try.prog) (ds ++ gs)).all (· ≤ reachBytes) = true := hsz0
  have hW' := hW
  obtain ⟨p, q, hA0, hV, rfl, hfz, hnd⟩ := hW
  have hA : DataW.TrodAll enc Try.prog W 0 (fun _ => true) true Try.f3.params.toList args.toList ds p := hA0
  rw [Try.params3] at hA hval hsz
  obtain ⟨v0, d0, rfl, rfl, h0⟩ := trodAll_one hA
  obtain ⟨rfl, rfl⟩ := trodVars_none hV
  obtain ⟨a, ss, cap, rfl, hs, hz, hn⟩ := open_strs Try.underlying22 Try.underlying9 (by kernel_rfl) (by kernel_rfl) (hval 0 22 v0 rfl rfl) h0
    (fun n hn => by simpa using List.all_eq_true.1 hsz n (DataW.weights_mem_each (j := 0) (t := 22) rfl rfl n hn))
  clear hA0 hval0
  refine (law a cap ss W hs hz hn).mono fun e W' ⟨he, hb⟩ => ?_
  subst he
  refine ⟨_, rfl, law_post hW' ?_ (tb := 4) (by kernel_rfl) Try.underlying4 rfl ⟨rfl, rfl, rfl⟩ hb⟩
  rw [Try.params3]
  intro t ht
  have : t = 22 := by simpa using ht
  subst this
  exact ⟨by kernel_rfl, of_decide_eq_true (by kernel_rfl)⟩

theorem proved : Rows.CrcSumsSaid :=
  OpenClaim.holds_of_wide 3 Try.f3 rfl rfl rfl rfl rfl rfl rfl ⟨rfl, rfl, rfl, rfl, rfl⟩ rfl rfl rfl rfl rfl (by kernel_rfl) Try.func3 (by kernel_rfl)
    (of_decide_eq_true (by kernel_rfl)) (by unfold Func.isWrapper; rw [if_neg (of_decide_eq_false (by kernel_rfl))]; exact ⟨rfl, rfl⟩)
    (fun os started H enc _ => lifted os started H enc)
end Go.Proofs.Ytfndekonkcdboaa.crcSums
