/- The statement OctetCuts: cut anywhere, a list's bytes are too short, and nothing is gone over. No condition. -/
import Derived.Test.YtdlfbpdcligecaaOctI
import Derived.Deep.DeepCutAuto
namespace Go.Proofs.Ytdlfbpdcligecaa.octetCuts
open Go.ChangeShapes Go.WideShapes Go.ChangeAt Go.RowKit OctW OctMath
set_option maxRecDepth 100000
set_option linter.unusedSimpArgs false
set_option linter.unusedVariables false

theorem strs_texts (ss : List ByteArray) : ∃ ts : List (List UInt8), ss = ts.map S := ⟨ss.map (·.data.toList), by rw [List.map_map]; exact (List.map_id ss).symm.trans (List.map_congr_left fun s _ => (S_of s).symm)⟩

set_option maxHeartbeats 2000000 in
theorem law (W : World) (a : Option Addr) (ss : List ByteArray) (cap : Nat) (hS : Strs W a ss) (hz : ∀ i (h : i < ss.length), ss[i].size ≤ 140737488351232) (hn : ss.length ≤ 8796093021952) (c : Int) (hc0 : 0 ≤ c) (hc1 : c ≤ 65535) :
    Calls Try.prog 10 #[.slice a ss.length cap, .int .u16 c] W fun e w' => e = .returned (.bool true) ∧ Below W.heap.size W w' := by
  obtain ⟨ts, rfl⟩ := strs_texts ss
  obtain ⟨c, rfl⟩ := Int.eq_ofNat_of_zero_le hc0
  have hzz : ∀ i (h : i < ts.length), ts[i].length ≤ 140737488351232 := fun i hi => by
    have := hz i (by simpa using hi); rw [List.getElem_map, S_size] at this; exact this
  clear hz hc0
  rw [List.length_map] at hn ⊢
  have HS := Lib.hid hS
  have HZ := Lib.hid hzz
  clear hS hzz
  go_enter Try.func10, Try.ntmps10
  go_wp2_with fail
  refine (awake01_any _).mono ?_
  rintro e w1 ⟨rfl, hb1⟩
  have HB1 := Lib.hid hb1; clear hb1
  by_cases hlen : 20 < ts.length
  · go_wp2_with fail
    go_ret
    exact ⟨rfl, HB1.out⟩
  have HS1 : Hid (Strs w1 a (ts.map S)) := HS.out.below HB1.out
  go_wp2_with fail
  go_loopw [18] (fun i wr => ∃ k : Nat, k ≤ ts.length ∧ i = .int .i64 k ∧ w1 = wr ∧ Hid (∀ t ∈ ts.take k, t.length ≤ 50)) (fun i _ => ts.length - (intOf i).toNat)
  case atStart => exact ⟨0, by omega, rfl, rfl, by simp [Hid]⟩
  case round =>
    obtain ⟨k, hk, rfl, rfl, HA⟩ := hrel
    by_cases hlt : k < ts.length
    · obtain ⟨b, off, rfl, hc⟩ := HS1.out k (by simpa using hlt)
      rw [List.getElem_map] at hc
      have hz := HZ.out k hlt
      have htk : ∀ y, y ∈ ts.take (k + 1) ↔ y ∈ ts.take k ∨ y = ts[k] := by intro y; rw [List.take_succ_eq_append_getElem hlt, List.mem_append, List.mem_singleton]
      generalize ts[k] = x at *
      have HTK := Lib.hid htk; clear htk
      have hsz := S_size x
      by_cases h50 : 50 < x.length
      · go_wp2_with fail
        go_ret
        exact ⟨rfl, HB1.out⟩
      · go_wp2_with fail
        go_roundw
        case rel =>
          refine ⟨k + 1, by omega, by go_num, trivial, fun y hy => ?_⟩
          rcases (HTK.out y).1 hy with hy | rfl
          · exact HA.out y hy
          · omega
        case measure => simp [intOf]; omega
    · have ek : k = ts.length := by omega
      subst ek
      rw [List.take_length] at HA
      have htl : (textsL ts).length ≤ 52 * ts.length := by
        have : ∀ us : List (List UInt8), (∀ t ∈ us, t.length ≤ 50) → (textsL us).length ≤ 52 * us.length := by
          intro us
          induction us with
          | nil => intro _; simp [textsL]
          | cons u us ih =>
            intro h
            have h1 := h u (List.mem_cons_self ..)
            have h2 := ih (fun t ht => h t (List.mem_cons_of_mem _ ht))
            rw [textsL_cons, List.length_append, textL_length, List.length_cons]; omega
        exact this ts HA.out
      have hlw : listW ts = (be 1 ts.length ++ textsL ts, 0) := by
        unfold listW
        rw [if_neg (by omega), if_pos (fun t ht => by have := HA.out t ht; omega)]
      have hcall := listw_any a cap ts (by omega) (by omega) w1 HS1.out
      rw [hlw] at hcall
      have hLl : (be 1 ts.length ++ textsL ts).length = 1 + (textsL ts).length := by rw [List.length_append, be_length]
      have hcut := listR_cut 20 50 ts (c % (be 1 ts.length ++ textsL ts).length) (by omega) (by omega) (fun t ht => by have := HA.out t ht; omega) (Nat.mod_lt _ (by omega))
      have hln : (be 1 ts.length ++ textsL ts).length ≤ 2000 := by omega
      have hl1 : 1 ≤ (be 1 ts.length ++ textsL ts).length := by omega
      clear hLl
      generalize be 1 ts.length ++ textsL ts = L at *
      have hml := Nat.mod_lt c (show L.length > 0 by omega)
      have hcl : (L.take (c % L.length)).length = c % L.length := by rw [List.length_take]; omega
      have hmod : (c : Int) % (L.length : Int) = ((c % L.length : Nat) : Int) := by rw [Int.natCast_emod]
      have hsL := S_size L
      have hsl : (S L).extract 0 (c % L.length) = S (L.take (c % L.length)) := S_take _ _
      generalize c % L.length = d at *
      have HCUT := Lib.hid hcut
      have HLW := Lib.hid hlw
      clear hcut hlw
      have HCL := Lib.hid hcall
      clear hcall
      go_wp2_with fail
      refine HCL.out.mono ?_
      clear HCL
      rintro e w2 ⟨rfl, hb2⟩
      have HB2 : Hid (Below W.heap.size W w2) := HB1.out.trans (hb2.mono HB1.out.size)
      clear hb2
      go_wp2_with fail
      refine (new_any (L.take d) _).mono ?_
      rintro e w3 ⟨rfl, hra, hb3⟩
      have HG : Hid (W.heap.size ≤ w2.heap.size) := HB2.out.size
      have HB3 : Hid (Below W.heap.size W w3) := HB2.out.trans (hb3.mono HB2.out.size)
      have HR := Lib.hid hra
      clear hra hb3
      generalize w2.heap.size = A at *
      clear HB2 w2
      have h3 := list_any A ⟨L.take d, 0⟩ 20 50 (by omega) (by omega) (by omega) (by omega) (show (L.take d).length ≤ _ by omega) _ HR.out
      rw [HCUT.out] at h3
      have H3 := Lib.hid h3
      clear h3 HR
      go_wp2_with fail
      refine H3.out.mono ?_
      rintro e w4 ⟨v, rfl, htx, hr4, hm4⟩
      obtain ⟨a4, c4, rfl, _⟩ := htx.strs
      have HR4 := Lib.hid hr4
      have HB4 : Hid (Below W.heap.size W w4) := one_below HB3.out HG.out hm4
      clear htx hr4 hm4 HB3 H3
      have hend : endR ⟨L.take d, 3⟩ = 3 := by unfold endR; rw [if_pos (by simp)]
      have he := end_any A _ _ HR4.out
      rw [hend] at he
      have HE := Lib.hid he
      have hle := left_any A _ _ HR4.out
      rw [hcl] at hle
      have HL := Lib.hid hle
      clear he hend hle
      go_wp2_with (first | (go_at_call 22; refine (err_any A _ _ HR4.out).mono ?_; rintro e w' ⟨rfl, rfl⟩) | (go_at_call 24; refine HL.out.mono ?_; rintro e w' ⟨rfl, rfl⟩) | (go_at_call 21; refine HE.out.mono ?_; rintro e w' ⟨rfl, rfl⟩))
      go_ret
      exact ⟨ret_bool (by simp), HB4.out⟩

theorem lifted (os : Os) (started : os.Started) (H : Type) (enc : TypeId × Value → H) :
    ReturnsInHanded {} Try.checked os 10 .any (Rows.octetCutsSpec.pre6 enc Try.prog Try.f10 Rows.octetCutsRow.domain false) (Rows.octetCutsSpec.post enc Try.prog Try.f10 false true false false) := by
  refine returnsInHanded_of_change_sized (C := Try.checked) own started (by kernel_rfl) Try.func10
    (ChangeSpec.witness6 (enc := enc) (C := Try.checked) false ⟨#[], #[.slice none 0 0, .int .u16 0], []⟩ 8 (by kernel_rfl) (by kernel_rfl) (by kernel_rfl) (by kernel_rfl)) ?_
  intro W base args ds gs before hval0 hW hcnd0 hsz0 hholds
  have hval : ∀ (j : Nat) t v, Try.f10.params[j]? = some t → args[j]? = some v → Value.okWide Try.prog W .any base t v := hval0
  have hsz : (DataW.weightsEach Try.prog (Try.f10.params.toList ++ Rows.octetCutsSpec.plain.varTypes Try.prog) (ds ++ gs)).all (· ≤ reachBytes) = true := hsz0
  have hW' := hW
  obtain ⟨p, q, hA0, hV, rfl, hfz, hnd⟩ := hW
  have hA : DataW.TrodAll enc Try.prog W 0 (fun _ => true) true Try.f10.params.toList args.toList ds p := hA0
  rw [Try.params10] at hA hval hsz
  obtain ⟨v0, v1, d0, d1, p0, p1, rfl, rfl, rfl, h0, h1⟩ := trodAll_two hA
  obtain ⟨rfl, rfl⟩ := trodVars_none hV
  obtain ⟨a0, x0, cap0, rfl, hs0, hz0, hn0⟩ := open_strs Try.underlying48 Try.underlying9 (by kernel_rfl) (by kernel_rfl) (hval 0 48 v0 rfl rfl) h0
    (fun n hn => by simpa using List.all_eq_true.1 hsz n (DataW.weights_mem_each (j := 0) (t := 48) rfl rfl n hn))
  obtain ⟨x1, rfl, rfl, rfl, w1⟩ := open_int Try.underlying72 (hval 1 72 v1 rfl rfl) h1
  clear hA0 hval0
  refine (law W a0 x0 cap0 hs0 hz0 hn0 x1 (u16_range w1).1 (u16_range w1).2).mono fun e W' ⟨he, hb⟩ => ?_
  subst he
  refine ⟨_, rfl, law_post hW' ?_ (tb := 4) (by kernel_rfl) Try.underlying4 rfl ⟨rfl, rfl, rfl⟩ hb⟩
  rw [Try.params10]
  intro t ht
  have : t = 48 ∨ t = 72 := by simpa using ht
  rcases this with rfl | rfl <;> exact ⟨by kernel_rfl, of_decide_eq_true (by kernel_rfl)⟩

theorem proved : Rows.OctetCutsSaid :=
  OpenClaim.holds_of_wide 10 Try.f10 rfl rfl rfl rfl rfl rfl rfl ⟨rfl, rfl, rfl, rfl, rfl⟩ rfl rfl rfl rfl rfl (by kernel_rfl) Try.func10 (by kernel_rfl)
    (of_decide_eq_true (by kernel_rfl)) (by unfold Func.isWrapper; rw [if_neg (of_decide_eq_false (by kernel_rfl))]; exact ⟨rfl, rfl⟩)
    (fun os started H enc _ => lifted os started H enc)
end Go.Proofs.Ytdlfbpdcligecaa.octetCuts
