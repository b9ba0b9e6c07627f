/- The statement OctetTexts: any texts, and any list of them, are written as the document says, and read again, with whatever stands behind. No condition. -/
import Derived.Test.YtdlfbpdcligecaaOctetJoins
import Derived.Test.YtdlfbpdcligecaaAppEmpty
import Derived.Test.YtdlfbpdcligecaaGrow
import Derived.Deep.DeepCutAuto
namespace Go.Proofs.Ytdlfbpdcligecaa.octetTexts
open Go.ChangeShapes Go.WideShapes Go.ChangeAt Go.RowKit OctW OctMath octetReads octetCuts octetJoins
set_option maxRecDepth 100000
set_option linter.unusedSimpArgs false
set_option linter.unusedVariables false

def Ext (w w' : World) : Prop := Below w.heap.size w w'
theorem Ext.refl (w : World) : Ext w w := Below.refl _ _
theorem Ext.trans {u v w : World} (h : Ext u v) (k : Ext v w) : Ext u w := Below.trans h (Below.mono k h.size)
theorem own_ext {B n : Nat} {e : TypeId} {v : Value} {xs : List Value} {w w' : World} (h : w.ownsRow B e 1 v n xs) (hR : Ext w w') : w'.ownsRow B e 1 v n xs := by
  refine ⟨h.1, ?_⟩
  rcases h.2 with hn | ⟨g, cap, cur, hv, hb, hg, rest⟩
  · exact .inl hn
  · exact .inr ⟨g, cap, cur, hv, hb, (Below.block hR g (Array.getElem?_eq_some_iff.1 hg).1).trans hg, rest⟩
theorem row1_ext {a : Option Addr} {vs : List Value} {w w' : World} (h : Row1 w a vs) (hR : Ext w w') : Row1 w' a vs := h.below hR
theorem row_ext {g : Nat} {l : List UInt8} {w w' : World} (h : Row g l w) (hR : Ext w w') : Row g l w' := h.below hR

/-- a text that is too long -/
def big : List UInt8 := List.replicate 65536 0
theorem big_length : big.length = 65536 := by unfold big; exact List.length_replicate
theorem row_big (w : World) (e : TypeId) : Row w.heap.size big (w.alloc (.cells (zeros 65536) e)) := row_zeros w e 65536
theorem run_make_strs {P : Program} (w : World) (t e : TypeId) (i : TypeInfo) (ht : P.underlying t = some (.slice e)) (hi : P.info? e = some i) (hz : i.zero = some (.string ⟨#[]⟩)) (hs : i.size = 1) (hb : i.bytes = 16) (n : Nat) (hn : n ≤ 1048576) :
    (Instr.makeSlice t (.int .i64 (n : Int)) (.int .i64 (n : Int))).run P w = .ok (.slice (some ⟨w.heap.size, 0, none⟩) n n) (w.alloc (.cells (madeCells #[.string ⟨#[]⟩] n) e)) := by
  have h := run_make w t e i _ ht hi hz .i64 .i64 (n : Int) (n : Int) (by omega) (Int.le_refl _) (by rw [hb]; omega) (by omega)
  rw [hs] at h
  simpa [Value.cells] using h
theorem strs_made (w : World) (e : TypeId) (n : Nat) : Strs (w.alloc (.cells (madeCells #[.string ⟨#[]⟩] n) e)) (some ⟨w.heap.size, 0, none⟩) ((List.replicate n []).map S) := by
  intro j hj
  refine ⟨_, _, rfl, ?_⟩
  have hj' : j < n := by simpa using hj
  rw [World.cell?_alloc_new]
  unfold madeCells
  simp [hj', Nat.mod_one, S]
theorem textsL_nils : ∀ n : Nat, (textsL (List.replicate n [])).length = 2 * n := by
  intro n
  induction n with
  | zero => rfl
  | succ n ih => rw [List.replicate_succ, textsL_cons, List.length_append, ih, textL_length]; simp; omega
def nils : List (List UInt8) := List.replicate 256 []
theorem nils_length : nils.length = 256 := by unfold nils; exact List.length_replicate
theorem listW_256 : listW nils = ([], 6) := by unfold listW; rw [if_pos (by rw [nils_length]; omega)]
theorem nils_textsL : (textsL nils).length ≤ 512 := by unfold nils; rw [textsL_nils]; omega
theorem strs_nils (w : World) (e : TypeId) : Strs (w.alloc (.cells (madeCells #[.string ⟨#[]⟩] 256) e)) (some ⟨w.heap.size, 0, none⟩) (nils.map S) := strs_made w e 256

set_option maxHeartbeats 4000000 in
theorem law (W : World) (a : Option Addr) (ss : List ByteArray) (cap : Nat) (hS : Strs W a ss) (hz : ∀ i (h : i < ss.length), ss[i].size ≤ 140737488351232) (hn : ss.length ≤ 8796093021952) (bh : ByteArray) (hbh : bh.size ≤ 140737488351232) (long : Bool) :
    Calls Try.prog 8 #[.slice a ss.length cap, .string bh, .bool long] W fun e w' => e = .returned (.bool true) ∧ Below W.heap.size W w' := by
  obtain ⟨ts, rfl⟩ := strs_texts ss
  obtain ⟨bl, rfl⟩ : ∃ l, bh = S l := ⟨bh.data.toList, (S_of bh).symm⟩
  have hzz : ∀ i (h : i < ts.length), ts[i].length ≤ 140737488351232 := fun i hi => by
    have := hz i (by simpa using hi); rw [List.getElem_map, S_size] at this; exact this
  clear hz
  have hbsz := S_size bl
  rw [hbsz] at hbh
  rw [List.length_map] at hn ⊢
  obtain ⟨i0, hi0, hz0, hz1, hz2⟩ := info_parts (show (Try.prog.info? 9).map (fun i => (i.zero, i.size, i.bytes)) = some (some (.string ⟨#[]⟩), 1, 16) by kernel_rfl)
  obtain ⟨j0, hj0, hy0, hy1, hy2⟩ := info_parts (show (Try.prog.info? 5).map (fun i => (i.zero, i.size, i.bytes)) = some (some (.int .u8 0), 1, 1) by kernel_rfl)
  have HI0 := Lib.hid hi0
  have HZ0 := Lib.hid hz0
  have HZ1 := Lib.hid hz1
  have HZ2 := Lib.hid hz2
  have hmb := fun w => run_make_bytes (P := Try.prog) w 67 5 j0 Try.underlying67 hj0 hy0 hy1 hy2 65536 (by omega)
  have hms := fun w => run_make_strs (P := Try.prog) w 48 9 i0 Try.underlying48 hi0 hz0 hz1 hz2 256 (by omega)
  simp only [show ((65536 : Nat) : Int) = (65536 : Int) from rfl] at hmb
  simp only [show ((256 : Nat) : Int) = (256 : Int) from rfl] at hms
  have HMB := Lib.hid hmb
  have HMS := Lib.hid hms
  clear hi0 hz0 hz1 hz2 hj0 hy0 hy1 hy2 hmb hms
  have HS := Lib.hid hS
  have HZ := Lib.hid hzz
  clear hS hzz
  go_enter Try.func8, Try.ntmps8
  go_wp2_with fail
  refine (awake01_any _).mono ?_
  rintro e w1 ⟨rfl, hb1⟩
  have HB1 := Lib.hid hb1; clear hb1
  by_cases h1 : 60 < ts.length
  · go_wp2_with fail
    go_ret
    exact ⟨rfl, HB1.out⟩
  by_cases h2 : 300 < bl.length
  · go_wp2_with fail
    go_ret
    exact ⟨rfl, HB1.out⟩
  have d1 : decide (60 < (ts.length : Int)) = false := decide_eq_false (by omega)
  have d2 : decide (300 < (bl.length : Int)) = false := decide_eq_false (by omega)
  go_wp2_with fail
  clear d1 d2
  go_loopw [7, 37] (fun s i wr => ∃ k : Nat, k ≤ ts.length ∧ i = .int .i64 k ∧ s = .string (S (textsL (ts.take k))) ∧ Hid (Below W.heap.size W wr) ∧ Hid (∀ t ∈ ts.take k, t.length ≤ 1000)) (fun _ i _ => ts.length - (intOf i).toNat)
  case atStart => exact ⟨0, by omega, rfl, rfl, HB1, by simp [Hid]⟩
  case round =>
    clear HB1
    obtain ⟨k, hk, rfl, rfl, HB, HA⟩ := hrel
    by_cases hlt : k < ts.length
    · obtain ⟨b, off, rfl, hc⟩ := HS.out k (by simpa using hlt)
      rw [← HB.out.cell (cell_lt hc), List.getElem_map] at hc
      have hzk := HZ.out k hlt
      have hnl := textsL_take ts k hlt
      have htk : ∀ y, y ∈ ts.take (k + 1) ↔ y ∈ ts.take k ∨ y = ts[k] := by intro y; rw [List.take_succ_eq_append_getElem hlt, List.mem_append, List.mem_singleton]
      have hlk := textsL_bound (ts.take k) 1000 HA.out
      rw [List.length_take] at hlk
      have hlk2 : (textsL (ts.take k)).length ≤ 60120 := by omega
      clear hlk
      generalize ts[k] = x at *
      have HNL := Lib.hid hnl
      have HTK := Lib.hid htk
      clear hnl htk
      have hsz := S_size x
      by_cases h50 : 1000 < x.length
      · go_wp2_with fail
        go_ret
        exact ⟨rfl, HB.out⟩
      · go_wp2_with fail
        refine (rtext_any x (by omega) _).mono ?_
        rintro e w2 ⟨rfl, hb2⟩
        have HB2 : Hid (Below W.heap.size W w2) := HB.out.trans (hb2.mono HB.out.size)
        have hs1 : (S (textsL (ts.take k))).size ≤ 60120 := by rw [S_size]; exact hlk2
        have hs2 : (S (textL x)).size ≤ 1002 := by rw [S_size, textL_length]; omega
        have hcat : Hid (S (textsL (ts.take k)) ++ S (textL x) = S (textsL (ts.take (k + 1)))) := by rw [S_append, HNL.out]; rfl
        generalize S (textsL (ts.take k)) = s1 at *
        generalize S (textL x) = s2 at *
        clear hb2 HB
        go_wp2_with fail
        rw [hcat.out]
        go_wp2_with fail
        go_roundw
        case rel =>
          refine ⟨k + 1, by omega, by go_num, rfl, HB2, fun y hy => ?_⟩
          rcases (HTK.out y).1 hy with hy | rfl
          · exact HA.out y hy
          · omega
        case measure => simp [intOf]; omega
    · have ek : k = ts.length := by omega
      subst ek
      rw [List.take_length] at HA
      rw [List.take_length]
      have hlt2 := textsL_bound ts 1000 HA.out
      obtain ⟨wo, rfl⟩ : ∃ wo : World, wo = wr := ⟨_, rfl⟩
      cases long
      · have htw : textsW ts = (textsL ts, 0) := by unfold textsW; rw [if_pos (fun t ht => by have := HA.out t ht; omega)]
        have hlw : listW ts = (be 1 ts.length ++ textsL ts, 0) := by unfold listW; rw [if_neg (by omega), if_pos (fun t ht => by have := HA.out t ht; omega)]
        have hct := texts_any a cap ts (by omega) (by omega) wo (HS.out.below HB.out)
        rw [htw] at hct
        have HCT := Lib.hid hct
        have HLW := Lib.hid hlw
        have HSTR0 : Hid (Strs wo a (ts.map S)) := HS.out.below HB.out
        clear hct htw hlw
        go_wp2_with fail
        refine HCT.out.mono ?_
        clear HCT
        rintro e w5 ⟨rfl, hb5⟩
        have HB5 : Hid (Below W.heap.size W w5) := HB.out.trans (hb5.mono HB.out.size)
        have HS5 : Hid (Strs w5 a (ts.map S)) := HSTR0.out.below hb5
        have hcl := listw_any a cap ts (by omega) (by omega) w5 HS5.out
        rw [HLW.out] at hcl
        have HCL := Lib.hid hcl
        clear hcl hb5 HB HSTR0 HLW
        go_wp2_with fail
        refine HCL.out.mono ?_
        clear HCL
        rintro e w6 ⟨rfl, hb6⟩
        have HB6 : Hid (Below W.heap.size W w6) := HB5.out.trans (hb6.mono HB5.out.size)
        have HS6 : Hid (Strs w6 a (ts.map S)) := HS5.out.below hb6
        clear hb6 HB5 HS5
        have hrl : Hid (rlistL ts = be 1 ts.length ++ textsL ts) := rfl
        go_wp2_with fail
        refine (rlist_any a cap ts (by omega) (by omega) w6 HS6.out).mono ?_
        rintro e w7 ⟨rfl, hb7⟩
        have HB7 : Hid (Below W.heap.size W w7) := HB6.out.trans (hb7.mono HB6.out.size)
        have HS7 : Hid (Strs w7 a (ts.map S)) := HS6.out.below hb7
        clear hb7 HB6 HS6
        rw [hrl.out]
        clear hrl
        have z1 : (S (textsL ts)).size ≤ 60120 := by rw [S_size]; omega
        have z2 : (S (be 1 ts.length ++ textsL ts)).size ≤ 60121 := by rw [S_size, List.length_append, be_length]; omega
        have hc1 : Hid (S (textsL ts) ++ S bl = S (textsL ts ++ bl)) := S_append _ _
        have hc2 : Hid (S (be 1 ts.length ++ textsL ts) ++ S bl = S (be 1 ts.length ++ textsL ts ++ bl)) := S_append _ _
        go_wp2_with fail
        rw [hc1.out]
        refine (new_any _ _).mono ?_
        rintro e w8 ⟨rfl, hra, hb8⟩
        have HG : Hid (W.heap.size ≤ w7.heap.size) := HB7.out.size
        have HRA : Hid (Rd w7.heap.size ⟨textsL (ts.drop 0) ++ bl, 0⟩ w8) := hra
        have HB8 : Hid (Below W.heap.size W w8) := HB7.out.trans (hb8.mono HB7.out.size)
        have HS8 : Hid (Strs w8 a (ts.map S)) := HS7.out.below hb8
        clear hra hb8 HB7 HS7
        generalize w7.heap.size = A at *
        go_wp2_with fail
        rw [hc2.out]
        refine (new_any _ _).mono ?_
        rintro e w9 ⟨rfl, hrb, hb9⟩
        have HAB : Hid (A < w8.heap.size) := HRA.out.lt
        have HRA9 : Hid (Rd A ⟨textsL (ts.drop 0) ++ bl, 0⟩ w9) := HRA.out.mod (M := fun _ => False) (Mod.of_below hb9) (fun x => x)
        have HB9 : Hid (Below W.heap.size W w9) := HB8.out.trans (hb9.mono HB8.out.size)
        have HRB := Lib.hid hrb
        clear hrb hb9 HB8 HS8 HRA z1 z2 hc1 hc2
        generalize w8.heap.size = B at *
        clear w8 w7 w6 w5 wo
        go_wp2_with fail
        go_loopw [127] (fun i wr => ∃ k : Nat, k ≤ ts.length ∧ i = .int .i64 k ∧ Hid (Rd A ⟨textsL (ts.drop k) ++ bl, 0⟩ wr) ∧ Hid (Rd B ⟨be 1 ts.length ++ textsL ts ++ bl, 0⟩ wr) ∧ Hid (Below W.heap.size W wr)) (fun i _ => ts.length - (intOf i).toNat)
        case atStart => exact ⟨0, by omega, rfl, HRA9, HRB, HB9⟩
        case round =>
          clear HRA9 HRB HB9
          obtain ⟨k, hk, rfl, HRA, HRB, HB⟩ := hrel
          by_cases hlt : k < ts.length
          · obtain ⟨b, off, rfl, hc⟩ := HS.out k (by simpa using hlt)
            rw [← HB.out.cell (cell_lt hc), List.getElem_map] at hc
            have h1000 := HA.out ts[k] (by simp)
            have hnl : textsL (ts.drop k) = textL ts[k] ++ textsL (ts.drop (k + 1)) := by rw [List.drop_eq_getElem_cons hlt, textsL_cons]
            have hlen : (textsL (ts.drop k) ++ bl).length ≤ 1152921504606846976 := by
              have := textsL_bound (ts.drop k) 1000 (fun t ht => HA.out t (List.mem_of_mem_drop ht))
              rw [List.length_append]; rw [List.length_drop] at this; omega
            have hcall := text_any A _ 1000 (by omega) (by omega) hlen _ HRA.out
            rw [hnl, List.append_assoc, textR_text 1000 ts[k] _ (by omega) (by omega)] at hcall
            clear hnl hlen
            generalize ts[k] = x at *
            have HCALL := Lib.hid hcall
            clear hcall
            go_wp2_with fail
            refine HCALL.out.mono ?_
            rintro e w7 ⟨rfl, hr7, hm7⟩
            have HR7 := Lib.hid hr7
            have HRB7 : Hid (Rd B ⟨be 1 ts.length ++ textsL ts ++ bl, 0⟩ w7) := HRB.out.mod hm7 (fun h => by have := HAB.out; omega)
            have HB7 : Hid (Below W.heap.size W w7) := one_below HB.out HG.out hm7
            clear hr7 hm7 HRA HRB HB HCALL
            go_wp2_with fail
            go_roundw
            case rel => exact ⟨k + 1, by omega, by go_num, HR7, HRB7, HB7⟩
            case measure => simp [intOf]; omega
          · have ek : k = ts.length := by omega
            subst ek
            have HRA0 : Hid (Rd A ⟨bl, 0⟩ wr) := by have := HRA.out; rw [List.drop_length] at this; exact this
            clear HRA
            have hcall := list_any B ⟨be 1 ts.length ++ textsL ts ++ bl, 0⟩ 60 1000 (by omega) (by omega) (by omega) (by omega) (show (be 1 ts.length ++ textsL ts ++ bl).length ≤ _ by rw [List.length_append, List.length_append, be_length]; omega) _ HRB.out
            rw [listR_list 60 1000 bl ts (by omega) (by omega) (fun t ht => by have := HA.out t ht; omega)] at hcall
            have HCALL := Lib.hid hcall
            clear hcall HRB
            go_wp2_with fail
            refine HCALL.out.mono ?_
            clear HCALL
            rintro e w8 ⟨v, rfl, htx, hr8, hm8⟩
            have HB8 : Hid (Below W.heap.size W w8) := one_below HB.out (show W.heap.size ≤ B by have := HG.out; have := HAB.out; omega) hm8
            have HRA8 : Hid (Rd A ⟨bl, 0⟩ w8) := HRA0.out.mod hm8 (fun h => by have := HAB.out; omega)
            obtain ⟨a8, c8, rfl, hst⟩ := htx.strs
            have hsm := same_texts a8 a c8 cap ts ts (by omega) (by omega) w8 hst (HS.out.below HB8.out)
            rw [decide_eq_true rfl] at hsm
            have HSM := Lib.hid hsm
            have HR8 := Lib.hid hr8
            clear hsm hst htx hr8 hm8 HB HRA0
            go_wp2_with fail
            refine HSM.out.mono ?_
            clear HSM
            rintro e w9 ⟨rfl, hd9⟩
            have HR9 : Hid (Rd B ⟨bl, 0⟩ w9) := HR8.out.drawn hd9
            have HRA9 : Hid (Rd A ⟨bl, 0⟩ w9) := HRA8.out.drawn hd9
            have HB9 : Hid (Below W.heap.size W w9) := HB8.out.trans (hd9.below _)
            clear hd9 HR8 HRA8 HB8
            have htk := take_any A ⟨bl, 0⟩ (bl.length : Int) (by omega) (by omega) (show bl.length ≤ _ by omega) _ HRA9.out
            have htr : takeR (bl.length : Int) ⟨bl, 0⟩ = (bl, ⟨[], 0⟩) := by
              unfold takeR
              rw [if_neg (by simp), if_neg (by omega), if_neg (by simp)]
              simp
            rw [htr] at htk
            have HTK := Lib.hid htk
            clear htk htr
            go_wp2_with fail
            refine (left_any A _ _ HRA9.out).mono ?_
            rintro e w10 ⟨rfl, rfl⟩
            go_wp2_with fail
            refine (left_any B _ _ HR9.out).mono ?_
            rintro e w10 ⟨rfl, rfl⟩
            go_wp2_with fail
            refine (err_any A _ _ HRA9.out).mono ?_
            rintro e w10 ⟨rfl, rfl⟩
            go_wp2_with fail
            refine (err_any B _ _ HR9.out).mono ?_
            rintro e w10 ⟨rfl, rfl⟩
            go_wp2_with fail
            refine HTK.out.mono ?_
            clear HTK
            rintro e w11 ⟨rfl, hr11, hm11⟩
            have HR11 := Lib.hid hr11
            have HB11 : Hid (Below W.heap.size W w11) := one_below HB9.out HG.out hm11
            have hend := end_any A _ _ HR11.out
            rw [show endR ⟨[], 0⟩ = 0 from rfl] at hend
            have HEND := Lib.hid hend
            clear hend hr11 hm11 HR9 HRA9 HB9
            go_wp2_with fail
            refine HEND.out.mono ?_
            rintro e w12 ⟨rfl, rfl⟩
            go_wp2_with fail
            go_ret
            exact ⟨rfl, HB11.out⟩
      · go_wp2_with fail
        have hrA : Row1 wo.drew a ((ts.map S).map Value.string) := Row1.of_strs (HS.out.below HB.out.drew)
        have HRA := Lib.hid hrA
        clear hrA
        refine Grow.wp_region_g 6 [some (.inr fun v w => ∃ g, v = .slice (some ⟨g, 0, none⟩) 0 0 ∧ w.ownsRow W.heap.size 9 1 v 0 []), none,
          some (.inr fun v w => w.ownsRow W.heap.size 9 1 v ts.length ((ts.map S).map Value.string)),
          some (.inr fun v w => ∃ g, v = .slice (some ⟨g, 0, none⟩) 65536 65536 ∧ Row g big w),
          some (.inl (.string (S big))),
          some (.inr fun v w => ∃ g, v = .slice (some ⟨g, 0, none⟩) 1 1 ∧ Row1 w (some ⟨g, 0, none⟩) [.string (S big)])] Ext (by kernel_rfl) (by kernel_rfl) (by kernel_rfl) Ext.refl (fun _ _ _ => Ext.trans) ?_ ?_
        · intro K hK Y hY v w w' hR h
          simp only [List.mem_cons, List.not_mem_nil, or_false] at hK
          rcases hK with rfl | rfl | rfl | rfl | rfl | rfl <;> simp only [reduceCtorEq, Option.some.injEq, Sum.inr.injEq] at hY
          · subst hY; obtain ⟨g, rfl, ho⟩ := h; exact ⟨g, rfl, own_ext ho hR⟩
          · subst hY; exact own_ext h hR
          · subst hY; obtain ⟨g, rfl, ho⟩ := h; exact ⟨g, rfl, row_ext ho hR⟩
          · subst hY; obtain ⟨g, rfl, ho⟩ := h; exact ⟨g, rfl, row1_ext ho hR⟩
        simp only [List.take_succ_cons, List.take_zero, List.drop_succ_cons, List.drop_zero]
        refine Grow.g_new rfl (fun w2 hw hF => ?_) (fun v0 => ?_)
        · clear hF
          have hwz : W.heap.size ≤ w2.heap.size := Nat.le_trans HB.out.drew.size (Below.size hw)
          go_simp
          exact ⟨ownsRow_empty _ _ _ (by first | exact hwz | (simpa using hwz)), (Below.refl _ _).alloc (Nat.le_refl _) _⟩
        simp only [Act.put, List.setIfInBounds_toArray, List.set_cons_zero, List.set_cons_succ, Grow.addF]
        refine Grow.g_det rfl ?_
        apply Exists.intro
        refine ⟨fun w hw hF => ?_, ?_⟩
        · clear hF
          go_simp
          exact ⟨rfl, Ext.refl _⟩
        simp only [Act.put, List.setIfInBounds_toArray, List.set_cons_zero, List.set_cons_succ]
        refine Grow.g_new rfl (fun w2 hw hF => ?_) (fun v2 => ?_)
        · obtain ⟨g, rfl, hown⟩ := hF _ (List.Mem.head _) (by simp [Oper.looksAt, Op.operands, Call.operands])
          clear hF
          have hwz : W.heap.size ≤ w2.heap.size := Nat.le_trans HB.out.drew.size (Below.size hw)
          obtain ⟨v', w3, hrun, hown3, hb3⟩ := run_append_empty (P := Try.prog) (w := w2) W.heap.size 48 48 9 i0 (.string ⟨#[]⟩) 16 Try.underlying48 HI0.out HZ0.out HZ1.out HZ2.out rfl _ hown a cap ((ts.map S).map Value.string) (row1_ext HRA.out hw) (by intro u hu; simp at hu; obtain ⟨x, _, rfl⟩ := hu; rfl) (by simp only [List.length_map]; unfold maxLen; omega) (by simp only [List.length_map]; omega) hwz
          rw [List.length_map, List.length_map] at hrun hown3
          unfold Grow.growAt
          simp [execOp, resolve, invoke, builtin, Act.eval, hrun, Result.andThen, Grow.growUpon]
          exact ⟨by simpa using hown3, hb3⟩
        simp only [Act.put, List.setIfInBounds_toArray, List.set_cons_zero, List.set_cons_succ, Grow.addF]
        refine Grow.g_new rfl (fun w2 hw hF => ?_) (fun v3 => ?_)
        · clear hF
          have hr := HMB.out w2
          go_simp
          exact ⟨row_big _ _, (Below.refl _ _).alloc (Nat.le_refl _) _⟩
        simp only [Act.put, List.setIfInBounds_toArray, List.set_cons_zero, List.set_cons_succ, Grow.addF]
        refine Grow.g_con rfl (fun w2 hw hF => ?_) ?_
        · obtain ⟨g, rfl, hrow⟩ := hF _ (List.Mem.head _) (by simp [Oper.looksAt, Op.operands, Call.operands])
          clear hF
          have hstr : (convert 67 9 (.slice (some ⟨g, 0, none⟩) 65536 65536)).run Try.prog w2 = .ok (.string (S big)) w2 := row_string (P := Try.prog) hrow 67 5 9 Try.underlying67 Try.underlying5 Try.underlying9 65536 65536 big_length.symm
          go_simp
          exact Ext.refl _
        simp only [Act.put, List.setIfInBounds_toArray, List.set_cons_zero, List.set_cons_succ]
        refine Grow.g_new rfl (fun w2 hw hF => ?_) (fun v5 => ?_)
        · clear hF
          go_simp
          refine ⟨fun i hi => ⟨_, _, rfl, ?_⟩, (Below.refl _ _).alloc (Nat.le_refl _) _⟩
          have : i = 0 := by simpa using hi
          subst this
          rw [World.cell?_alloc_new]; rfl
        simp only [Act.put, List.setIfInBounds_toArray, List.set_cons_zero, List.set_cons_succ, Grow.addF]
        refine Grow.g_nil fun w3 hw3 hF => ?_
        obtain ⟨g5, rfl, hrow5⟩ := hF _ (List.Mem.head _)
        have hown2 := hF _ (List.Mem.tail _ (List.Mem.tail _ (List.Mem.head _)))
        clear hF HRA
        simp only at hrow5 hown2
        have HB3 : Hid (Below W.heap.size W w3) := HB.out.drew.trans (Below.mono hw3 HB.out.drew.size)
        have HOWN := Lib.hid hown2
        have HROW := Lib.hid hrow5
        clear hw3 hown2 hrow5 HB
        refine wpList_append_row rfl (.tmp 52) (.tmp 55) 48 rfl W.heap.size 9 i0 (.string ⟨#[]⟩) 16 Try.underlying48 HI0.out HZ0.out HZ1.out HZ2.out rfl v2 ts.length _ rfl HOWN.out (some ⟨g5, 0, none⟩) 1 1 [.string (S big)] rfl rfl HROW.out ?c2 ?c3 ?c4 ?c5 ?_
        case c2 => intro u hu; simp at hu; subst hu; rfl
        case c3 => unfold maxLen; omega
        case c4 => omega
        case c5 => exact HB3.out.size
        intro v6 w4 hown4 hg4
        have HB4 : Hid (Below W.heap.size W w4) := HB3.out.grown hg4 HB3.out.size (ownBlock_of_own HOWN.out)
        obtain ⟨a4, c4, rfl, hrow4, hl4⟩ := Row1.of_own hown4
        have hcat : (ts.map S).map Value.string ++ [Value.string (S big)] = ((ts ++ [big]).map S).map Value.string := by simp
        rw [hcat] at hrow4
        rw [show ts.length + 1 = (ts ++ [big]).length by simp]
        have HS4 := Lib.hid hrow4.to_strs
        clear hown4 hg4 hcat hrow4 hl4 HB3 HOWN HROW
        have hml : (ts ++ [big]).length ≤ 61 := by simp; omega
        have hmt : (textsL (ts ++ [big])).length ≤ 1000000 := by
          have : textsL (ts ++ [big]) = textsL ts ++ textL big := by unfold textsL; simp
          rw [this, List.length_append, textL_length, big_length]; omega
        have hno : ¬ ∀ t ∈ ts ++ [big], t.length ≤ 65535 := fun h => by
          have := h big (by simp)
          rw [big_length] at this; omega
        have htw : textsW (ts ++ [big]) = ([], 6) := by unfold textsW; rw [if_neg hno]
        have hlw : listW (ts ++ [big]) = ([], 6) := by unfold listW; rw [if_neg (by omega), if_neg hno]
        generalize ts ++ [big] = ms at *
        have hct := texts_any a4 c4 ms (by omega) (by omega) w4 HS4.out
        rw [htw] at hct
        have HCT := Lib.hid hct
        clear hct htw hno
        repeat go_step
        go_wp2_with fail
        refine HCT.out.mono ?_
        clear HCT
        rintro e w5 ⟨rfl, hb5⟩
        have HB5 : Hid (Below W.heap.size W w5) := HB4.out.trans (hb5.mono HB4.out.size)
        have hcl := listw_any a4 c4 ms (by omega) (by omega) w5 (HS4.out.below hb5)
        rw [hlw] at hcl
        have HCL := Lib.hid hcl
        clear hcl hlw hb5 HS4 HB4
        go_wp2_with fail
        refine HCL.out.mono ?_
        clear HCL
        rintro e w6 ⟨rfl, hb6⟩
        have HB6 : Hid (Below W.heap.size W w6) := HB5.out.trans (hb6.mono HB5.out.size)
        clear hb6 HB5
        go_wp2_with fail
        rw [HMS.out]
        have hst := strs_nils w6 9
        have HB7 : Hid (Below W.heap.size W (w6.alloc (.cells (madeCells #[.string ⟨#[]⟩] 256) 9))) := HB6.out.alloc HB6.out.size _
        generalize w6.alloc (.cells (madeCells #[.string ⟨#[]⟩] 256) 9) = w7 at *
        have hcn := listw_any (some ⟨w6.heap.size, 0, none⟩) 256 nils (by rw [nils_length]; omega) (Nat.le_trans nils_textsL (by omega)) w7 hst
        rw [listW_256, nils_length] at hcn
        have HCN := Lib.hid hcn
        clear hcn hst
        go_wp2_with fail
        refine HCN.out.mono ?_
        clear HCN
        rintro e w8 ⟨rfl, hb8⟩
        have HB8 : Hid (Below W.heap.size W w8) := HB7.out.trans (hb8.mono HB7.out.size)
        have hnil := S_toList []
        clear hb8 HB7
        go_wp2_with fail
        go_ret
        exact ⟨rfl, HB8.out⟩

theorem lifted (os : Os) (started : os.Started) (H : Type) (enc : TypeId × Value → H) :
    ReturnsInHanded {} Try.checked os 8 .any (Rows.octetTextsSpec.pre6 enc Try.prog Try.f8 Rows.octetTextsRow.domain false) (Rows.octetTextsSpec.post enc Try.prog Try.f8 false true false false) := by
  refine returnsInHanded_of_change_sized (C := Try.checked) own started (by kernel_rfl) Try.func8
    (ChangeSpec.witness6 (enc := enc) (C := Try.checked) false ⟨#[], #[.slice none 0 0, .string ⟨#[]⟩, .bool false], []⟩ 8 (by kernel_rfl) (by kernel_rfl) (by kernel_rfl) (by kernel_rfl)) ?_
  intro W base args ds gs before hval0 hW hcnd0 hsz0 hholds
  have hval : ∀ (j : Nat) t v, Try.f8.params[j]? = some t → args[j]? = some v → Value.okWide Try.prog W .any base t v := hval0
  have hsz : (DataW.weightsEach Try.prog (Try.f8.params.toList ++ Rows.octetTextsSpec.plain.varTypes Try.prog) (ds ++ gs)).all (· ≤ reachBytes) = true := hsz0
  have hW' := hW
  obtain ⟨p, q, hA0, hV, rfl, hfz, hnd⟩ := hW
  have hA : DataW.TrodAll enc Try.prog W 0 (fun _ => true) true Try.f8.params.toList args.toList ds p := hA0
  rw [Try.params8] at hA hval hsz
  obtain ⟨v0, v1, v2, d0, d1, d2, p0, p1, p2, rfl, rfl, rfl, h0, h1, h2⟩ := trodAll_three hA
  obtain ⟨rfl, rfl⟩ := trodVars_none hV
  obtain ⟨a0, x0, cap0, rfl, hs0, hz0, hn0⟩ := open_strs Try.underlying48 Try.underlying9 (by kernel_rfl) (by kernel_rfl) (hval 0 48 v0 rfl rfl) h0
    (fun n hn => by simpa using List.all_eq_true.1 hsz n (DataW.weights_mem_each (j := 0) (t := 48) rfl rfl n hn))
  obtain ⟨x1, rfl, rfl, rfl, hx1⟩ := Go.ChangeMaps.open_string Try.underlying9 (hval 1 9 v1 rfl rfl) h1
  have z1 : x1.size ≤ 140737488351232 := of_decide_eq_true (List.all_eq_true.1 hsz _ (DataW.weights_mem_each (j := 1) (t := 9) rfl rfl x1.data.toList.length (by simp [DataW.weights])))
  obtain ⟨x2, rfl, rfl, rfl⟩ := open_bool Try.underlying4 (hval 2 4 v2 rfl rfl) h2
  clear hA0 hval0
  refine (law W a0 x0 cap0 hs0 hz0 hn0 x1 z1 x2).mono fun e W' ⟨he, hb⟩ => ?_
  subst he
  refine ⟨_, rfl, law_post hW' ?_ (tb := 4) (by kernel_rfl) Try.underlying4 rfl ⟨rfl, rfl, rfl⟩ hb⟩
  rw [Try.params8]
  intro t ht
  have : t = 48 ∨ t = 9 ∨ t = 4 := by simpa using ht
  rcases this with rfl | rfl | rfl <;> exact ⟨by kernel_rfl, of_decide_eq_true (by kernel_rfl)⟩

theorem proved : Rows.OctetTextsSaid :=
  OpenClaim.holds_of_wide 8 Try.f8 rfl rfl rfl rfl rfl rfl rfl ⟨rfl, rfl, rfl, rfl, rfl⟩ rfl rfl rfl rfl rfl (by kernel_rfl) Try.func8 (by kernel_rfl)
    (of_decide_eq_true (by kernel_rfl)) (by unfold Func.isWrapper; rw [if_neg (of_decide_eq_false (by kernel_rfl))]; exact ⟨rfl, rfl⟩)
    (fun os started H enc _ => lifted os started H enc)
end Go.Proofs.Ytdlfbpdcligecaa.octetTexts
