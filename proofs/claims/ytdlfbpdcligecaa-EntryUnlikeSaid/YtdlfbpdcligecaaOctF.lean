/- octet: Text and List, which write. -/
import Derived.Test.YtdlfbpdcligecaaOctE
namespace Go.Proofs.Ytdlfbpdcligecaa.OctW
open Go.RowKit OctMath
set_option maxRecDepth 100000
set_option linter.unusedSimpArgs false
set_option linter.unusedVariables false

/-- a text's bytes -/
def textL (t : List UInt8) : List UInt8 := be 2 t.length ++ t
def textsL (ts : List (List UInt8)) : List UInt8 := ts.flatMap textL
def textsW (ts : List (List UInt8)) : List UInt8 × Nat := if ∀ t ∈ ts, t.length ≤ 65535 then (textsL ts, 0) else ([], 6)
def listW (ts : List (List UInt8)) : List UInt8 × Nat := if 255 < ts.length then ([], 6) else if ∀ t ∈ ts, t.length ≤ 65535 then (be 1 ts.length ++ textsL ts, 0) else ([], 6)
theorem textsL_take (ts : List (List UInt8)) (k : Nat) (h : k < ts.length) : textsL (ts.take (k + 1)) = textsL (ts.take k) ++ textL ts[k] := by
  unfold textsL; rw [List.take_succ_eq_append_getElem h, List.flatMap_append]; simp
theorem textsL_take_le (ts : List (List UInt8)) (k : Nat) : (textsL (ts.take k)).length ≤ (textsL ts).length := by
  unfold textsL
  conv => rhs; rw [← List.take_append_drop k ts]
  rw [List.flatMap_append, List.length_append]; omega

set_option maxHeartbeats 1600000 in
theorem texts_any (a : Option Addr) (cap : Nat) (ts : List (List UInt8)) (hx : ts.length ≤ 1048576) (hlen : (textsL ts).length ≤ 1073741824) (W : World) (h : Strs W a (ts.map S)) :
    Calls Try.prog 37 #[.slice a ts.length cap] W fun e w' => e = .returned (.tuple #[.string (S (textsW ts).1), .int .i64 ((textsW ts).2 : Int)]) ∧ Below W.heap.size W w' := by
  have HI := Lib.hid h; clear h
  have HLEN := Lib.hid hlen; clear hlen
  have HF : Hid (Bl W.heap.size W.heap.size [] (W.alloc (.cells #[.pointer none, .slice none 0 0] 83))) := Lib.fresh_isBuilder _ _ W
  have HB : Hid (Below W.heap.size W (W.alloc (.cells #[.pointer none, .slice none 0 0] 83))) := (Below.refl _ W).alloc (Nat.le_refl _) _
  go_enter Try.func37, Try.ntmps37
  go_wp2_with fail
  go_loopw [9] (fun i wr => ∃ k : Nat, k ≤ ts.length ∧ i = .int .i64 k ∧ Hid (Bl W.heap.size W.heap.size (textsL (ts.take k)) wr) ∧ Hid (Below W.heap.size W wr) ∧ Hid (∀ x ∈ ts.take k, x.length ≤ 65535)) (fun i _ => ts.length - (intOf i).toNat)
  case atStart => exact ⟨0, by omega, rfl, HF, HB, by simp [Hid]⟩
  case round =>
    clear HF HB
    obtain ⟨k, hk, rfl, HF, HB, HA⟩ := hrel
    by_cases hlt : k < ts.length
    · obtain ⟨b, off, rfl, hc⟩ := HI.out k (by simpa using hlt)
      rw [← HB.out.cell (cell_lt hc), List.getElem_map] at hc
      have hnl := textsL_take ts k hlt
      have htk : ∀ y, y ∈ ts.take (k + 1) ↔ y ∈ ts.take k ∨ y = ts[k] := by intro y; rw [List.take_succ_eq_append_getElem hlt, List.mem_append, List.mem_singleton]
      have hmem : ts[k] ∈ ts := by simp
      have hl1 : (textsL (ts.take (k + 1))).length ≤ 1073741824 := Nat.le_trans (textsL_take_le ts _) HLEN.out
      rw [hnl, List.length_append] at hl1
      generalize ts[k] = x at *
      have hxl : (textL x).length = x.length + 2 := by unfold textL; rw [List.length_append, be_length]; omega
      have HNL := Lib.hid hnl; clear hnl
      have HTK := Lib.hid htk; clear htk
      have HMEM := Lib.hid hmem; clear hmem
      have hsz := S_size x
      by_cases hf : 65535 < x.length
      · have HT2 : Hid (textsW ts = ([], 6)) := by unfold textsW; rw [if_neg (fun h => by have := h x HMEM.out; omega)]; rfl
        go_wp2_with fail
        go_ret2
        rw [HT2.out]
        exact ⟨rfl, HB.out⟩
      · have hs2 : (S (be 2 x.length)).size = 2 := by rw [S_size, be_length]
        have hcat : Hid (S (be 2 x.length) ++ S x = S (textL x)) := S_append _ _
        go_wp2_with (go_at_call 43; refine (put_any 2 x.length (by omega) (by omega) _).mono ?_)
        rintro e w1 ⟨rfl, hb1⟩
        have HB1 : Hid (Below W.heap.size W w1) := HB.out.trans (hb1.mono HB.out.size)
        have HF1 : Hid (Bl W.heap.size W.heap.size (textsL (ts.take k)) w1) := HF.out.below hb1
        have hlen : (Lib.byteCells (textsL (ts.take k))).length + (S (textL x)).size ≤ 140737488355328 := by
          rw [Lib.byteCells_length, S_size]; omega
        clear hb1 HF HB
        go_wp2_with fail
        rw [hcat.out]
        refine (Bld.writeString_any W.heap.size W.heap.size _ (S (textL x)) _ HF1.out hlen HB1.out.size).mono ?_
        rintro e w2 ⟨rfl, hbl, hb2⟩
        have HB2 : Hid (Below W.heap.size W w2) := HB1.out.trans hb2
        have HF2 : Hid (Bl W.heap.size W.heap.size (textsL (ts.take (k + 1))) w2) := by
          rw [HNL.out]
          have : Lib.byteCells (textsL (ts.take k)) ++ Lib.strCells (S (textL x)) = Lib.byteCells (textsL (ts.take k) ++ textL x) := by rw [Lib.strCells_eq, S_list, Lib.byteCells_append]
          rw [this] at hbl
          exact .inr hbl
        clear hbl hb2 HF1 HB1 hlen
        go_wp2_with fail
        go_roundw
        case rel =>
          refine ⟨k + 1, by omega, by go_num, HF2, HB2, fun y hy => ?_⟩
          rcases (HTK.out y).1 hy with hy | rfl
          · exact HA.out y hy
          · omega
        case measure => simp [intOf]; omega
    · have ek : k = ts.length := by omega
      subst ek
      rw [List.take_length] at HF HA
      have HT2 : Hid (textsW ts = (textsL ts, 0)) := by unfold textsW; rw [if_pos HA.out]; rfl
      go_wp2_with (go_at_call 44; refine (Bld.string_any W.heap.size W.heap.size _ _ HF.out HB.out.size).mono ?_)
      rintro e w2 ⟨rfl, hb2⟩
      have HB2 : Hid (Below W.heap.size W w2) := HB.out.trans hb2
      clear hb2
      go_wp2_with fail
      go_ret2
      rw [HT2.out]
      exact ⟨rfl, HB2.out⟩

set_option maxHeartbeats 800000 in
theorem listw_any (a : Option Addr) (cap : Nat) (ts : List (List UInt8)) (hx : ts.length ≤ 1048576) (hlen : (textsL ts).length ≤ 1073741824) (W : World) (h : Strs W a (ts.map S)) :
    Calls Try.prog 38 #[.slice a ts.length cap] W fun e w' => e = .returned (.tuple #[.string (S (listW ts).1), .int .i64 ((listW ts).2 : Int)]) ∧ Below W.heap.size W w' := by
  have HI := Lib.hid h; clear h
  go_enter Try.func38, Try.ntmps38
  by_cases hl : 255 < ts.length
  · have HT : Hid (listW ts = ([], 6)) := by unfold listW; rw [if_pos hl]; rfl
    go_wp2_with fail
    go_ret2
    rw [HT.out]
    exact ⟨rfl, Below.refl _ _⟩
  · go_wp2_with (go_at_call 37; refine (texts_any a cap ts hx hlen _ HI.out).mono ?_)
    rintro e w1 ⟨rfl, hb1⟩
    have HB1 := Lib.hid hb1; clear hb1
    by_cases hf : ∀ t ∈ ts, t.length ≤ 65535
    · have h1 : (textsW ts) = (textsL ts, 0) := by unfold textsW; rw [if_pos hf]
      have HT : Hid (listW ts = (be 1 ts.length ++ textsL ts, 0)) := by unfold listW; rw [if_neg hl, if_pos hf]; rfl
      rw [h1]
      clear h1 hf
      have hs2 : (S (be 1 ts.length)).size = 1 := by rw [S_size, be_length]
      have hs3 := S_size (textsL ts)
      have hcat : Hid (S (be 1 ts.length) ++ S (textsL ts) = S (be 1 ts.length ++ textsL ts)) := S_append _ _
      go_wp2_with (go_at_call 43; refine (put_any 1 ts.length (by omega) (by omega) _).mono ?_)
      rintro e w2 ⟨rfl, hb2⟩
      have HB2 : Hid (Below W.heap.size W w2) := HB1.out.trans (hb2.mono HB1.out.size)
      clear hb2
      go_wp2_with fail
      rw [hcat.out]
      go_wp2_with fail
      go_ret2
      rw [HT.out]
      exact ⟨rfl, HB2.out⟩
    · have h1 : (textsW ts) = ([], 6) := by unfold textsW; rw [if_neg hf]
      have HT : Hid (listW ts = ([], 6)) := by unfold listW; rw [if_neg hl, if_neg hf]; rfl
      rw [h1]
      clear h1 hf
      go_wp2_with fail
      go_ret2
      rw [HT.out]
      exact ⟨rfl, HB1.out⟩
end Go.Proofs.Ytdlfbpdcligecaa.OctW
