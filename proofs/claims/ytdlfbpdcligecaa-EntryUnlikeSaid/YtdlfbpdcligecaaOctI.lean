/- Plain: what is written is read again; what is cut is too short. -/
import Derived.Test.YtdlfbpdcligecaaOctH
import Derived.Test.YtdlfbpdcligecaaOctetNums
namespace Go.Proofs.Ytdlfbpdcligecaa.OctW
open Go.RowKit OctMath
set_option maxRecDepth 100000
set_option linter.unusedSimpArgs false
set_option linter.unusedVariables false

theorem textL_length (t : List UInt8) : (textL t).length = t.length + 2 := by unfold textL; rw [List.length_append, be_length]; omega
theorem textsL_cons (t : List UInt8) (ts : List (List UInt8)) : textsL (t :: ts) = textL t ++ textsL ts := by unfold textsL; simp
theorem readM_text (most : Int) (t rest : List UInt8) (h : t.length ≤ 65535) (hm : (t.length : Int) ≤ most) : readM most (textL t ++ rest) = (t, 2 + t.length, 0) := by
  have hl : (textL t ++ rest).length = t.length + 2 + rest.length := by rw [List.length_append, textL_length]
  have ht : (textL t ++ rest).take 2 = be 2 t.length := by
    unfold textL; rw [List.append_assoc, List.take_append_of_le_length (by rw [be_length]; omega), List.take_of_length_le (by rw [be_length]; omega)]
  have hd : (textL t ++ rest).drop 2 = t ++ rest := by
    unfold textL; rw [List.append_assoc]
    have := be_length 2 t.length
    rw [List.drop_append, List.drop_of_length_le (by omega), this]; simp
  have hv : val (be 2 t.length) = t.length := by rw [val_be]; exact Nat.mod_eq_of_lt (by omega)
  unfold readM
  rw [ht, hv, hl, hd, if_neg (by omega), if_neg (by omega), if_neg (by omega)]
  simp
theorem textR_text (most : Int) (t rest : List UInt8) (h : t.length ≤ 65535) (hm : (t.length : Int) ≤ most) : textR most ⟨textL t ++ rest, 0⟩ = (t, ⟨rest, 0⟩) := by
  rw [textR_readM, readM_text most t rest h hm]
  have : (textL t ++ rest).drop (2 + t.length) = rest := by
    rw [List.drop_append, List.drop_of_length_le (by rw [textL_length]; omega), textL_length, show 2 + t.length - (t.length + 2) = 0 by omega]; rfl
  simp only [this]
theorem textsR_texts (most : Int) (rest : List UInt8) : ∀ ts : List (List UInt8), (∀ t ∈ ts, t.length ≤ 65535 ∧ (t.length : Int) ≤ most) → textsR most ts.length ⟨textsL ts ++ rest, 0⟩ = (ts, ⟨rest, 0⟩) := by
  intro ts
  induction ts with
  | nil => intro _; rfl
  | cons t ts ih =>
    intro h
    have h0 := h t (List.mem_cons_self ..)
    have hr := textR_text most t (textsL ts ++ rest) h0.1 h0.2
    rw [textsL_cons, List.append_assoc]
    show ((textR most _).1 :: (textsR most ts.length (textR most _).2).1, (textsR most ts.length (textR most _).2).2) = _
    rw [hr]
    simp only
    rw [ih (fun t ht => h t (List.mem_cons_of_mem _ ht))]
theorem numR_list (n : Nat) (rest : List UInt8) (h : n ≤ 255) : numR 1 ⟨be 1 n ++ rest, 0⟩ = (n, ⟨rest, 0⟩) := numR_be 1 n rest (by omega) (by omega) (by omega)
theorem listR_list (many most : Int) (rest : List UInt8) (ts : List (List UInt8)) (hl : ts.length ≤ 255) (hm : (ts.length : Int) ≤ many) (h : ∀ t ∈ ts, t.length ≤ 65535 ∧ (t.length : Int) ≤ most) :
    listR many most ⟨be 1 ts.length ++ textsL ts ++ rest, 0⟩ = (ts, ⟨rest, 0⟩) := by
  rw [listR_eq _ _ _ (by simp), List.append_assoc, numR_list _ _ hl]
  simp only
  rw [decide_eq_false (by omega), longR_false, textsR_texts most rest ts h, if_neg (by simp)]

theorem readM_cut (most : Int) (t rest : List UInt8) (d : Nat) (h : t.length ≤ 65535) (hm : (t.length : Int) ≤ most) (hd : d < (textL t).length) : readM most ((textL t ++ rest).take d) = ([], 0, 3) := by
  have hl : ((textL t ++ rest).take d).length = d := by rw [List.length_take, List.length_append]; omega
  rw [textL_length] at hd
  unfold readM
  rw [hl]
  by_cases h2 : d < 2
  · rw [if_pos h2]
  · rw [if_neg h2]
    have ht : ((textL t ++ rest).take d).take 2 = be 2 t.length := by
      rw [List.take_take, Nat.min_eq_left (by omega)]
      unfold textL; rw [List.append_assoc, List.take_append_of_le_length (by rw [be_length]; omega), List.take_of_length_le (by rw [be_length]; omega)]
    have hv : val (be 2 t.length) = t.length := by rw [val_be]; exact Nat.mod_eq_of_lt (by omega)
    rw [ht, hv, if_neg (by omega), if_pos (by omega)]
theorem textsR_cut (most : Int) : ∀ (ts : List (List UInt8)) (d : Nat), (∀ t ∈ ts, t.length ≤ 65535 ∧ (t.length : Int) ≤ most) → d < (textsL ts).length → (textsR most ts.length ⟨(textsL ts).take d, 0⟩).2.e = 3 := by
  intro ts
  induction ts with
  | nil => intro d _ h; simp [textsL] at h
  | cons t ts ih =>
    intro d h hd
    have h0 := h t (List.mem_cons_self ..)
    rw [textsL_cons] at hd ⊢
    show (textsR most ts.length (textR most _).2).2.e = 3
    by_cases hc : d < (textL t).length
    · rw [textR_readM, readM_cut most t _ d h0.1 h0.2 hc]
      simp only
      rw [textsR_err _ _ _ (by simp)]
    · have : (textL t ++ textsL ts).take d = textL t ++ (textsL ts).take (d - (textL t).length) := by
        rw [List.take_append, List.take_of_length_le (by omega)]
      rw [this, textR_text most t _ h0.1 h0.2]
      refine ih _ (fun t ht => h t (List.mem_cons_of_mem _ ht)) ?_
      rw [List.length_append] at hd; omega
theorem listR_cut (many most : Int) (ts : List (List UInt8)) (d : Nat) (hl : ts.length ≤ 255) (hm : (ts.length : Int) ≤ many) (h : ∀ t ∈ ts, t.length ≤ 65535 ∧ (t.length : Int) ≤ most) (hd : d < (be 1 ts.length ++ textsL ts).length) :
    listR many most ⟨(be 1 ts.length ++ textsL ts).take d, 0⟩ = ([], ⟨(be 1 ts.length ++ textsL ts).take d, 3⟩) := by
  rw [listR_eq _ _ _ (by simp)]
  by_cases h0 : d = 0
  · subst h0
    have : numR 1 ⟨[], 0⟩ = (0, ⟨[], 3⟩) := numR_end 1 (by omega) (by omega)
    rw [List.take_zero, this]
    simp only
    rw [longR_err _ (by simp), textsR_err _ _ _ (by simp), if_pos (by simp)]
  · have : (be 1 ts.length ++ textsL ts).take d = be 1 ts.length ++ (textsL ts).take (d - 1) := by
      rw [List.take_append, List.take_of_length_le (by rw [be_length]; omega), be_length]
    rw [List.length_append, be_length] at hd
    rw [this, numR_list _ _ hl]
    simp only
    rw [decide_eq_false (by omega), longR_false]
    have h3 := textsR_cut most ts (d - 1) h (by omega)
    rw [if_pos (by rw [h3]; simp), h3]
end Go.Proofs.Ytdlfbpdcligecaa.OctW
