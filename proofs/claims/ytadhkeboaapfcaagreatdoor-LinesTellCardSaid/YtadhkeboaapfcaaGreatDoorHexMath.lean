/- Plain: texts as words of digits, and back. -/
namespace Go.Proofs.YtadhkeboaapfcaaGreatDoor.HexMath

def digs : List UInt8 := [48, 49, 50, 51, 52, 53, 54, 55, 56, 57, 97, 98, 99, 100, 101, 102]
def dig (n : Nat) : UInt8 := digs.getD n 0
def hexB (b : UInt8) : List UInt8 := [dig (b.toNat / 16), dig (b.toNat % 16)]
/-- a text's digits -/
def hexD (l : List UInt8) : List UInt8 := l.flatMap hexB
/-- a text's word -/
def hexL (l : List UInt8) : List UInt8 := if l = [] then [46] else hexD l
/-- a digit's number -/
def dval (c : UInt8) : Option Nat := if 48 ≤ c.toNat ∧ c.toNat ≤ 57 then some (c.toNat - 48) else if 97 ≤ c.toNat ∧ c.toNat ≤ 102 then some (c.toNat - 87) else none
def pairs : List UInt8 → Option (List UInt8)
  | a :: b :: r => match dval a, dval b with
    | some x, some y => (pairs r).map fun l => UInt8.ofNat (x * 16 + y) :: l
    | _, _ => none
  | _ => some []
/-- the text of a word -/
def unhexL (w : List UInt8) : List UInt8 × Bool :=
  if w = [46] then ([], true) else
  match pairs w with
  | none => ([], false)
  | some l => if l = [] ∨ hexL l ≠ w then ([], false) else (l, true)

theorem hexD_snoc (l : List UInt8) (b : UInt8) : hexD (l ++ [b]) = hexD l ++ hexB b := by simp [hexD]
theorem hexD_length (l : List UInt8) : (hexD l).length = 2 * l.length := by
  induction l with
  | nil => rfl
  | cons b l ih =>
    have : hexD (b :: l) = hexB b ++ hexD l := by simp [hexD]
    rw [this, List.length_append, ih, List.length_cons]; simp [hexB]; omega
theorem dig_lt (n : Nat) (h : n < 10) : dig n = UInt8.ofNat (48 + n) := by
  match n, h with
  | 0, _ => rfl
  | 1, _ => rfl
  | 2, _ => rfl
  | 3, _ => rfl
  | 4, _ => rfl
  | 5, _ => rfl
  | 6, _ => rfl
  | 7, _ => rfl
  | 8, _ => rfl
  | 9, _ => rfl
theorem dig_ge (n : Nat) (h : 10 ≤ n) (h' : n < 16) : dig n = UInt8.ofNat (87 + n) := by
  match n, h, h' with
  | 10, _, _ => rfl
  | 11, _, _ => rfl
  | 12, _, _ => rfl
  | 13, _, _ => rfl
  | 14, _, _ => rfl
  | 15, _, _ => rfl
  | n + 16, _, h => exact absurd h (by omega)
theorem dval_dig (n : Nat) (h : n < 16) : dval (dig n) = some n := by
  unfold dval
  by_cases h10 : n < 10
  · rw [dig_lt n h10, UInt8.toNat_ofNat']
    rw [if_pos (by omega)]; congr 1; omega
  · rw [dig_ge n (by omega) h, UInt8.toNat_ofNat']
    rw [if_neg (by omega), if_pos (by omega)]; congr 1; omega
theorem dig_dval (c : UInt8) (n : Nat) (h : dval c = some n) : n < 16 ∧ dig n = c := by
  unfold dval at h
  by_cases h1 : 48 ≤ c.toNat ∧ c.toNat ≤ 57
  · rw [if_pos h1] at h
    obtain rfl : c.toNat - 48 = n := by simpa using h
    refine ⟨by omega, ?_⟩
    rw [dig_lt _ (by omega)]
    apply UInt8.toNat_inj.1
    rw [UInt8.toNat_ofNat']; omega
  · rw [if_neg h1] at h
    by_cases h2 : 97 ≤ c.toNat ∧ c.toNat ≤ 102
    · rw [if_pos h2] at h
      obtain rfl : c.toNat - 87 = n := by simpa using h
      refine ⟨by omega, ?_⟩
      rw [dig_ge _ (by omega) (by omega)]
      apply UInt8.toNat_inj.1
      rw [UInt8.toNat_ofNat']; omega
    · rw [if_neg h2] at h; cases h
theorem pairs_hexD (l : List UInt8) : pairs (hexD l) = some l := by
  induction l with
  | nil => rfl
  | cons b l ih =>
    have : hexD (b :: l) = dig (b.toNat / 16) :: dig (b.toNat % 16) :: hexD l := by simp [hexD, hexB]
    have hb := b.toNat_lt
    rw [this]
    unfold pairs
    rw [dval_dig _ (by omega), dval_dig _ (by omega), ih]
    simp only [Option.map_some]
    have e : b.toNat / 16 * 16 + b.toNat % 16 = b.toNat := by omega
    rw [e, UInt8.ofNat_toNat]
theorem hexD_ne (l : List UInt8) : hexD l ≠ [46] := by
  intro h
  have := congrArg List.length h
  rw [hexD_length] at this
  simp at this; omega
theorem unhex_hex (l : List UInt8) : unhexL (hexL l) = (l, true) := by
  unfold hexL
  by_cases h : l = []
  · subst h; rfl
  · rw [if_neg h]
    unfold unhexL
    rw [if_neg (hexD_ne l), pairs_hexD]
    simp only
    rw [if_neg]
    intro hh
    rcases hh with hh | hh
    · exact h hh
    · unfold hexL at hh; rw [if_neg h] at hh; exact hh rfl
theorem unhex_false (w : List UInt8) (h : (unhexL w).2 = false) : (unhexL w).1 = [] := by
  unfold unhexL at h ⊢
  split
  · rfl
  · rename_i h1
    rw [if_neg h1] at h
    cases hp : pairs w with
    | none => rfl
    | some l =>
      simp only [hp] at h ⊢
      split
      · rfl
      · rename_i h2; rw [if_neg h2] at h; cases h
theorem unhex_true (w : List UInt8) (h : (unhexL w).2 = true) : hexL (unhexL w).1 = w := by
  unfold unhexL at h ⊢
  split
  · rename_i h1; rw [h1]; rfl
  · rename_i h1
    rw [if_neg h1] at h
    cases hp : pairs w with
    | none => simp only [hp] at h; cases h
    | some l =>
      simp only [hp] at h ⊢
      split
      · rename_i h2; rw [if_pos h2] at h; cases h
      · rename_i h2
        exact Decidable.not_not.1 (fun hh => h2 (.inr hh))

/-- is it a word's? -/
def digitB (c : UInt8) : Bool := (decide (48 ≤ c.toNat) && decide (c.toNat ≤ 57)) || (decide (97 ≤ c.toNat) && decide (c.toNat ≤ 102))
def evenB (w : List UInt8) : Bool := decide (w = [46]) || (!decide (w.length = 0) && decide (w.length % 2 = 0) && w.all digitB)
theorem dval_digit (c : UInt8) : (dval c).isSome = digitB c := by
  unfold dval digitB
  by_cases h1 : 48 ≤ c.toNat ∧ c.toNat ≤ 57
  · rw [if_pos h1]; simp [h1]
  · rw [if_neg h1]
    by_cases h2 : 97 ≤ c.toNat ∧ c.toNat ≤ 102
    · rw [if_pos h2]; simp [h2]
    · rw [if_neg h2]
      simp only [Option.isSome_none]
      symm
      rw [Bool.eq_false_iff]
      intro h
      simp at h
      omega
theorem pairs_digits : ∀ (n : Nat) (w : List UInt8), w.length = 2 * n → w.all digitB = true → ∃ l, pairs w = some l ∧ hexD l = w := by
  intro n
  induction n with
  | zero =>
    intro w h _
    have : w = [] := List.eq_nil_of_length_eq_zero (by omega)
    subst this
    exact ⟨[], rfl, rfl⟩
  | succ n ih =>
    intro w h hd
    match w, h with
    | a :: b :: r, h =>
      simp only [List.all_cons, Bool.and_eq_true] at hd
      obtain ⟨ha, hb, hr⟩ := hd
      obtain ⟨l, hl, he⟩ := ih r (by simp at h; omega) hr
      rw [← dval_digit] at ha hb
      obtain ⟨x, hx⟩ := Option.isSome_iff_exists.1 ha
      obtain ⟨y, hy⟩ := Option.isSome_iff_exists.1 hb
      obtain ⟨x16, ex⟩ := dig_dval a x hx
      obtain ⟨y16, ey⟩ := dig_dval b y hy
      refine ⟨UInt8.ofNat (x * 16 + y) :: l, by unfold pairs; rw [hx, hy, hl]; rfl, ?_⟩
      have hn : (UInt8.ofNat (x * 16 + y)).toNat = x * 16 + y := by rw [UInt8.toNat_ofNat']; omega
      have : hexD (UInt8.ofNat (x * 16 + y) :: l) = hexB (UInt8.ofNat (x * 16 + y)) ++ hexD l := by simp [hexD]
      rw [this, he]
      unfold hexB
      rw [hn, show (x * 16 + y) / 16 = x by omega, show (x * 16 + y) % 16 = y by omega, ex, ey]; rfl
theorem hexD_digits (l : List UInt8) : (hexD l).all digitB = true := by
  induction l with
  | nil => rfl
  | cons b l ih =>
    have : hexD (b :: l) = dig (b.toNat / 16) :: dig (b.toNat % 16) :: hexD l := by simp [hexD, hexB]
    have hb := b.toNat_lt
    rw [this, List.all_cons, List.all_cons, ih, ← dval_digit, ← dval_digit, dval_dig _ (by omega), dval_dig _ (by omega)]; rfl
theorem unhex_even (w : List UInt8) : (unhexL w).2 = evenB w := by
  by_cases h46 : w = [46]
  · subst h46; rfl
  · unfold evenB
    rw [decide_eq_false h46, Bool.false_or]
    cases hu : (unhexL w).2 with
    | true =>
      have h := unhex_true w hu
      unfold hexL at h
      by_cases hn : (unhexL w).1 = []
      · rw [if_pos hn] at h; exact absurd h.symm h46
      · rw [if_neg hn] at h
        have hl : w.length = 2 * (unhexL w).1.length := by rw [← hexD_length, h]
        have hd : w.all digitB = true := by rw [← h]; exact hexD_digits _
        have hp : 0 < (unhexL w).1.length := List.length_pos_iff.2 hn
        rw [hd]
        simp; exact ⟨by intro e; subst e; simp at hl; omega, by omega⟩
    | false =>
      symm
      rw [Bool.eq_false_iff]
      intro h
      simp only [Bool.and_eq_true, Bool.not_eq_true', decide_eq_false_iff_not, decide_eq_true_eq] at h
      obtain ⟨⟨h0, h2⟩, hd⟩ := h
      obtain ⟨l, hl, he⟩ := pairs_digits (w.length / 2) w (by omega) hd
      have hln : l ≠ [] := by
        intro e; subst e
        simp [hexD] at he
        subst he; simp at h0
      unfold unhexL at hu
      rw [if_neg h46, hl] at hu
      simp only at hu
      rw [if_neg] at hu
      · cases hu
      · intro hh
        rcases hh with hh | hh
        · exact hln hh
        · unfold hexL at hh; rw [if_neg hln] at hh; exact hh he
end Go.Proofs.YtadhkeboaapfcaaGreatDoor.HexMath
