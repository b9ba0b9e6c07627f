/- the plain law: the event of an event's line is the event. -/
import Derived.Test.YtadhkeboaapfcaaGreatDoorParF
import Derived.Test.YtadhkeboaapfcaaGreatDoorEvG
import Derived.Lib.AtoiAllCases
namespace Go.Proofs.YtadhkeboaapfcaaGreatDoor.EvW
open Go.RowKit OctMath NameMath HexMath
set_option linter.unusedVariables false
set_option linter.unusedSimpArgs false
set_option maxRecDepth 100000

/-! numbers -/
theorem ofNat_digit (d : Nat) (h : d < 10) : (UInt8.ofNat (48 + d)).toNat = 48 + d := by
  rw [UInt8.toNat_ofNat']; omega
theorem parse_digits : ∀ (n u : Nat), u ≤ n → u < 1844674407370955161 → ∀ r : List UInt8, Lib.parseUint10 0 (Lib.decDigits u ++ r) = Lib.parseUint10 u r := by
  intro n
  induction n with
  | zero =>
    intro u hu hb r
    have : u = 0 := by omega
    subst this
    rw [Lib.decDigits_one (by omega)]
    show Lib.parseUint10 0 (UInt8.ofNat (48 + 0) :: r) = _
    unfold Lib.parseUint10
    rw [ofNat_digit 0 (by omega), if_pos (by omega), if_neg (by omega), if_neg (by omega)]
    cases r <;> rfl
  | succ n ih =>
    intro u hu hb r
    by_cases h : u < 10
    · rw [Lib.decDigits_one h]
      show Lib.parseUint10 0 (UInt8.ofNat (48 + u) :: r) = _
      conv => lhs; unfold Lib.parseUint10
      rw [ofNat_digit u h, if_pos (by omega), if_neg (by omega), if_neg (by omega)]
      congr 1
      omega
    · rw [Lib.decDigits, dif_neg h, List.append_assoc, ih (u / 10) (by omega) (by omega)]
      show Lib.parseUint10 (u / 10) (UInt8.ofNat (48 + u % 10) :: r) = _
      conv => lhs; unfold Lib.parseUint10
      rw [ofNat_digit (u % 10) (by omega), if_pos (by omega), if_neg (by omega), if_neg (by omega)]
      congr 1
      omega
theorem dec_ne (u : Nat) : Lib.decDigits u ≠ [] := by
  rw [Lib.decDigits]
  split <;> simp
theorem dec_digit (u : Nat) : ∀ c ∈ Lib.decDigits u, 48 ≤ c.toNat ∧ c.toNat ≤ 57 := by
  induction u using Nat.strongRecOn with
  | _ u ih =>
    intro c hc
    rw [Lib.decDigits] at hc
    split at hc
    · rename_i h
      rw [List.mem_singleton.1 hc, ofNat_digit u h]; omega
    · rename_i h
      rcases List.mem_append.1 hc with h1 | h1
      · exact ih _ (by omega) c h1
      · rw [List.mem_singleton.1 h1, ofNat_digit _ (by omega)]; omega
theorem mag_dec (u : Nat) (h : u < 1844674407370955161) : Lib.parseMag (Lib.decDigits u) = .ok u := by
  unfold Lib.parseMag
  rw [if_neg (dec_ne u)]
  have := parse_digits u u (Nat.le_refl _) h []
  rw [List.append_nil] at this
  rw [this]; rfl
theorem atoi_itoa (n : Int) (h0 : -1099511627776 ≤ n) (h1 : n ≤ 1099511627776) : atoiV (Lib.itoa n) = n := by
  unfold Lib.itoa
  by_cases h : n < 0
  · rw [if_pos h]
    have : Lib.atoiAll (45 :: Lib.decDigits n.natAbs) = .ok n := by
      rw [Lib.atoiAll_minus, mag_dec _ (by omega)]
      show (if 9223372036854775808 < n.natAbs then Lib.NumEnd.range else .ok (-(n.natAbs : Int))) = _
      rw [if_neg (by omega)]
      congr 1
      omega
    unfold atoiV
    rw [this]
  · rw [if_neg h]
    obtain ⟨u, rfl⟩ : ∃ u : Nat, n = u := ⟨n.toNat, by omega⟩
    rw [Int.toNat_natCast]
    have hd := dec_digit u
    have hm := mag_dec u (by omega)
    have hn := dec_ne u
    generalize Lib.decDigits u = l at *
    cases l with
    | nil => exact absurd rfl hn
    | cons c r =>
      have hc := hd c (List.mem_cons_self ..)
      have : Lib.atoiAll (c :: r) = .ok (u : Int) := by
        rw [Lib.atoiAll_plain c r (by omega) (by omega), hm]
        show (if 9223372036854775808 ≤ u then Lib.NumEnd.range else .ok (u : Int)) = _
        rw [if_neg (by omega)]
      unfold atoiV
      rw [this]
theorem itoa_free (n : Int) (c : UInt8) (h : ¬ (48 ≤ c.toNat ∧ c.toNat ≤ 57)) (h45 : c.toNat ≠ 45) : c ∉ Lib.itoa n := by
  unfold Lib.itoa
  split
  · intro hc
    rcases List.mem_cons.1 hc with e | hc
    · rw [e] at h45; exact h45 rfl
    · exact h (dec_digit _ c hc)
  · exact fun hc => h (dec_digit _ c hc)
theorem itoa_ne (n : Int) : Lib.itoa n ≠ [] := by
  unfold Lib.itoa
  split
  · simp
  · exact dec_ne _

/-! words without spaces -/
theorem sign_not {c : UInt8} (h : signB c = true) (d : UInt8) (hd : signB d = false) : c ≠ d := fun e => by rw [e, hd] at h; cases h
theorem plain_mem {l : List UInt8} (h : plainL l = true) : ∀ c ∈ l, signB c = true := by
  unfold plainL at h
  simp only [Bool.and_eq_true] at h
  exact fun c hc => List.all_eq_true.1 h.2 c hc
theorem plain_free {l : List UInt8} (h : plainL l = true) (d : UInt8) (hd : signB d = false) : d ∉ l := fun hc => sign_not (plain_mem h d hc) d hd rfl
theorem plain_ne {l : List UInt8} (h : plainL l = true) : l ≠ [] := by
  rintro rfl; exact absurd h (by decide)
theorem group_plain {l : List UInt8} (h : groupL l = true) : plainL l = true := by
  unfold groupL at h; simp only [Bool.and_eq_true] at h; exact h.1
theorem of_free (l : List UInt8) (h : (ofL l).isEmpty = false) : (32 : UInt8) ∉ l := by
  unfold ofL at h
  by_cases h1 : (Lib.hasPrefix l retryL && groupL (l.drop 7)) = true
  · simp only [Bool.and_eq_true] at h1
    obtain ⟨r, hr⟩ := List.isPrefixOf_iff_prefix.1 h1.1
    have hd : l.drop 7 = r := by rw [← hr]; rfl
    rw [hd] at h1
    rw [← hr]
    intro hc
    rcases List.mem_append.1 hc with hc | hc
    · exact absurd hc (by decide)
    · exact plain_free (group_plain h1.2) 32 (by decide) hc
  · rw [if_neg h1] at h
    by_cases h2 : (Lib.hasPrefix l deadL && groupL (l.drop 6)) = true
    · simp only [Bool.and_eq_true] at h2
      obtain ⟨r, hr⟩ := List.isPrefixOf_iff_prefix.1 h2.1
      have hd : l.drop 6 = r := by rw [← hr]; rfl
      rw [hd] at h2
      rw [← hr]
      intro hc
      rcases List.mem_append.1 hc with hc | hc
      · exact absurd hc (by decide)
      · exact plain_free (group_plain h2.2) 32 (by decide) hc
    · rw [if_neg h2] at h; exact absurd h (by simp)
theorem topic_free {l : List UInt8} (h : topicL l = true) : (32 : UInt8) ∉ l := by
  unfold topicL at h
  simp only [Bool.or_eq_true, Bool.not_eq_true'] at h
  rcases h with h | h
  · exact plain_free h 32 (by decide)
  · exact of_free l h
theorem topic_ne {l : List UInt8} (h : topicL l = true) : l ≠ [] := by
  rintro rfl; exact absurd h (by decide)
theorem hexL_digit (l : List UInt8) (c : UInt8) (h46 : c ≠ 46) (hd : digitB c = false) : c ∉ hexL l := by
  unfold hexL
  split
  · intro hc; exact h46 (List.mem_singleton.1 hc)
  · intro hc
    have := List.all_eq_true.1 (hexD_digits l) c hc
    rw [hd] at this; cases this
theorem hexL_ne (l : List UInt8) : hexL l ≠ [] := by
  unfold hexL
  split
  · simp
  · rename_i h
    intro e
    have := hexD_length l
    rw [e] at this
    exact h (List.eq_nil_of_length_eq_zero (by simp at this; omega))
theorem mem_tail (sep : List UInt8) (c : UInt8) (hs : c ∉ sep) : ∀ r : List (List UInt8), (∀ w ∈ r, c ∉ w) → c ∉ Lib.joinTail sep r := by
  intro r h
  induction r with
  | nil => exact fun e => by cases e
  | cons y r ih =>
    rw [join_tail_cons]
    intro hc
    rcases List.mem_append.1 hc with hc | hc
    · rcases List.mem_append.1 hc with hc | hc
      · exact hs hc
      · exact h y (List.mem_cons_self ..) hc
    · exact ih (fun w hw => h w (List.mem_cons_of_mem y hw)) hc
theorem mem_join (sep : List UInt8) (c : UInt8) (hs : c ∉ sep) : ∀ ws : List (List UInt8), (∀ w ∈ ws, c ∉ w) → c ∉ Lib.join ws sep := by
  intro ws h
  cases ws with
  | nil => exact fun e => by cases e
  | cons x r =>
    rw [Lib.join_cons]
    intro hc
    rcases List.mem_append.1 hc with hc | hc
    · exact h x (List.mem_cons_self ..) hc
    · exact mem_tail sep c hs r (fun w hw => h w (List.mem_cons_of_mem x hw)) hc
theorem join_ne (sep : List UInt8) (x : List UInt8) (r : List (List UInt8)) (h : x ≠ []) : Lib.join (x :: r) sep ≠ [] := by
  rw [Lib.join_cons]
  cases x with
  | nil => exact absurd rfl h
  | cons a b => simp
theorem keys_free (ks : List (List UInt8)) : (32 : UInt8) ∉ keysL ks := by
  unfold keysL
  split
  · decide
  · refine mem_join _ _ (by decide) _ fun w hw => ?_
    obtain ⟨x, _, rfl⟩ := List.mem_map.1 hw
    exact hexL_digit x 32 (by decide) (by decide)
theorem keys_ne (ks : List (List UInt8)) : keysL ks ≠ [] := by
  unfold keysL
  split
  · simp
  · rename_i h
    cases ks with
    | nil => exact absurd rfl h
    | cons a b => exact join_ne _ _ _ (hexL_ne a)
theorem bits_free (bs : List Bool) (c : UInt8) (h46 : c ≠ 46) (h48 : c ≠ 48) (h49 : c ≠ 49) : c ∉ bitsL bs := by
  unfold bitsL
  split
  · intro hc; exact h46 (List.mem_singleton.1 hc)
  · intro hc
    obtain ⟨b, _, hb⟩ := List.mem_map.1 hc
    cases b
    · exact h48 hb.symm
    · exact h49 hb.symm
theorem bits_ne (bs : List Bool) : bitsL bs ≠ [] := by
  unfold bitsL
  split
  · simp
  · rename_i h
    cases bs with
    | nil => exact absurd rfl h
    | cons a b => simp

/-! words read again -/
theorem truths_bits (bs : List Bool) : truthsL (bitsL bs) = bs := by
  unfold bitsL
  by_cases h : bs = []
  · rw [if_pos h, h]; rfl
  · rw [if_neg h]
    unfold truthsL
    rw [if_neg]
    · rw [List.map_map]
      conv => rhs; rw [← List.map_id bs]
      apply List.map_congr_left
      intro b _
      cases b <;> rfl
    · intro e
      cases bs with
      | nil => exact h rfl
      | cons a r => cases a <;> cases (List.cons.inj e).1
theorem hexL_two (k : List UInt8) (h : k ≠ []) : 2 ≤ (hexL k).length := by
  unfold hexL
  rw [if_neg h, hexD_length]
  cases k with
  | nil => exact absurd rfl h
  | cons a b => simp only [List.length_cons]; omega
theorem unkeys_keys (ks : List (List UInt8)) (h : ∀ k ∈ ks, k ≠ []) : unkeysL (keysL ks) = ks := by
  unfold keysL
  by_cases h0 : ks = []
  · rw [if_pos h0, h0]; rfl
  · rw [if_neg h0]
    unfold unkeysL
    rw [if_neg]
    · rw [splitC_join 44 _ (by simpa using h0)]
      · rw [List.map_map]
        conv => rhs; rw [← List.map_id ks]
        apply List.map_congr_left
        intro k _
        show (unhexL (hexL k)).1 = k
        rw [unhex_hex]
      · intro w hw
        obtain ⟨x, _, rfl⟩ := List.mem_map.1 hw
        exact hexL_digit x 44 (by decide) (by decide)
    · intro e
      cases ks with
      | nil => exact h0 rfl
      | cons a r =>
        have h2 := hexL_two a (h a (List.mem_cons_self ..))
        rw [List.map_cons, Lib.join_cons] at e
        have := congrArg List.length e
        rw [List.length_append] at this
        simp at this
        omega
theorem untag_tag (t : List UInt8) (h : t = [] ∨ plainL t = true) : (if (if t.isEmpty then [46] else t) = [46] then ([] : List UInt8) else (if t.isEmpty then [46] else t)) = t := by
  rcases h with rfl | h
  · rfl
  · have h1 : t.isEmpty = false := by cases t with
      | nil => exact absurd rfl (plain_ne h)
      | cons a b => rfl
    rw [h1]
    simp only [Bool.false_eq_true, if_false]
    rw [if_neg]
    rintro rfl
    exact absurd h (by decide)
/-- tags' words -/
def mixF : List (List UInt8) → List (List UInt8)
  | [] => []
  | [t] => [t]
  | t :: u :: r => t :: [124, 124] :: mixF (u :: r)
theorem eo_mix : ∀ ts : List (List UInt8), eo (mixF ts) = ts
  | [] => rfl
  | [t] => rfl
  | t :: u :: r => by
    show t :: eo (mixF (u :: r)) = _
    rw [eo_mix (u :: r)]
theorem split_mix : ∀ (ts : List (List UInt8)), ts ≠ [] → (∀ t ∈ ts, (32 : UInt8) ∉ t) → splitC 32 (Lib.join ts [32, 124, 124, 32]) = mixF ts
  | [], h, _ => absurd rfl h
  | [t], _, h => by
    rw [Lib.join_cons]
    show splitC 32 (t ++ []) = _
    rw [List.append_nil]
    exact splitC_free 32 t (h t (List.mem_cons_self ..))
  | t :: u :: r, _, h => by
    rw [Lib.join_cons, join_tail_cons, show t ++ ([32, 124, 124, 32] ++ u ++ Lib.joinTail [32, 124, 124, 32] r) = t ++ 32 :: ([124, 124] ++ 32 :: (u ++ Lib.joinTail [32, 124, 124, 32] r)) by simp,
      splitC_cut 32 t _ (h t (List.mem_cons_self ..)), splitC_cut 32 [124, 124] _ (by decide), ← Lib.join_cons, split_mix (u :: r) (by simp) (fun x hx => h x (List.mem_cons_of_mem _ hx))]
    rfl
theorem filter_text (ts : List (List UInt8)) (h : ∀ t ∈ ts, plainL t = true) : filterL (splitC 32 (textL ts)) = ts := by
  unfold textL
  by_cases h0 : ts = []
  · rw [if_pos h0, h0]; rfl
  · rw [if_neg h0, split_mix ts h0 (fun t ht => plain_free (h t ht) 32 (by decide))]
    unfold filterL
    rw [if_neg]
    · exact eo_mix ts
    · intro e
      have := eo_mix ts
      rw [e] at this
      rw [← this] at h
      exact absurd (h [42] (List.mem_cons_self ..)) (by decide)
theorem splitC_ne' (l : List UInt8) : ∃ a r, splitC 32 l = a :: r := by
  cases h : splitC 32 l with
  | nil => exact absurd h (splitC_ne 32 l)
  | cons a r => exact ⟨a, r, rfl⟩
/-- cut of words, of which the last may have spaces -/
theorem split_words : ∀ (ws : List (List UInt8)) (z : List UInt8), (∀ w ∈ ws, (32 : UInt8) ∉ w) → splitC 32 (Lib.join (ws ++ [z]) [32]) = ws ++ splitC 32 z
  | [], z, _ => by
    show splitC 32 (Lib.join [z] [32]) = _
    rw [Lib.join_cons]
    show splitC 32 (z ++ []) = _
    rw [List.append_nil]; rfl
  | w :: ws, z, h => by
    have ih := split_words ws z (fun x hx => h x (List.mem_cons_of_mem _ hx))
    cases hws : ws ++ [z] with
    | nil => exact absurd (congrArg List.length hws) (by simp)
    | cons y r =>
      rw [hws] at ih
      rw [List.cons_append, hws, Lib.join_cons, join_tail_cons, show w ++ ([32] ++ y ++ Lib.joinTail [32] r) = w ++ 32 :: (y ++ Lib.joinTail [32] r) by simp, splitC_cut 32 w _ (h w (List.mem_cons_self ..)), ← Lib.join_cons, ih]
      rfl
end Go.Proofs.YtadhkeboaapfcaaGreatDoor.EvW
