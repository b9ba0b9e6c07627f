/- the plain law: the event of an event's line is the event. -/
import Derived.Test.YtadhkeboaapfcaaGreatDoorReadMath
namespace Go.Proofs.YtadhkeboaapfcaaGreatDoor.EvW
open Go.RowKit OctMath NameMath HexMath
set_option linter.unusedVariables false
set_option linter.unusedSimpArgs false
set_option maxRecDepth 100000

theorem tagw_free {t : List UInt8} (h : t = [] ∨ plainL t = true) : (32 : UInt8) ∉ (if t.isEmpty then [46] else t) := by
  rcases h with rfl | h
  · decide
  · cases t with
    | nil => decide
    | cons a b => exact plain_free h 32 (by decide)
theorem tagw_ne (t : List UInt8) : (if t.isEmpty then [46] else t) ≠ ([] : List UInt8) := by
  cases t with
  | nil => decide
  | cons a b => simp
theorem text_ne {ts : List (List UInt8)} (h : ∀ t ∈ ts, plainL t = true) : textL ts ≠ [] := by
  unfold textL
  by_cases h0 : ts = []
  · rw [if_pos h0]; simp
  · rw [if_neg h0]
    cases ts with
    | nil => exact absurd rfl h0
    | cons a b => exact join_ne _ _ _ (plain_ne (h a (List.mem_cons_self ..)))
theorem kind_verb (k : Nat) (h1 : 1 ≤ k) (h2 : k ≤ 15) : kindL (verbN k) = (k : Int) := by
  have : k = 1 ∨ k = 2 ∨ k = 3 ∨ k = 4 ∨ k = 5 ∨ k = 6 ∨ k = 7 ∨ k = 8 ∨ k = 9 ∨ k = 10 ∨ k = 11 ∨ k = 12 ∨ k = 13 ∨ k = 14 ∨ k = 15 := by omega
  rcases this with rfl | rfl | rfl | rfl | rfl | rfl | rfl | rfl | rfl | rfl | rfl | rfl | rfl | rfl | rfl <;> decide
theorem verb_free (k : Nat) : (32 : UInt8) ∉ verbN k := by
  unfold verbN
  split <;> decide
theorem read_last (k : Nat) (h1 : 1 ≤ k) (h2 : k ≤ 15) (ws : List (List UInt8)) (z : List UInt8) (hws : ∀ w ∈ ws, (32 : UInt8) ∉ w) :
    readL (Lib.join (verbN k :: (ws ++ [z])) [32]) = setsF (ev0 k) (verbL k) (ws ++ splitC 32 z) := by
  have hs := split_words (verbN k :: ws) z (fun w hw => by
    rcases List.mem_cons.1 hw with rfl | hw
    · exact verb_free k
    · exact hws w hw)
  rw [List.cons_append, List.cons_append] at hs
  unfold readL
  rw [hs, List.headD_cons, List.tail_cons, kind_verb k h1 h2, if_neg (by omega), Int.toNat_natCast]
theorem read_words (k : Nat) (h1 : 1 ≤ k) (h2 : k ≤ 15) (ws : List (List UInt8)) (hws : ∀ w ∈ ws, (32 : UInt8) ∉ w) :
    readL (Lib.join (verbN k :: ws) [32]) = setsF (ev0 k) (verbL k) ws := by
  have hs := splitC_join 32 (verbN k :: ws) (by simp) (fun w hw => by
    rcases List.mem_cons.1 hw with rfl | hw
    · exact verb_free k
    · exact hws w hw)
  unfold readL
  rw [hs, List.headD_cons, List.tail_cons, kind_verb k h1 h2, if_neg (by omega), Int.toNat_natCast]
theorem empty_parts {u : Ev} (h : emptyB u = true) : u.queue = 0 ∧ u.n = 0 ∧ u.aat = 0 ∧ u.lack = 0 ∧ u.topic = [] ∧ u.group = [] ∧ u.tag = [] ∧ u.key = [] ∧ u.body = [] ∧ u.keys = [] ∧ u.tags = [] ∧ u.keep = [] ∧ u.sync = false := by
  unfold emptyB at h
  simp only [Bool.and_eq_true, decide_eq_true_eq, Bool.not_eq_true', List.isEmpty_iff, List.append_eq_nil_iff] at h
  obtain ⟨⟨⟨⟨a, b, c, d⟩, ⟨⟨⟨e, f⟩, g⟩, i⟩, j⟩, k⟩, l⟩ := h
  exact ⟨a, b, c, d, e, f, g, i, j, List.eq_nil_of_length_eq_zero (by omega), List.eq_nil_of_length_eq_zero (by omega), List.eq_nil_of_length_eq_zero (by omega), l⟩
/-- an event that has a line -/
structure Told (v : Ev) (k : Nat) : Prop where
  lo : 1 ≤ k
  hi : k ≤ 15
  kind : v.kind = k
  right : rightB v (verbL k) = true
  rest : emptyB (wipeV v (verbL k)) = true
  line : eventL v = Lib.join (verbN k :: wordsL v k) [32]
theorem told_of (v : Ev) (h : eventL v ≠ []) : ∃ k, Told v k := by
  by_cases h1 : v.kind < 1 ∨ 15 < v.kind
  · exact absurd (by unfold eventL; rw [if_pos h1]) h
  · obtain ⟨k, hk⟩ : ∃ k : Nat, v.kind = k := ⟨v.kind.toNat, by omega⟩
    have e : eventL v = if rightB v (verbL k) && emptyB (wipeV v (verbL k)) then Lib.join (verbN k :: wordsL v k) [32] else [] := by
      conv => lhs; unfold eventL
      rw [if_neg h1, hk, Int.toNat_natCast]
    by_cases h2 : (rightB v (verbL k) && emptyB (wipeV v (verbL k))) = true
    · rw [if_pos h2] at e
      simp only [Bool.and_eq_true] at h2
      exact ⟨k, by omega, by omega, hk, h2.1, h2.2, e⟩
    · rw [if_neg h2] at e; exact absurd e h
theorem right_more {v : Ev} {letters : List UInt8} (h : rightB v letters = true) : (hasB letters 84 = true → topicL v.topic = true) ∧ (hasB letters 71 = true → groupL v.group = true) ∧ badN v.queue = false ∧ badN v.n = false ∧ badN v.aat = false ∧ badN v.lack = false := by
  unfold rightB at h
  simp only [Bool.and_eq_true, Bool.not_eq_true', Bool.or_eq_true, List.any_cons, List.any_nil, Bool.or_eq_false_iff] at h
  obtain ⟨⟨⟨⟨⟨⟨⟨⟨⟨h0, h1⟩, h2⟩, h3⟩, h4⟩, h5⟩, h6⟩, h7⟩, h8⟩, h9⟩ := h
  refine ⟨fun e => ?_, fun e => ?_, h0.1, h0.2.1, h0.2.2.1, h0.2.2.2.1⟩
  · rcases h3 with h3 | h3
    · rw [e] at h3; cases h3
    · exact h3
  · rcases h4 with h4 | h4
    · rw [e] at h4; cases h4
    · exact h4
theorem badn_atoi {n : Int} (h : badN n = false) : atoiV (Lib.itoa n) = n := by
  unfold badN at h
  simp only [Bool.or_eq_false_iff, decide_eq_false_iff_not] at h
  exact atoi_itoa n (by omega) (by omega)
theorem filter_ne : ∀ ws : List (List UInt8), (∀ w ∈ ws, w ≠ []) → ws.filter (fun x => !x.isEmpty) = ws := fun ws h => List.filter_eq_self.2 fun w hw => by
  cases w with
  | nil => exact absurd rfl (h [] hw)
  | cons a b => rfl
theorem read_event (v : Ev) (h : eventL v ≠ []) : readL (eventL v) = v := by
  obtain ⟨k, hk⟩ := told_of v h
  have hp := right_parts hk.right
  have hm := right_more hk.right
  have hg : v.tag = [] ∨ plainL v.tag = true := hp.2.2.2.2.2.2.2.2.2
  have hts : ∀ t ∈ v.tags, plainL t = true := hp.2.2.2.2.2.2.2.1
  have hks : ∀ t ∈ v.keys, t ≠ [] := fun t ht => (hp.2.2.2.2.2.2.1 t ht).1
  have hq := badn_atoi hm.2.2.1
  have hn := badn_atoi hm.2.2.2.1
  have ha := badn_atoi hm.2.2.2.2.1
  have hl := badn_atoi hm.2.2.2.2.2
  have hT := hm.1
  have hG := hm.2.1
  have hr := hk.rest
  have hkind := hk.kind
  rw [hk.line]
  have hl1 := hk.lo
  have hl2 := hk.hi
  clear hp hm hk h
  have : k = 1 ∨ k = 2 ∨ k = 3 ∨ k = 4 ∨ k = 5 ∨ k = 6 ∨ k = 7 ∨ k = 8 ∨ k = 9 ∨ k = 10 ∨ k = 11 ∨ k = 12 ∨ k = 13 ∨ k = 14 ∨ k = 15 := by omega
  rcases this with rfl | rfl | rfl | rfl | rfl | rfl | rfl | rfl | rfl | rfl | rfl | rfl | rfl | rfl | rfl
  · replace hT := hT (by decide)
    obtain ⟨z1, z2, z3, z4, z5, z6, z7, z8, z9, z10, z11, z12, z13⟩ := empty_parts (show emptyB { v with topic := [], n := 0 } = true from hr)
    have hne : ∀ w ∈ ([v.topic, Lib.itoa v.n] : List (List UInt8)), w ≠ [] := fun w hw => by
      simp only [List.mem_cons, List.not_mem_nil, or_false] at hw
      rcases hw with rfl | rfl
      · exact topic_ne hT
      · exact itoa_ne _
    have hfr : ∀ w ∈ ([v.topic, Lib.itoa v.n] : List (List UInt8)), (32 : UInt8) ∉ w := fun w hw => by
      simp only [List.mem_cons, List.not_mem_nil, or_false] at hw
      rcases hw with rfl | rfl
      · exact topic_free hT
      · exact itoa_free _ 32 (by decide) (by decide)
    have hw : wordsL v 1 = [v.topic, Lib.itoa v.n] := filter_ne _ hne
    rw [hw, read_words _ (by omega) (by omega) _ hfr]
    show (⟨1, (0), (atoiV (Lib.itoa v.n)), (0), (0), (v.topic), ([]), ([]), ([]), ([]), ([]), ([]), ([]), (false)⟩ : Ev) = v
    rw [hn]
    cases v; simp only at *; subst hkind; subst z1; subst z3; subst z4; subst z6; subst z7; subst z8; subst z9; subst z10; subst z11; subst z12; subst z13
    rfl
  · replace hT := hT (by decide)
    obtain ⟨z1, z2, z3, z4, z5, z6, z7, z8, z9, z10, z11, z12, z13⟩ := empty_parts (show emptyB { v with topic := [], queue := 0, tag := [], keys := [], body := [], sync := false } = true from hr)
    have hne : ∀ w ∈ ([v.topic, Lib.itoa v.queue, (if v.tag.isEmpty then [46] else v.tag), keysL v.keys, hexL v.body] : List (List UInt8)), w ≠ [] := fun w hw => by
      simp only [List.mem_cons, List.not_mem_nil, or_false] at hw
      rcases hw with rfl | rfl | rfl | rfl | rfl
      · exact topic_ne hT
      · exact itoa_ne _
      · exact tagw_ne v.tag
      · exact keys_ne _
      · exact hexL_ne _
    have hfr : ∀ w ∈ ([v.topic, Lib.itoa v.queue, (if v.tag.isEmpty then [46] else v.tag), keysL v.keys, hexL v.body] : List (List UInt8)), (32 : UInt8) ∉ w := fun w hw => by
      simp only [List.mem_cons, List.not_mem_nil, or_false] at hw
      rcases hw with rfl | rfl | rfl | rfl | rfl
      · exact topic_free hT
      · exact itoa_free _ 32 (by decide) (by decide)
      · exact tagw_free hg
      · exact keys_free _
      · exact hexL_digit _ 32 (by decide) (by decide)
    cases hs : v.sync
    · have hw : wordsL v 2 = [v.topic, Lib.itoa v.queue, (if v.tag.isEmpty then [46] else v.tag), keysL v.keys, hexL v.body] := by
        show (List.map (wordL v) [84, 81, 116, 107, 98, 115]).filter (fun x => !x.isEmpty) = _
        show (([v.topic, Lib.itoa v.queue, (if v.tag.isEmpty then [46] else v.tag), keysL v.keys, hexL v.body] ++ [if v.sync then [83, 89, 78, 67] else []] : List (List UInt8))).filter (fun x => !x.isEmpty) = _
        rw [List.filter_append, filter_ne _ hne, hs]; rfl
      rw [hw, read_words _ (by omega) (by omega) _ hfr]
      show (⟨2, (atoiV (Lib.itoa v.queue)), (0), (0), (0), (v.topic), ([]), (if (if v.tag.isEmpty then [46] else v.tag) = [46] then [] else (if v.tag.isEmpty then [46] else v.tag)), ([]), ((unhexL (hexL v.body)).1), (unkeysL (keysL v.keys)), ([]), ([]), (false)⟩ : Ev) = v
      rw [hq, untag_tag _ hg, unkeys_keys _ hks, unhex_hex]
      cases v; simp only at *; subst hkind; subst z2; subst z3; subst z4; subst z6; subst z8; subst z11; subst z12; subst hs
      rfl
    · have hw : wordsL v 2 = [v.topic, Lib.itoa v.queue, (if v.tag.isEmpty then [46] else v.tag), keysL v.keys, hexL v.body] ++ [[83, 89, 78, 67]] := by
        show (([v.topic, Lib.itoa v.queue, (if v.tag.isEmpty then [46] else v.tag), keysL v.keys, hexL v.body] ++ [if v.sync then [83, 89, 78, 67] else []] : List (List UInt8))).filter (fun x => !x.isEmpty) = _
        rw [List.filter_append, filter_ne _ hne, hs]; rfl
      rw [hw, read_words _ (by omega) (by omega) _ (fun w hw => (List.mem_append.1 hw).elim (hfr w) (fun h => by rw [List.mem_singleton.1 h]; decide))]
      show (⟨2, (atoiV (Lib.itoa v.queue)), (0), (0), (0), (v.topic), ([]), (if (if v.tag.isEmpty then [46] else v.tag) = [46] then [] else (if v.tag.isEmpty then [46] else v.tag)), ([]), ((unhexL (hexL v.body)).1), (unkeysL (keysL v.keys)), ([]), ([]), (true)⟩ : Ev) = v
      rw [hq, untag_tag _ hg, unkeys_keys _ hks, unhex_hex]
      cases v; simp only at *; subst hkind; subst z2; subst z3; subst z4; subst z6; subst z8; subst z11; subst z12; subst hs
      rfl
  · replace hT := hT (by decide)
    obtain ⟨z1, z2, z3, z4, z5, z6, z7, z8, z9, z10, z11, z12, z13⟩ := empty_parts (show emptyB { v with n := 0, topic := [], queue := 0, tag := [], keys := [], body := [], sync := false } = true from hr)
    have hne : ∀ w ∈ ([Lib.itoa v.n, v.topic, Lib.itoa v.queue, (if v.tag.isEmpty then [46] else v.tag), keysL v.keys, hexL v.body] : List (List UInt8)), w ≠ [] := fun w hw => by
      simp only [List.mem_cons, List.not_mem_nil, or_false] at hw
      rcases hw with rfl | rfl | rfl | rfl | rfl | rfl
      · exact itoa_ne _
      · exact topic_ne hT
      · exact itoa_ne _
      · exact tagw_ne v.tag
      · exact keys_ne _
      · exact hexL_ne _
    have hfr : ∀ w ∈ ([Lib.itoa v.n, v.topic, Lib.itoa v.queue, (if v.tag.isEmpty then [46] else v.tag), keysL v.keys, hexL v.body] : List (List UInt8)), (32 : UInt8) ∉ w := fun w hw => by
      simp only [List.mem_cons, List.not_mem_nil, or_false] at hw
      rcases hw with rfl | rfl | rfl | rfl | rfl | rfl
      · exact itoa_free _ 32 (by decide) (by decide)
      · exact topic_free hT
      · exact itoa_free _ 32 (by decide) (by decide)
      · exact tagw_free hg
      · exact keys_free _
      · exact hexL_digit _ 32 (by decide) (by decide)
    cases hs : v.sync
    · have hw : wordsL v 3 = [Lib.itoa v.n, v.topic, Lib.itoa v.queue, (if v.tag.isEmpty then [46] else v.tag), keysL v.keys, hexL v.body] := by
        show (List.map (wordL v) [78, 84, 81, 116, 107, 98, 115]).filter (fun x => !x.isEmpty) = _
        show (([Lib.itoa v.n, v.topic, Lib.itoa v.queue, (if v.tag.isEmpty then [46] else v.tag), keysL v.keys, hexL v.body] ++ [if v.sync then [83, 89, 78, 67] else []] : List (List UInt8))).filter (fun x => !x.isEmpty) = _
        rw [List.filter_append, filter_ne _ hne, hs]; rfl
      rw [hw, read_words _ (by omega) (by omega) _ hfr]
      show (⟨3, (atoiV (Lib.itoa v.queue)), (atoiV (Lib.itoa v.n)), (0), (0), (v.topic), ([]), (if (if v.tag.isEmpty then [46] else v.tag) = [46] then [] else (if v.tag.isEmpty then [46] else v.tag)), ([]), ((unhexL (hexL v.body)).1), (unkeysL (keysL v.keys)), ([]), ([]), (false)⟩ : Ev) = v
      rw [hn, hq, untag_tag _ hg, unkeys_keys _ hks, unhex_hex]
      cases v; simp only at *; subst hkind; subst z3; subst z4; subst z6; subst z8; subst z11; subst z12; subst hs
      rfl
    · have hw : wordsL v 3 = [Lib.itoa v.n, v.topic, Lib.itoa v.queue, (if v.tag.isEmpty then [46] else v.tag), keysL v.keys, hexL v.body] ++ [[83, 89, 78, 67]] := by
        show (([Lib.itoa v.n, v.topic, Lib.itoa v.queue, (if v.tag.isEmpty then [46] else v.tag), keysL v.keys, hexL v.body] ++ [if v.sync then [83, 89, 78, 67] else []] : List (List UInt8))).filter (fun x => !x.isEmpty) = _
        rw [List.filter_append, filter_ne _ hne, hs]; rfl
      rw [hw, read_words _ (by omega) (by omega) _ (fun w hw => (List.mem_append.1 hw).elim (hfr w) (fun h => by rw [List.mem_singleton.1 h]; decide))]
      show (⟨3, (atoiV (Lib.itoa v.queue)), (atoiV (Lib.itoa v.n)), (0), (0), (v.topic), ([]), (if (if v.tag.isEmpty then [46] else v.tag) = [46] then [] else (if v.tag.isEmpty then [46] else v.tag)), ([]), ((unhexL (hexL v.body)).1), (unkeysL (keysL v.keys)), ([]), ([]), (true)⟩ : Ev) = v
      rw [hn, hq, untag_tag _ hg, unkeys_keys _ hks, unhex_hex]
      cases v; simp only at *; subst hkind; subst z3; subst z4; subst z6; subst z8; subst z11; subst z12; subst hs
      rfl
  · obtain ⟨z1, z2, z3, z4, z5, z6, z7, z8, z9, z10, z11, z12, z13⟩ := empty_parts (show emptyB { v with n := 0 } = true from hr)
    have hne : ∀ w ∈ ([Lib.itoa v.n] : List (List UInt8)), w ≠ [] := fun w hw => by
      simp only [List.mem_cons, List.not_mem_nil, or_false] at hw
      rcases hw with rfl
      · exact itoa_ne _
    have hfr : ∀ w ∈ ([Lib.itoa v.n] : List (List UInt8)), (32 : UInt8) ∉ w := fun w hw => by
      simp only [List.mem_cons, List.not_mem_nil, or_false] at hw
      rcases hw with rfl
      · exact itoa_free _ 32 (by decide) (by decide)
    have hw : wordsL v 4 = [Lib.itoa v.n] := filter_ne _ hne
    rw [hw, read_words _ (by omega) (by omega) _ hfr]
    show (⟨4, (0), (atoiV (Lib.itoa v.n)), (0), (0), ([]), ([]), ([]), ([]), ([]), ([]), ([]), ([]), (false)⟩ : Ev) = v
    rw [hn]
    cases v; simp only at *; subst hkind; subst z1; subst z3; subst z4; subst z5; subst z6; subst z7; subst z8; subst z9; subst z10; subst z11; subst z12; subst z13
    rfl
  · replace hT := hT (by decide)
    obtain ⟨z1, z2, z3, z4, z5, z6, z7, z8, z9, z10, z11, z12, z13⟩ := empty_parts (show emptyB { v with topic := [], queue := 0, aat := 0, n := 0, tags := [] } = true from hr)
    have hne : ∀ w ∈ ([v.topic, Lib.itoa v.queue, Lib.itoa v.aat, Lib.itoa v.n] : List (List UInt8)), w ≠ [] := fun w hw => by
      simp only [List.mem_cons, List.not_mem_nil, or_false] at hw
      rcases hw with rfl | rfl | rfl | rfl
      · exact topic_ne hT
      · exact itoa_ne _
      · exact itoa_ne _
      · exact itoa_ne _
    have hfr : ∀ w ∈ ([v.topic, Lib.itoa v.queue, Lib.itoa v.aat, Lib.itoa v.n] : List (List UInt8)), (32 : UInt8) ∉ w := fun w hw => by
      simp only [List.mem_cons, List.not_mem_nil, or_false] at hw
      rcases hw with rfl | rfl | rfl | rfl
      · exact topic_free hT
      · exact itoa_free _ 32 (by decide) (by decide)
      · exact itoa_free _ 32 (by decide) (by decide)
      · exact itoa_free _ 32 (by decide) (by decide)
    have hw : wordsL v 5 = [v.topic, Lib.itoa v.queue, Lib.itoa v.aat, Lib.itoa v.n] ++ [textL v.tags] := by
      show (([v.topic, Lib.itoa v.queue, Lib.itoa v.aat, Lib.itoa v.n] ++ [textL v.tags] : List (List UInt8))).filter (fun x => !x.isEmpty) = _
      exact filter_ne _ (fun w hw => (List.mem_append.1 hw).elim (hne w) (fun h => by rw [List.mem_singleton.1 h]; exact text_ne hts))
    rw [hw, read_last _ (by omega) (by omega) _ _ hfr]
    have hft := filter_text v.tags hts
    obtain ⟨a, r, har⟩ := splitC_ne' (textL v.tags)
    rw [har] at hft ⊢
    show (⟨5, (atoiV (Lib.itoa v.queue)), (atoiV (Lib.itoa v.n)), (atoiV (Lib.itoa v.aat)), (0), (v.topic), ([]), ([]), ([]), ([]), ([]), (filterL (a :: r)), ([]), (false)⟩ : Ev) = v
    rw [hq, ha, hn, hft]
    cases v; simp only at *; subst hkind; subst z4; subst z6; subst z7; subst z8; subst z9; subst z10; subst z12; subst z13
    rfl
  · replace hT := hT (by decide)
    replace hG := hG (by decide)
    obtain ⟨z1, z2, z3, z4, z5, z6, z7, z8, z9, z10, z11, z12, z13⟩ := empty_parts (show emptyB { v with group := [], topic := [], queue := 0, aat := 0 } = true from hr)
    have hne : ∀ w ∈ ([v.group, v.topic, Lib.itoa v.queue, Lib.itoa v.aat] : List (List UInt8)), w ≠ [] := fun w hw => by
      simp only [List.mem_cons, List.not_mem_nil, or_false] at hw
      rcases hw with rfl | rfl | rfl | rfl
      · exact plain_ne (group_plain hG)
      · exact topic_ne hT
      · exact itoa_ne _
      · exact itoa_ne _
    have hfr : ∀ w ∈ ([v.group, v.topic, Lib.itoa v.queue, Lib.itoa v.aat] : List (List UInt8)), (32 : UInt8) ∉ w := fun w hw => by
      simp only [List.mem_cons, List.not_mem_nil, or_false] at hw
      rcases hw with rfl | rfl | rfl | rfl
      · exact plain_free (group_plain hG) 32 (by decide)
      · exact topic_free hT
      · exact itoa_free _ 32 (by decide) (by decide)
      · exact itoa_free _ 32 (by decide) (by decide)
    have hw : wordsL v 6 = [v.group, v.topic, Lib.itoa v.queue, Lib.itoa v.aat] := filter_ne _ hne
    rw [hw, read_words _ (by omega) (by omega) _ hfr]
    show (⟨6, (atoiV (Lib.itoa v.queue)), (0), (atoiV (Lib.itoa v.aat)), (0), (v.topic), (v.group), ([]), ([]), ([]), ([]), ([]), ([]), (false)⟩ : Ev) = v
    rw [hq, ha]
    cases v; simp only at *; subst hkind; subst z2; subst z4; subst z7; subst z8; subst z9; subst z10; subst z11; subst z12; subst z13
    rfl
  · replace hT := hT (by decide)
    replace hG := hG (by decide)
    obtain ⟨z1, z2, z3, z4, z5, z6, z7, z8, z9, z10, z11, z12, z13⟩ := empty_parts (show emptyB { v with group := [], topic := [], queue := 0, aat := 0, sync := false } = true from hr)
    have hne : ∀ w ∈ ([v.group, v.topic, Lib.itoa v.queue, Lib.itoa v.aat] : List (List UInt8)), w ≠ [] := fun w hw => by
      simp only [List.mem_cons, List.not_mem_nil, or_false] at hw
      rcases hw with rfl | rfl | rfl | rfl
      · exact plain_ne (group_plain hG)
      · exact topic_ne hT
      · exact itoa_ne _
      · exact itoa_ne _
    have hfr : ∀ w ∈ ([v.group, v.topic, Lib.itoa v.queue, Lib.itoa v.aat] : List (List UInt8)), (32 : UInt8) ∉ w := fun w hw => by
      simp only [List.mem_cons, List.not_mem_nil, or_false] at hw
      rcases hw with rfl | rfl | rfl | rfl
      · exact plain_free (group_plain hG) 32 (by decide)
      · exact topic_free hT
      · exact itoa_free _ 32 (by decide) (by decide)
      · exact itoa_free _ 32 (by decide) (by decide)
    cases hs : v.sync
    · have hw : wordsL v 7 = [v.group, v.topic, Lib.itoa v.queue, Lib.itoa v.aat] := by
        show (List.map (wordL v) [71, 84, 81, 65, 115]).filter (fun x => !x.isEmpty) = _
        show (([v.group, v.topic, Lib.itoa v.queue, Lib.itoa v.aat] ++ [if v.sync then [83, 89, 78, 67] else []] : List (List UInt8))).filter (fun x => !x.isEmpty) = _
        rw [List.filter_append, filter_ne _ hne, hs]; rfl
      rw [hw, read_words _ (by omega) (by omega) _ hfr]
      show (⟨7, (atoiV (Lib.itoa v.queue)), (0), (atoiV (Lib.itoa v.aat)), (0), (v.topic), (v.group), ([]), ([]), ([]), ([]), ([]), ([]), (false)⟩ : Ev) = v
      rw [hq, ha]
      cases v; simp only at *; subst hkind; subst z2; subst z4; subst z7; subst z8; subst z9; subst z10; subst z11; subst z12; subst hs
      rfl
    · have hw : wordsL v 7 = [v.group, v.topic, Lib.itoa v.queue, Lib.itoa v.aat] ++ [[83, 89, 78, 67]] := by
        show (([v.group, v.topic, Lib.itoa v.queue, Lib.itoa v.aat] ++ [if v.sync then [83, 89, 78, 67] else []] : List (List UInt8))).filter (fun x => !x.isEmpty) = _
        rw [List.filter_append, filter_ne _ hne, hs]; rfl
      rw [hw, read_words _ (by omega) (by omega) _ (fun w hw => (List.mem_append.1 hw).elim (hfr w) (fun h => by rw [List.mem_singleton.1 h]; decide))]
      show (⟨7, (atoiV (Lib.itoa v.queue)), (0), (atoiV (Lib.itoa v.aat)), (0), (v.topic), (v.group), ([]), ([]), ([]), ([]), ([]), ([]), (true)⟩ : Ev) = v
      rw [hq, ha]
      cases v; simp only at *; subst hkind; subst z2; subst z4; subst z7; subst z8; subst z9; subst z10; subst z11; subst z12; subst hs
      rfl
  · replace hT := hT (by decide)
    replace hG := hG (by decide)
    obtain ⟨z1, z2, z3, z4, z5, z6, z7, z8, z9, z10, z11, z12, z13⟩ := empty_parts (show emptyB { v with group := [], topic := [], queue := 0, aat := 0 } = true from hr)
    have hne : ∀ w ∈ ([v.group, v.topic, Lib.itoa v.queue, Lib.itoa v.aat] : List (List UInt8)), w ≠ [] := fun w hw => by
      simp only [List.mem_cons, List.not_mem_nil, or_false] at hw
      rcases hw with rfl | rfl | rfl | rfl
      · exact plain_ne (group_plain hG)
      · exact topic_ne hT
      · exact itoa_ne _
      · exact itoa_ne _
    have hfr : ∀ w ∈ ([v.group, v.topic, Lib.itoa v.queue, Lib.itoa v.aat] : List (List UInt8)), (32 : UInt8) ∉ w := fun w hw => by
      simp only [List.mem_cons, List.not_mem_nil, or_false] at hw
      rcases hw with rfl | rfl | rfl | rfl
      · exact plain_free (group_plain hG) 32 (by decide)
      · exact topic_free hT
      · exact itoa_free _ 32 (by decide) (by decide)
      · exact itoa_free _ 32 (by decide) (by decide)
    have hw : wordsL v 8 = [v.group, v.topic, Lib.itoa v.queue, Lib.itoa v.aat] := filter_ne _ hne
    rw [hw, read_words _ (by omega) (by omega) _ hfr]
    show (⟨8, (atoiV (Lib.itoa v.queue)), (0), (atoiV (Lib.itoa v.aat)), (0), (v.topic), (v.group), ([]), ([]), ([]), ([]), ([]), ([]), (false)⟩ : Ev) = v
    rw [hq, ha]
    cases v; simp only at *; subst hkind; subst z2; subst z4; subst z7; subst z8; subst z9; subst z10; subst z11; subst z12; subst z13
    rfl
  · replace hT := hT (by decide)
    obtain ⟨z1, z2, z3, z4, z5, z6, z7, z8, z9, z10, z11, z12, z13⟩ := empty_parts (show emptyB { v with topic := [], key := [], n := 0 } = true from hr)
    have hne : ∀ w ∈ ([v.topic, hexL v.key, Lib.itoa v.n] : List (List UInt8)), w ≠ [] := fun w hw => by
      simp only [List.mem_cons, List.not_mem_nil, or_false] at hw
      rcases hw with rfl | rfl | rfl
      · exact topic_ne hT
      · exact hexL_ne _
      · exact itoa_ne _
    have hfr : ∀ w ∈ ([v.topic, hexL v.key, Lib.itoa v.n] : List (List UInt8)), (32 : UInt8) ∉ w := fun w hw => by
      simp only [List.mem_cons, List.not_mem_nil, or_false] at hw
      rcases hw with rfl | rfl | rfl
      · exact topic_free hT
      · exact hexL_digit _ 32 (by decide) (by decide)
      · exact itoa_free _ 32 (by decide) (by decide)
    have hw : wordsL v 9 = [v.topic, hexL v.key, Lib.itoa v.n] := filter_ne _ hne
    rw [hw, read_words _ (by omega) (by omega) _ hfr]
    show (⟨9, (0), (atoiV (Lib.itoa v.n)), (0), (0), (v.topic), ([]), ([]), ((unhexL (hexL v.key)).1), ([]), ([]), ([]), ([]), (false)⟩ : Ev) = v
    rw [unhex_hex, hn]
    cases v; simp only at *; subst hkind; subst z1; subst z3; subst z4; subst z6; subst z7; subst z9; subst z10; subst z11; subst z12; subst z13
    rfl
  · obtain ⟨z1, z2, z3, z4, z5, z6, z7, z8, z9, z10, z11, z12, z13⟩ := empty_parts (show emptyB { v with n := 0 } = true from hr)
    have hne : ∀ w ∈ ([Lib.itoa v.n] : List (List UInt8)), w ≠ [] := fun w hw => by
      simp only [List.mem_cons, List.not_mem_nil, or_false] at hw
      rcases hw with rfl
      · exact itoa_ne _
    have hfr : ∀ w ∈ ([Lib.itoa v.n] : List (List UInt8)), (32 : UInt8) ∉ w := fun w hw => by
      simp only [List.mem_cons, List.not_mem_nil, or_false] at hw
      rcases hw with rfl
      · exact itoa_free _ 32 (by decide) (by decide)
    have hw : wordsL v 10 = [Lib.itoa v.n] := filter_ne _ hne
    rw [hw, read_words _ (by omega) (by omega) _ hfr]
    show (⟨10, (0), (atoiV (Lib.itoa v.n)), (0), (0), ([]), ([]), ([]), ([]), ([]), ([]), ([]), ([]), (false)⟩ : Ev) = v
    rw [hn]
    cases v; simp only at *; subst hkind; subst z1; subst z3; subst z4; subst z5; subst z6; subst z7; subst z8; subst z9; subst z10; subst z11; subst z12; subst z13
    rfl
  · obtain ⟨z1, z2, z3, z4, z5, z6, z7, z8, z9, z10, z11, z12, z13⟩ := empty_parts (show emptyB { v with n := 0 } = true from hr)
    have hne : ∀ w ∈ ([Lib.itoa v.n] : List (List UInt8)), w ≠ [] := fun w hw => by
      simp only [List.mem_cons, List.not_mem_nil, or_false] at hw
      rcases hw with rfl
      · exact itoa_ne _
    have hfr : ∀ w ∈ ([Lib.itoa v.n] : List (List UInt8)), (32 : UInt8) ∉ w := fun w hw => by
      simp only [List.mem_cons, List.not_mem_nil, or_false] at hw
      rcases hw with rfl
      · exact itoa_free _ 32 (by decide) (by decide)
    have hw : wordsL v 11 = [Lib.itoa v.n] := filter_ne _ hne
    rw [hw, read_words _ (by omega) (by omega) _ hfr]
    show (⟨11, (0), (atoiV (Lib.itoa v.n)), (0), (0), ([]), ([]), ([]), ([]), ([]), ([]), ([]), ([]), (false)⟩ : Ev) = v
    rw [hn]
    cases v; simp only at *; subst hkind; subst z1; subst z3; subst z4; subst z5; subst z6; subst z7; subst z8; subst z9; subst z10; subst z11; subst z12; subst z13
    rfl
  · obtain ⟨z1, z2, z3, z4, z5, z6, z7, z8, z9, z10, z11, z12, z13⟩ := empty_parts (show emptyB { v with n := 0 } = true from hr)
    have hne : ∀ w ∈ ([Lib.itoa v.n] : List (List UInt8)), w ≠ [] := fun w hw => by
      simp only [List.mem_cons, List.not_mem_nil, or_false] at hw
      rcases hw with rfl
      · exact itoa_ne _
    have hfr : ∀ w ∈ ([Lib.itoa v.n] : List (List UInt8)), (32 : UInt8) ∉ w := fun w hw => by
      simp only [List.mem_cons, List.not_mem_nil, or_false] at hw
      rcases hw with rfl
      · exact itoa_free _ 32 (by decide) (by decide)
    have hw : wordsL v 12 = [Lib.itoa v.n] := filter_ne _ hne
    rw [hw, read_words _ (by omega) (by omega) _ hfr]
    show (⟨12, (0), (atoiV (Lib.itoa v.n)), (0), (0), ([]), ([]), ([]), ([]), ([]), ([]), ([]), ([]), (false)⟩ : Ev) = v
    rw [hn]
    cases v; simp only at *; subst hkind; subst z1; subst z3; subst z4; subst z5; subst z6; subst z7; subst z8; subst z9; subst z10; subst z11; subst z12; subst z13
    rfl
  · obtain ⟨z1, z2, z3, z4, z5, z6, z7, z8, z9, z10, z11, z12, z13⟩ := empty_parts (show emptyB { v with n := 0 } = true from hr)
    have hne : ∀ w ∈ ([Lib.itoa v.n] : List (List UInt8)), w ≠ [] := fun w hw => by
      simp only [List.mem_cons, List.not_mem_nil, or_false] at hw
      rcases hw with rfl
      · exact itoa_ne _
    have hfr : ∀ w ∈ ([Lib.itoa v.n] : List (List UInt8)), (32 : UInt8) ∉ w := fun w hw => by
      simp only [List.mem_cons, List.not_mem_nil, or_false] at hw
      rcases hw with rfl
      · exact itoa_free _ 32 (by decide) (by decide)
    have hw : wordsL v 13 = [Lib.itoa v.n] := filter_ne _ hne
    rw [hw, read_words _ (by omega) (by omega) _ hfr]
    show (⟨13, (0), (atoiV (Lib.itoa v.n)), (0), (0), ([]), ([]), ([]), ([]), ([]), ([]), ([]), ([]), (false)⟩ : Ev) = v
    rw [hn]
    cases v; simp only at *; subst hkind; subst z1; subst z3; subst z4; subst z5; subst z6; subst z7; subst z8; subst z9; subst z10; subst z11; subst z12; subst z13
    rfl
  · obtain ⟨z1, z2, z3, z4, z5, z6, z7, z8, z9, z10, z11, z12, z13⟩ := empty_parts (show emptyB { v with keep := [], lack := 0, body := [] } = true from hr)
    have hne : ∀ w ∈ ([bitsL v.keep, Lib.itoa v.lack, hexL v.body] : List (List UInt8)), w ≠ [] := fun w hw => by
      simp only [List.mem_cons, List.not_mem_nil, or_false] at hw
      rcases hw with rfl | rfl | rfl
      · exact bits_ne _
      · exact itoa_ne _
      · exact hexL_ne _
    have hfr : ∀ w ∈ ([bitsL v.keep, Lib.itoa v.lack, hexL v.body] : List (List UInt8)), (32 : UInt8) ∉ w := fun w hw => by
      simp only [List.mem_cons, List.not_mem_nil, or_false] at hw
      rcases hw with rfl | rfl | rfl
      · exact bits_free _ 32 (by decide) (by decide) (by decide)
      · exact itoa_free _ 32 (by decide) (by decide)
      · exact hexL_digit _ 32 (by decide) (by decide)
    have hw : wordsL v 14 = [bitsL v.keep, Lib.itoa v.lack, hexL v.body] := filter_ne _ hne
    rw [hw, read_words _ (by omega) (by omega) _ hfr]
    show (⟨14, (0), (0), (0), (atoiV (Lib.itoa v.lack)), ([]), ([]), ([]), ([]), ((unhexL (hexL v.body)).1), ([]), ([]), (truthsL (bitsL v.keep)), (false)⟩ : Ev) = v
    rw [truths_bits, hl, unhex_hex]
    cases v; simp only at *; subst hkind; subst z1; subst z2; subst z3; subst z5; subst z6; subst z7; subst z8; subst z10; subst z11; subst z13
    rfl
  · obtain ⟨z1, z2, z3, z4, z5, z6, z7, z8, z9, z10, z11, z12, z13⟩ := empty_parts (show emptyB v = true from hr)
    have hne : ∀ w ∈ ([] : List (List UInt8)), w ≠ [] := fun w hw => absurd hw (by simp)
    have hfr : ∀ w ∈ ([] : List (List UInt8)), (32 : UInt8) ∉ w := fun w hw => absurd hw (by simp)
    have hw : wordsL v 15 = [] := filter_ne _ hne
    rw [hw, read_words _ (by omega) (by omega) _ hfr]
    show (⟨15, (0), (0), (0), (0), ([]), ([]), ([]), ([]), ([]), ([]), ([]), ([]), (false)⟩ : Ev) = v
    cases v; simp only at *; subst hkind; subst z1; subst z2; subst z3; subst z4; subst z5; subst z6; subst z7; subst z8; subst z9; subst z10; subst z11; subst z12; subst z13
    rfl
end Go.Proofs.YtadhkeboaapfcaaGreatDoor.EvW
