/- an event's line, plain; how long its words are. -/
import Derived.Test.YtadhkeboaapfcaaGreatDoorEvF
import Derived.Test.YtadhkeboaapfcaaGreatDoorWordC
import Derived.Test.YtadhkeboaapfcaaGreatDoorLow
import Derived.Lib.ItoaLen
namespace Go.Proofs.YtadhkeboaapfcaaGreatDoor.EvW
open Go.RowKit OctMath NameMath HexMath
set_option linter.unusedVariables false
set_option linter.unusedSimpArgs false

/-- an event's line -/
def wordsL (v : Ev) (k : Nat) : List (List UInt8) := ((verbL k).map (wordL v)).filter (fun x => !x.isEmpty)
def eventL (v : Ev) : List UInt8 :=
  if v.kind < 1 ∨ 15 < v.kind then [] else
  if rightB v (verbL v.kind.toNat) && emptyB (wipeV v (verbL v.kind.toNat)) then Lib.join (verbN v.kind.toNat :: wordsL v v.kind.toNat) [32] else []
theorem join_len (ts : List (List UInt8)) (sep : List UInt8) (m : Nat) (h : ∀ t ∈ ts, t.length ≤ m) : (Lib.join ts sep).length ≤ ts.length * (m + sep.length) := by
  cases ts with
  | nil => exact Nat.zero_le _
  | cons x r =>
    rw [Lib.join_cons, List.length_append]
    have hx := h x (List.mem_cons_self ..)
    have ht : (Lib.joinTail sep r).length ≤ r.length * (m + sep.length) := by
      have hr : ∀ t ∈ r, t.length ≤ m := fun t ht => h t (List.mem_cons_of_mem _ ht)
      clear hx h
      unfold Lib.joinTail
      induction r with
      | nil => exact Nat.zero_le _
      | cons y r ih =>
        rw [List.map_cons, List.flatten_cons, List.length_append, List.length_append, List.length_cons, Nat.succ_mul]
        have := ih (fun t ht => hr t (List.mem_cons_of_mem _ ht))
        have := hr y (List.mem_cons_self ..)
        omega
    rw [List.length_cons, Nat.succ_mul]
    omega
theorem hexL_len (l : List UInt8) : (hexL l).length ≤ 2 * l.length + 1 := by
  unfold hexL
  split
  · simp
  · rw [hexD_length]; omega
theorem right_parts {v : Ev} {letters : List UInt8} (h : rightB v letters = true) : ((Lib.join (v.keys.map hexL) [44]).length ≤ 6020 ∧ (Lib.join v.tags [32, 124, 124, 32]).length ≤ 80) ∧ TagW.newE v.tags = 0 ∧ v.body.length ≤ 300 ∧ v.key.length ≤ 300 ∧ v.keys.length ≤ 10 ∧ v.keep.length ≤ 100 ∧ (∀ t ∈ v.keys, t ≠ [] ∧ t.length ≤ 300) ∧
    (∀ t ∈ v.tags, plainL t = true) ∧ v.tags.length ≤ 4 ∧ (v.tag = [] ∨ plainL v.tag = true) := by
  unfold rightB at h
  simp only [Bool.and_eq_true, decide_eq_true_eq, Bool.not_eq_true'] at h
  obtain ⟨⟨⟨⟨⟨⟨⟨⟨⟨h0, h1⟩, h2⟩, h3⟩, h4⟩, h5⟩, h6⟩, h7⟩, h8⟩, h9⟩ := h
  have hk : ∀ t ∈ v.keys, t ≠ [] ∧ t.length ≤ 300 := by
    intro t ht
    have : badK t = false := by
      cases hb : badK t with
      | false => rfl
      | true => rw [List.any_eq_true.2 ⟨t, ht, hb⟩] at h9; cases h9
    unfold badK at this
    simp only [Bool.or_eq_false_iff, decide_eq_false_iff_not] at this
    exact ⟨fun e => by rw [e] at this; exact absurd this.1 (by simp), by omega⟩
  have ht : (∀ t ∈ v.tags, plainL t = true) ∧ v.tags.length ≤ 4 := by
    unfold TagW.newE at h2
    split at h2
    · cases h2
    · rename_i hp
      split at h2
      · cases h2
      · split at h2
        · cases h2
        · rename_i h4'
          have hp2 : v.tags.all plainL = true := by cases hh : v.tags.all plainL with | true => rfl | false => exact absurd hh hp
          exact ⟨fun t ht => List.all_eq_true.1 hp2 t ht, by omega⟩
  refine ⟨⟨?_, ?_⟩, h2, h5, h6, h7, h8, hk, ht.1, ht.2, ?_⟩
  · refine Nat.le_trans (join_len _ _ 601 fun t ht' => ?_) ?_
    · obtain ⟨x, hx, rfl⟩ := List.mem_map.1 ht'
      have := hexL_len x
      have := (hk x hx).2
      omega
    · rw [List.length_map]
      show v.keys.length * (601 + 1) ≤ _
      omega
  · refine Nat.le_trans (join_len _ _ 16 fun t ht' => ?_) ?_
    · have := ht.1 t ht'
      unfold plainL at this
      simp only [Bool.and_eq_true, decide_eq_true_eq] at this
      exact this.1.2
    · show v.tags.length * (16 + 4) ≤ _
      have := ht.2
      omega
  · simp only [Bool.or_eq_true] at h1
    rcases h1 with h1 | h1
    · exact .inl (by cases hv : v.tag with | nil => rfl | cons a b => rw [hv] at h1; cases h1)
    · exact .inr h1
theorem wordL_cases (P : List UInt8 → Prop) (v : Ev) (h84 : P (v.topic)) (h71 : P (v.group)) (h81 : P (Lib.itoa v.queue)) (h78 : P (Lib.itoa v.n)) (h65 : P (Lib.itoa v.aat)) (h76 : P (Lib.itoa v.lack)) (h116 : P (if v.tag.isEmpty then [46] else v.tag)) (h107 : P (keysL v.keys)) (h98 : P (hexL v.body)) (h120 : P (hexL v.key)) (h112 : P (bitsL v.keep)) (h102 : P (textL v.tags)) (hs : P (if v.sync then [83, 89, 78, 67] else [])) (c : UInt8) : P (wordL v c) := by
  by_cases e84 : c = 84
  · subst e84; exact h84
  by_cases e71 : c = 71
  · subst e71; exact h71
  by_cases e81 : c = 81
  · subst e81; exact h81
  by_cases e78 : c = 78
  · subst e78; exact h78
  by_cases e65 : c = 65
  · subst e65; exact h65
  by_cases e76 : c = 76
  · subst e76; exact h76
  by_cases e116 : c = 116
  · subst e116; exact h116
  by_cases e107 : c = 107
  · subst e107; exact h107
  by_cases e98 : c = 98
  · subst e98; exact h98
  by_cases e120 : c = 120
  · subst e120; exact h120
  by_cases e112 : c = 112
  · subst e112; exact h112
  by_cases e102 : c = 102
  · subst e102; exact h102
  unfold wordL
  rw [if_neg e84, if_neg e71, if_neg e81, if_neg e78, if_neg e65, if_neg e76, if_neg e116, if_neg e107, if_neg e98, if_neg e120, if_neg e112, if_neg e102]
  exact hs
theorem word_len (v : Ev) (hok : EvOk v) (hi : EvI v) {letters : List UInt8} (hr : rightB v letters = true) (c : UInt8) : (wordL v c).length ≤ 1099511627776 := by
  obtain ⟨hj, _, hb, hk, hks, hkp, _, _, hts, ht⟩ := right_parts hr
  apply wordL_cases (fun l => l.length ≤ 1099511627776) v
  · exact hok.topic
  · exact hok.group
  · have := Lib.itoa_length_le v.queue hi.queue.1 hi.queue.2; omega
  · have := Lib.itoa_length_le v.n hi.n.1 hi.n.2; omega
  · have := Lib.itoa_length_le v.aat hi.aat.1 hi.aat.2; omega
  · have := Lib.itoa_length_le v.lack hi.lack.1 hi.lack.2; omega
  · have := hok.tag
    cases hh : v.tag.isEmpty
    · exact this
    · show 1 ≤ _; omega
  · unfold keysL
    by_cases h0 : v.keys = []
    · rw [if_pos h0]; show 1 ≤ _; omega
    · rw [if_neg h0]; omega
  · have := hexL_len v.body; omega
  · have := hexL_len v.key; omega
  · unfold bitsL
    by_cases h0 : v.keep = []
    · rw [if_pos h0]; show 1 ≤ _; omega
    · rw [if_neg h0, List.length_map]; omega
  · unfold textL
    by_cases h0 : v.tags = []
    · rw [if_pos h0]; show 1 ≤ _; omega
    · rw [if_neg h0]; omega
  · cases v.sync
    · exact Nat.zero_le _
    · show 4 ≤ _; omega
theorem right_J {v : Ev} {letters : List UInt8} (hr : rightB v letters = true) : EvJ v := by
  have := (right_parts hr).1
  exact ⟨by omega, by omega⟩
theorem verbN_len (k : Nat) : (verbN k).length ≤ 6 := by
  unfold verbN
  split <;> decide
theorem words_len (v : Ev) (hok : EvOk v) (hi : EvI v) (k : Nat) (hr : rightB v (verbL k) = true) : (verbN k :: wordsL v k).length ≤ 9 ∧ (Lib.join (verbN k :: wordsL v k) [32]).length ≤ 140737488355328 := by
  have hl : (verbN k :: wordsL v k).length ≤ 9 := by
    have h1 := verbL_len k
    have h2 : (wordsL v k).length ≤ ((verbL k).map (wordL v)).length := List.length_filter_le _ _
    rw [List.length_map] at h2
    rw [List.length_cons]; omega
  refine ⟨hl, Nat.le_trans (join_len _ _ 1099511627776 fun t ht => ?_) ?_⟩
  · rcases List.mem_cons.1 ht with rfl | ht
    · have := verbN_len k; omega
    · obtain ⟨x, _, rfl⟩ := List.mem_map.1 (List.mem_filter.1 ht).1
      exact word_len v hok hi hr x
  · refine Nat.le_trans (Nat.mul_le_mul_right _ hl) (by decide)
end Go.Proofs.YtadhkeboaapfcaaGreatDoor.EvW
