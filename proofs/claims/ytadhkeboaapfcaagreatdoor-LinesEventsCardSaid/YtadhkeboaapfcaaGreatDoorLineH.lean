/- reveillelaw30.line at each kind. -/
import Derived.Test.YtadhkeboaapfcaaGreatDoorLineMath
import Derived.Deep.DeepCutAuto
import Derived.BigRegion
import Derived.BigQuiet
namespace Go.Proofs.YtadhkeboaapfcaaGreatDoor.EvW
open Go.RowKit OctMath NameMath HexMath
set_option linter.unusedVariables false
set_option linter.unusedSimpArgs false
set_option maxRecDepth 100000

theorem guard_parts {v : Ev} (h : guardB v = true) : [v.queue, v.n, v.aat, v.lack].any badN = false ∧ (v.tag.isEmpty || plainL v.tag) = true ∧ filtB v.tags = true ∧ v.body.length ≤ 300 ∧ v.key.length ≤ 300 ∧ v.keys.length ≤ 10 ∧ v.keep.length ≤ 100 := by
  unfold guardB at h
  rw [Bool.and_eq_true, Bool.and_eq_true, Bool.and_eq_true, Bool.and_eq_true, Bool.and_eq_true, Bool.and_eq_true, decide_eq_true_eq, decide_eq_true_eq, decide_eq_true_eq, decide_eq_true_eq] at h
  obtain ⟨⟨⟨⟨⟨⟨h1, h2⟩, h3⟩, h4⟩, h5⟩, h6⟩, h7⟩ := h
  exact ⟨by simpa using h1, h2, h3, h4, h5, h6, h7⟩
theorem key_good {v : Ev} (h : v.keys.any badK = false) {x : List UInt8} (hx : x ∈ v.keys) : x ≠ [] ∧ ¬ 300 < x.length := by
  have : badK x = false := by
    cases hb : badK x with
    | false => rfl
    | true => rw [List.any_eq_true.2 ⟨x, hx, hb⟩] at h; cases h
  unfold badK at this
  simp only [Bool.or_eq_false_iff, decide_eq_false_iff_not] at this
  exact ⟨fun e => by rw [e] at this; exact absurd this.1 (by simp), this.2⟩
def tagW (v : Ev) : List UInt8 := if v.tag.isEmpty then [46] else v.tag
theorem send_t {v : Ev} (h : v.sync = true) : S v.topic ++ ⟨#[32]⟩ ++ S (Lib.itoa v.queue) ++ ⟨#[32]⟩ ++ S (tagW v) ++ ⟨#[32]⟩ ++ S (keysL v.keys) ++ ⟨#[32]⟩ ++ S (hexL v.body) ++ ⟨#[32, 83, 89, 78, 67]⟩ = S (sendL v) := by
  have e : (⟨#[32]⟩ : ByteArray) = S [32] := rfl
  have e2 : (⟨#[32, 83, 89, 78, 67]⟩ : ByteArray) = S [32, 83, 89, 78, 67] := rfl
  rw [e, e2]
  unfold sendL syncL tagW
  rw [h]
  simp only [S_append, if_true]
theorem send_f {v : Ev} (h : v.sync = false) : S v.topic ++ ⟨#[32]⟩ ++ S (Lib.itoa v.queue) ++ ⟨#[32]⟩ ++ S (tagW v) ++ ⟨#[32]⟩ ++ S (keysL v.keys) ++ ⟨#[32]⟩ ++ S (hexL v.body) ++ ⟨#[]⟩ = S (sendL v) := by
  have e : (⟨#[32]⟩ : ByteArray) = S [32] := rfl
  have e2 : (⟨#[]⟩ : ByteArray) = S [] := rfl
  rw [e, e2]
  unfold sendL syncL tagW
  rw [h]
  simp only [S_append, Bool.false_eq_true, if_false]
theorem group_eq (v : Ev) : S v.group ++ ⟨#[32]⟩ ++ S v.topic ++ ⟨#[32]⟩ ++ S (Lib.itoa v.queue) ++ ⟨#[32]⟩ ++ S (Lib.itoa v.aat) = S (groupT v) := by
  have e : (⟨#[32]⟩ : ByteArray) = S [32] := rfl
  rw [e]
  unfold groupT
  simp only [S_append]
theorem plain16 {l : List UInt8} (h : plainL l = true) : l.length ≤ 16 := by
  unfold plainL at h
  simp only [Bool.and_eq_true, decide_eq_true_eq] at h
  exact h.1.2
theorem filt_small {ts : List (List UInt8)} (h : filtB ts = true) : ts.length ≤ 4 ∧ ∀ t ∈ ts, t.length ≤ 16 := by
  unfold filtB at h
  simp only [Bool.and_eq_true, decide_eq_true_eq] at h
  exact ⟨h.2, fun t ht => plain16 (h.1.1 t ht)⟩
theorem part_sizes {v : Ev} (h : EvOk v) (hi : EvI v) (hg : guardB v = true) (hbk : v.keys.any badK = false) : (S v.topic).size ≤ 1099511627776 ∧ (S v.group).size ≤ 1099511627776 ∧ (S (Lib.itoa v.queue)).size ≤ 21 ∧ (S (Lib.itoa v.n)).size ≤ 21 ∧ (S (Lib.itoa v.aat)).size ≤ 21 ∧ (S (Lib.itoa v.lack)).size ≤ 21 ∧ (S (tagW v)).size ≤ 101 ∧ (S (hexL v.body)).size ≤ 2001 ∧ (S (keysL v.keys)).size ≤ 50000 := by
  have hs : ∀ (x : Int), (-9223372036854775808 ≤ x ∧ x ≤ 9223372036854775807) → (S (Lib.itoa x)).size ≤ 21 := fun x hx => by rw [S_size]; exact Lib.itoa_length_le x hx.1 hx.2
  have hp := guard_parts hg
  refine ⟨by rw [S_size]; exact h.topic, by rw [S_size]; exact h.group, hs _ hi.queue, hs _ hi.n, hs _ hi.aat, hs _ hi.lack, ?_, ?_, ?_⟩
  · rw [S_size]; have h1 := hp.2.1
    unfold tagW
    split
    · simp
    · rename_i hne
      rw [Bool.or_eq_true] at h1
      have := plain16 (h1.resolve_left hne); omega
  · rw [S_size]; have h1 := hexL_len v.body; have h2 := hp.2.2.2.1; omega
  · rw [S_size]; unfold keysL
    by_cases h0 : v.keys = []
    · rw [if_pos h0]; simp
    · rw [if_neg h0]
      have := join_len (v.keys.map hexL) [44] 2001 (fun t ht => by
        obtain ⟨x, hx, rfl⟩ := List.mem_map.1 ht
        have h1 := (key_good hbk hx).2
        have h2 := hexL_len x
        omega)
      have h2 : (v.keys.map hexL).length ≤ 20 := by rw [List.length_map]; have := hp.2.2.2.2.2.1; omega
      have h3 := Nat.mul_le_mul_right (2001 + ([44] : List UInt8).length) h2
      simp only [List.length_cons, List.length_nil] at *
      omega
theorem sendL_size {v : Ev} (h : EvOk v) (hi : EvI v) (hg : guardB v = true) (hbk : v.keys.any badK = false) : (S (sendL v)).size ≤ 1100000000000 := by
  obtain ⟨h1, h2, h3, h4, h5, h6, h7, h8, h9⟩ := part_sizes h hi hg hbk
  rw [S_size] at h1 h3 h7 h8 h9
  rw [S_size]
  have hs : (syncL v).length ≤ 5 := by unfold syncL; split <;> simp
  have hT : (if v.tag.isEmpty then [46] else v.tag).length ≤ 101 := h7
  unfold sendL
  simp only [List.length_append, List.length_cons, List.length_nil]
  omega
theorem groupT_size {v : Ev} (h : EvOk v) (hi : EvI v) (hg : guardB v = true) (hbk : v.keys.any badK = false) : (S (groupT v)).size ≤ 2200000000000 := by
  obtain ⟨h1, h2, h3, h4, h5, h6, h7, h8, h9⟩ := part_sizes h hi hg hbk
  rw [S_size] at h1 h2 h3 h5
  rw [S_size]
  unfold groupT
  simp only [List.length_append, List.length_cons, List.length_nil]
  omega
theorem nack_f {v : Ev} (h : v.sync = false) : S (lineS v 7) = ⟨#[78, 65, 67, 75, 32]⟩ ++ S (groupT v) ++ ⟨#[]⟩ := by
  have e : (⟨#[78, 65, 67, 75, 32]⟩ : ByteArray) = S [78, 65, 67, 75, 32] := rfl
  have e2 : (⟨#[]⟩ : ByteArray) = S [] := rfl
  rw [e, e2]
  unfold lineS syncL
  rw [h]
  simp only [S_append, Bool.false_eq_true, if_false]
theorem nack_t {v : Ev} (h : v.sync = true) : S (lineS v 7) = ⟨#[78, 65, 67, 75, 32]⟩ ++ S (groupT v) ++ ⟨#[32, 83, 89, 78, 67]⟩ := by
  have e : (⟨#[78, 65, 67, 75, 32]⟩ : ByteArray) = S [78, 65, 67, 75, 32] := rfl
  have e2 : (⟨#[32, 83, 89, 78, 67]⟩ : ByteArray) = S [32, 83, 89, 78, 67] := rfl
  rw [e, e2]
  unfold lineS syncL
  rw [h]
  simp only [S_append, if_true]
theorem text_size {v : Ev} (hg : guardB v = true) : (S (textL v.tags)).size ≤ 1000 := by
  have h := filt_small (guard_parts hg).2.2.1
  rw [S_size]
  unfold textL
  split
  · simp
  · have := join_len v.tags [32, 124, 124, 32] 16 h.2
    have h3 := Nat.mul_le_mul_right (16 + ([32, 124, 124, 32] : List UInt8).length) h.1
    simp only [List.length_cons, List.length_nil] at *
    omega
theorem bits_size {v : Ev} (hg : guardB v = true) : (S (bitsL v.keep)).size ≤ 1000 := by
  have h := (guard_parts hg).2.2.2.2.2.2
  rw [S_size]
  unfold bitsL
  split
  · simp
  · rw [List.length_map]; omega
theorem hexk_size {v : Ev} (hg : guardB v = true) : (S (hexL v.key)).size ≤ 2001 := by
  have h := (guard_parts hg).2.2.2.2.1
  have h2 := hexL_len v.key
  rw [S_size]; omega
end Go.Proofs.YtadhkeboaapfcaaGreatDoor.EvW
