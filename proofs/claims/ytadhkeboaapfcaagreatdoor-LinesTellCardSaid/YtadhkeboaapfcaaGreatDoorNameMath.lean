/- Plain names, in plain words: what name.Plain and its kin answer. -/
import Derived.Test.YtadhkeboaapfcaaGreatDoorOctMath
import Derived.Shelf.GgClosure.StringsIndexFunc
namespace Go.Proofs.YtadhkeboaapfcaaGreatDoor.NameMath
open Go.RowKit OctMath

def signN (n : Nat) : Bool := (decide (97 ≤ n) && decide (n ≤ 122)) || (decide (48 ≤ n) && decide (n ≤ 57)) || n == 45
def signB (c : UInt8) : Bool := signN c.toNat
def plainL (l : List UInt8) : Bool := decide (1 ≤ l.length) && decide (l.length ≤ 16) && l.all signB
def groupL (l : List UInt8) : Bool := plainL l && decide (l.length ≤ 8)
theorem signN_big (n : Nat) (h : 128 ≤ n) : signN n = false := by
  unfold signN
  rw [decide_eq_false (show ¬ n ≤ 122 by omega), decide_eq_false (show ¬ n ≤ 57 by omega), Bool.and_false, Bool.and_false]
  exact beq_eq_false_iff_ne.2 (by omega)
theorem get_S (l : List UInt8) (i : Nat) (h : i < l.length) : (S l).get! i = l[i] := by
  show (l.toArray)[i]! = _
  simp [h]
theorem decode_ascii (l : List UInt8) (i : Nat) (h : i < l.length) (hb : l[i].toNat < 128) : Utf8.decode (S l) i = (l[i].toNat, 1) := by
  unfold Utf8.decode
  simp only [Nat.add_zero, get_S l i h, if_pos hb]
theorem decode_big (l : List UInt8) (i : Nat) (h : i < l.length) (hb : ¬ l[i].toNat < 128) : 128 ≤ (Utf8.decode (S l) i).1 := by
  unfold Utf8.decode
  simp only [Nat.add_zero, get_S l i h, if_neg hb]
  have he : 128 ≤ Utf8.runeError := by decide
  (repeat' split) <;> first | exact he | (simp only []; omega) | (rename_i hc; simp only [Bool.and_eq_true, decide_eq_true_eq] at hc; have := hc.1; simp only []; omega)
theorem idx_from (l : List UInt8) : ∀ f pos : Nat, l.length ≤ pos + f → (Lib.idxFuncFrom (fun n => !signN n) true (S l) f pos = -1 ↔ (l.drop pos).all signB = true)
  | 0, pos, h => by
    rw [List.drop_of_length_le (by omega)]
    exact ⟨fun _ => rfl, fun _ => rfl⟩
  | f + 1, pos, h => by
    unfold Lib.idxFuncFrom
    rw [S_size]
    by_cases hp : pos < l.length
    · rw [if_pos hp, List.drop_eq_getElem_cons hp, List.all_cons]
      by_cases hb : l[pos].toNat < 128
      · rw [decode_ascii l pos hp hb]
        simp only []
        have hs : signB l[pos] = signN l[pos].toNat := rfl
        rw [hs]
        cases signN l[pos].toNat with
        | true =>
          rw [if_neg (by simp), Bool.true_and]
          exact idx_from l f (pos + 1) (by omega)
        | false =>
          rw [if_pos (by simp), Bool.false_and]
          exact ⟨fun h => by omega, fun h => by simp at h⟩
      · have h1 := signN_big _ (decode_big l pos hp hb)
        have h2 : signB l[pos] = false := signN_big _ (by omega)
        rw [h1, h2, if_pos (by simp), Bool.false_and]
        exact ⟨fun h => by omega, fun h => by simp at h⟩
    · rw [if_neg hp, List.drop_of_length_le (by omega)]
      exact ⟨fun _ => rfl, fun _ => rfl⟩
theorem idx_lt (l : List UInt8) : decide (Lib.idxFunc (fun n => !signN n) true (S l) < (0 : Int)) = l.all signB := by
  have h := idx_from l (S l).size 0 (by rw [S_size]; omega)
  rw [List.drop_zero] at h
  have hr := Lib.idxFunc_range (fun n => !signN n) true (S l)
  have he : Lib.idxFunc (fun n => !signN n) true (S l) = Lib.idxFuncFrom (fun n => !signN n) true (S l) (S l).size 0 := rfl
  rw [← he] at h
  cases hb : l.all signB with
  | true => rw [hb] at h; rw [h.2 rfl]; rfl
  | false =>
    rw [hb] at h
    rcases hr with h1 | h1
    · exact absurd (h.1 h1) (by simp)
    · exact decide_eq_false (by omega)
theorem plain_eq (l : List UInt8) : plainL l = (decide (l ≠ []) && decide (l.length ≤ 16) && decide (Lib.idxFunc (fun n => !signN n) true (S l) < (0 : Int))) := by
  rw [idx_lt]; unfold plainL
  congr 2
  cases l <;> simp
def retryL : List UInt8 := [37, 114, 101, 116, 114, 121, 37]
def deadL : List UInt8 := [37, 100, 101, 97, 100, 37]
/-- the group of a topic of the broker's own; []: it is none -/
def ofL (l : List UInt8) : List UInt8 :=
  if (Lib.hasPrefix l retryL && groupL (l.drop 7)) = true then l.drop 7
  else if (Lib.hasPrefix l deadL && groupL (l.drop 6)) = true then l.drop 6 else []
def topicL (l : List UInt8) : Bool := plainL l || !(ofL l).isEmpty
theorem group_ne (l : List UInt8) (h : groupL l = true) : l.isEmpty = false := by
  cases l with
  | nil => simp [groupL, plainL] at h
  | cons _ _ => rfl
end Go.Proofs.YtadhkeboaapfcaaGreatDoor.NameMath
