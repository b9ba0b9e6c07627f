/- octet: Num, Text and List, which write. -/
import Derived.Test.YtdlfbpdcligecaaOctD
import Derived.Test.YtdlfbpdcligecaaBuilder
namespace Go.Proofs.Ytdlfbpdcligecaa.OctW
open Go.RowKit OctMath
set_option maxRecDepth 100000
set_option linter.unusedSimpArgs false
set_option linter.unusedVariables false

/-- a builder in block b, of the call's own -/
abbrev Bl (B b : Nat) (l : List UInt8) (w : World) : Prop := Lib.IsBuilder 83 5 B b (Lib.byteCells l) w
theorem BuilderAt_mod {M : Nat → Prop} {T e B b : Nat} {p : Value} {bs : List Value} {w w' : World} (h : Lib.BuilderAt T e B b p bs w) (hm : Mod M w w') (hM : ∀ k, M k → k < B) : Lib.BuilderAt T e B b p bs w' := by
  obtain ⟨hB, v, hb, hown, hne⟩ := h
  have hlt := (Array.getElem?_eq_some_iff.1 hb).1
  exact ⟨hB, v, (hm.block b hlt (fun h => by have := hM b h; omega)).trans hb, ownsRow_mod hown hm hM, hne⟩
theorem Bl.mod {M : Nat → Prop} {B b : Nat} {l : List UInt8} {w w' : World} (h : Bl B b l w) (hm : Mod M w w') (hM : ∀ k, M k → k < B) : Bl B b l w' := by
  rcases h with h | h
  · exact .inl (BuilderAt_mod h hm hM)
  · exact .inr (BuilderAt_mod h hm hM)
theorem Bl.below {B b : Nat} {l : List UInt8} {w w' : World} (h : Bl B b l w) (hm : Below w.heap.size w w') : Bl B b l w' := h.mod (M := fun _ => False) (Mod.of_below hm) (fun _ x => x.elim)

/-- a row of numbers in memory -/
def Ints (w : World) (a : Option Addr) (xs : List Int) : Prop := ∀ i (h : i < xs.length), ∃ b off, a = some ⟨b, off, none⟩ ∧ w.cell? ⟨b, off + i, none⟩ = some (.int .i64 xs[i])
theorem Ints.below {w w' : World} {a : Option Addr} {xs : List Int} (h : Ints w a xs) (hb : Below w.heap.size w w') : Ints w' a xs := by
  intro i hi
  obtain ⟨b, off, rfl, hc⟩ := h i hi
  exact ⟨b, off, rfl, by rw [hb.cell (cell_lt hc)]; exact hc⟩

/-- numbers in n bytes each -/
def numsL (n : Nat) (xs : List Int) : List UInt8 := xs.flatMap fun x => be n x.toNat
def fits (n : Nat) (x : Int) : Prop := 0 ≤ x ∧ x < (256 ^ n : Nat)
instance (n : Nat) (x : Int) : Decidable (fits n x) := by unfold fits; infer_instance
/-- what Num answers -/
def numsW (n : Int) (xs : List Int) : List UInt8 × Nat := if n < 1 ∨ 7 < n then ([], 1) else if ∀ x ∈ xs, fits n.toNat x then (numsL n.toNat xs, 0) else ([], 2)
theorem numsL_take (n : Nat) (xs : List Int) (k : Nat) (h : k < xs.length) : numsL n (xs.take (k + 1)) = numsL n (xs.take k) ++ be n xs[k].toNat := by
  unfold numsL; rw [List.take_succ_eq_append_getElem h, List.flatMap_append]; simp
theorem numsL_length (n : Nat) (xs : List Int) : (numsL n xs).length = xs.length * n := by
  unfold numsL; induction xs with
  | nil => simp
  | cons x xs ih => simp [be_length, ih, Nat.succ_mul]; omega
theorem shr_b (z m : Nat) : ((z : Int) / 2 ^ (8 * m) != 0) = decide (256 ^ m ≤ z) := by
  have h : ((z : Int) / 2 ^ (8 * m)) = ((z / 256 ^ m : Nat) : Int) := by
    rw [Int.natCast_ediv, show ((256 ^ m : Nat) : Int) = 2 ^ (8 * m) from by rw [Int.natCast_pow, Int.pow_mul]; rfl]
  have hp : 0 < 256 ^ m := Nat.pow_pos (by omega)
  rw [h]
  by_cases hz : 256 ^ m ≤ z
  · have := Nat.div_pos hz hp
    rw [decide_eq_true hz]
    generalize z / 256 ^ m = q at *
    exact bne_iff_ne.2 (by omega)
  · rw [decide_eq_false hz, Nat.div_eq_of_lt (by omega)]; rfl

set_option maxHeartbeats 1600000 in
theorem nums_any (n : Int) (hn0 : -9223372036854775808 ≤ n) (hn1 : n ≤ 9223372036854775807) (a : Option Addr) (cap : Nat) (xs : List Int) (hx : xs.length ≤ 1048576) (hr : ∀ x ∈ xs, -9223372036854775808 ≤ x ∧ x ≤ 9223372036854775807) (W : World) (h : Ints W a xs) :
    Calls Try.prog 16 #[.int .i64 n, .slice a xs.length cap] W fun e w' => e = .returned (.tuple #[.string (S (numsW n xs).1), .int .i64 ((numsW n xs).2 : Int)]) ∧ Below W.heap.size W w' := by
  have HI := Lib.hid h; clear h
  have HRG := Lib.hid hr; clear hr
  by_cases hw : n < 1 ∨ 7 < n
  · have HT : Hid (numsW n xs = ([], 1)) := by unfold numsW; rw [if_pos hw]; rfl
    go_enter Try.func16, Try.ntmps16
    rcases hw with hw | hw
    · go_wp2_with fail
      go_ret2
      rw [HT.out]
      exact ⟨rfl, Below.refl _ _⟩
    · have hw1 : 1 ≤ n := by omega
      go_wp2_with fail
      go_ret2
      rw [HT.out]
      exact ⟨rfl, Below.refl _ _⟩
  · obtain ⟨m, rfl⟩ : ∃ m : Nat, n = m := ⟨n.toNat, by omega⟩
    have hm1 : 1 ≤ m := by omega
    have hm7 : m ≤ 7 := by omega
    have HT : Hid (numsW (m : Int) xs = if ∀ x ∈ xs, fits m x then (numsL m xs, 0) else ([], 2)) := by unfold numsW; rw [if_neg hw]; rfl
    clear hw
    have HF : Hid (Bl W.heap.size W.heap.size [] (W.alloc (.cells #[.pointer none, .slice none 0 0] 83))) := Lib.fresh_isBuilder _ _ W
    have HB : Hid (Below W.heap.size W (W.alloc (.cells #[.pointer none, .slice none 0 0] 83))) := (Below.refl _ W).alloc (Nat.le_refl _) _
    go_enter Try.func16, Try.ntmps16
    go_wp2_with fail
    go_loopw [17] (fun i wr => ∃ k : Nat, k ≤ xs.length ∧ i = .int .i64 k ∧ Hid (Bl W.heap.size W.heap.size (numsL m (xs.take k)) wr) ∧ Hid (Below W.heap.size W wr) ∧ Hid (∀ x ∈ xs.take k, fits m x)) (fun i _ => xs.length - (intOf i).toNat)
    case atStart => exact ⟨0, by omega, rfl, HF, HB, by simp [Hid]⟩
    case round =>
      clear HF HB
      obtain ⟨k, hk, rfl, HF, HB, HA⟩ := hrel
      by_cases hlt : k < xs.length
      · obtain ⟨b, off, rfl, hc⟩ := HI.out k hlt
        rw [← HB.out.cell (cell_lt hc)] at hc
        have hrg := HRG.out xs[k] (by simp)
        have hnl := numsL_take m xs k hlt
        have htk : ∀ x, x ∈ xs.take (k + 1) ↔ x ∈ xs.take k ∨ x = xs[k] := by intro y; rw [List.take_succ_eq_append_getElem hlt, List.mem_append, List.mem_singleton]
        have hmem : xs[k] ∈ xs := by simp
        generalize xs[k] = x at *
        have HNL := Lib.hid hnl; clear hnl
        have HTK := Lib.hid htk; clear htk
        have HMEM := Lib.hid hmem; clear hmem
        obtain ⟨hr0, hr1⟩ := hrg
        by_cases h0 : x < 0
        · have HT2 : Hid (numsW (m : Int) xs = ([], 2)) := by rw [HT.out, if_neg (fun h => by have := (h x HMEM.out).1; omega)]; rfl
          go_wp2_with fail
          go_ret2
          rw [HT2.out]
          exact ⟨rfl, HB.out⟩
        · obtain ⟨z, rfl⟩ : ∃ z : Nat, x = z := ⟨x.toNat, by omega⟩
          clear h0 hr0
          have hsh := shr_b z m
          by_cases hf : 256 ^ m ≤ z
          · have HT2 : Hid (numsW (m : Int) xs = ([], 2)) := by rw [HT.out, if_neg (fun h => by have := (h z HMEM.out).2; omega)]; rfl
            rw [decide_eq_true hf] at hsh
            clear hf
            go_wp2_with fail
            go_ret2
            rw [HT2.out]
            exact ⟨rfl, HB.out⟩
          · have hfz : Hid (fits m z) := ⟨by omega, by omega⟩
            rw [decide_eq_false hf] at hsh
            clear hf
            go_wp2_with (go_at_call 43; refine (put_any m z (by omega) (by omega) _).mono ?_)
            rintro e w1 ⟨rfl, hb1⟩
            have HB1 : Hid (Below W.heap.size W w1) := HB.out.trans (hb1.mono HB.out.size)
            have HF1 : Hid (Bl W.heap.size W.heap.size (numsL m (xs.take k)) w1) := HF.out.below hb1
            have hlen : (Lib.byteCells (numsL m (xs.take k))).length + (S (be m z)).size ≤ 140737488355328 := by
              rw [Lib.byteCells_length, numsL_length, S_size, be_length, List.length_take]
              have : min k xs.length * m ≤ 1048576 * 7 := Nat.mul_le_mul (by omega) hm7
              omega
            clear hb1 HF HB
            go_wp2_with (go_at_call 42; refine (Bld.writeString_any W.heap.size W.heap.size _ (S (be m z)) _ HF1.out hlen HB1.out.size).mono ?_)
            rintro e w2 ⟨rfl, hbl, hb2⟩
            have HB2 : Hid (Below W.heap.size W w2) := HB1.out.trans hb2
            have HF2 : Hid (Bl W.heap.size W.heap.size (numsL m (xs.take (k + 1))) w2) := by
              rw [HNL.out]
              have : Lib.byteCells (numsL m (xs.take k)) ++ Lib.strCells (S (be m z)) = Lib.byteCells (numsL m (xs.take k) ++ be m z) := by rw [Lib.strCells_eq, S_list, Lib.byteCells_append]
              rw [this] at hbl
              exact .inr hbl
            clear hbl hb2 HF1 HB1 hlen
            go_wp2_with fail
            go_roundw
            case rel =>
              refine ⟨k + 1, by omega, by go_num, HF2, HB2, fun y hy => ?_⟩
              rcases (HTK.out y).1 hy with hy | rfl
              · exact HA.out y hy
              · exact hfz.out
            case measure => simp [intOf]; omega
      · have ek : k = xs.length := by omega
        subst ek
        rw [List.take_length] at HF HA
        have HT2 : Hid (numsW (m : Int) xs = (numsL m xs, 0)) := by rw [HT.out, if_pos HA.out]; rfl
        go_wp2_with (go_at_call 44; refine (Bld.string_any W.heap.size W.heap.size _ _ HF.out HB.out.size).mono ?_)
        rintro e w2 ⟨rfl, hb2⟩
        have HB2 : Hid (Below W.heap.size W w2) := HB.out.trans hb2
        clear hb2
        go_wp2_with fail
        go_ret2
        rw [HT2.out]
        exact ⟨rfl, HB2.out⟩
end Go.Proofs.Ytdlfbpdcligecaa.OctW
