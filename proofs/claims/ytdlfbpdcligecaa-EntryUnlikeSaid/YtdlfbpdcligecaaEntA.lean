/- entry: numbers of given widths as bytes, and back. -/
import Derived.Test.YtdlfbpdcligecaaOctI
import Derived.Deep.DeepCutAuto
namespace Go.Proofs.Ytdlfbpdcligecaa.EntW
open Go.RowKit OctW OctMath
set_option maxRecDepth 100000
set_option linter.unusedSimpArgs false
set_option linter.unusedVariables false

/-- numbers and their widths, in memory -/
def Wid (w : World) (a : Option Addr) (ws : List (Nat × Int)) : Prop := ∀ i (h : i < ws.length), ∃ b off, a = some ⟨b, off, none⟩ ∧ w.cell? ⟨b, off + i * 2, none⟩ = some (.int .i64 (ws[i].1 : Int)) ∧ w.cell? ⟨b, off + i * 2 + 1, none⟩ = some (.int .i64 ws[i].2)
theorem Wid.below {w w' : World} {a : Option Addr} {ws : List (Nat × Int)} (h : Wid w a ws) (hb : Below w.heap.size w w') : Wid w' a ws := by
  intro i hi
  obtain ⟨b, off, rfl, hc, hd⟩ := h i hi
  exact ⟨b, off, rfl, by rw [hb.cell (cell_lt hc)]; exact hc, by rw [hb.cell (cell_lt hd)]; exact hd⟩
def widL (ws : List (Nat × Int)) : List UInt8 := ws.flatMap fun p => be p.1 p.2.toNat
def widOk (ws : List (Nat × Int)) : Bool := decide (∀ p ∈ ws, fits p.1 p.2)
def widW (ws : List (Nat × Int)) : List UInt8 := if widOk ws then widL ws else []
theorem widL_take (ws : List (Nat × Int)) (k : Nat) (h : k < ws.length) : widL (ws.take (k + 1)) = widL (ws.take k) ++ be ws[k].1 ws[k].2.toNat := by
  unfold widL; rw [List.take_succ_eq_append_getElem h, List.flatMap_append]; simp
theorem widL_le : ∀ (ws : List (Nat × Int)), (∀ p ∈ ws, p.1 ≤ 7) → (widL ws).length ≤ 7 * ws.length := by
  intro ws
  induction ws with
  | nil => intro _; simp [widL]
  | cons p ws ih =>
    intro h
    have h1 := h p (List.mem_cons_self ..)
    have h2 := ih (fun q hq => h q (List.mem_cons_of_mem _ hq))
    have : widL (p :: ws) = be p.1 p.2.toNat ++ widL ws := by simp [widL]
    rw [this, List.length_append, be_length, List.length_cons]; omega
theorem numsW_single (n : Nat) (x : Int) (h1 : 1 ≤ n) (h7 : n ≤ 7) : numsW (n : Int) [x] = if fits n x then (be n x.toNat, 0) else ([], 2) := by
  unfold numsW
  rw [if_neg (by omega)]
  have : (∀ y ∈ [x], fits ((n : Int)).toNat y) ↔ fits n x := by simp
  by_cases h : fits n x
  · rw [if_pos (this.2 h), if_pos h]; simp [numsL]
  · rw [if_neg (fun hh => h (this.1 hh)), if_neg h]

set_option maxHeartbeats 1600000 in
theorem put_any (a : Option Addr) (cap : Nat) (ws : List (Nat × Int)) (hl : ws.length ≤ 16) (hw : ∀ p ∈ ws, 1 ≤ p.1 ∧ p.1 ≤ 7) (hx : ∀ p ∈ ws, -9223372036854775808 ≤ p.2 ∧ p.2 ≤ 9223372036854775807) (W : World) (h : Wid W a ws) :
    Calls Try.prog 41 #[.slice a ws.length cap] W fun e w' => e = .returned (.tuple #[.string (S (widW ws)), .bool (widOk ws)]) ∧ Below W.heap.size W w' := by
  have HI := Lib.hid h
  have HW := Lib.hid hw
  have HX := Lib.hid hx
  clear h hw hx
  go_enter Try.func41, Try.ntmps41
  go_wp2_with fail
  go_loopw [4, 11] (fun s i wr => ∃ k : Nat, k ≤ ws.length ∧ i = .int .i64 k ∧ s = .string (S (widL (ws.take k))) ∧ Hid (Below W.heap.size W wr) ∧ Hid (∀ p ∈ ws.take k, fits p.1 p.2)) (fun _ i _ => ws.length - (intOf i).toNat)
  case atStart => exact ⟨0, by omega, rfl, rfl, Below.refl _ _, by simp [Hid]⟩
  case round =>
    obtain ⟨k, hk, rfl, rfl, HB, HA⟩ := hrel
    by_cases hlt : k < ws.length
    · obtain ⟨b, off, rfl, hc0, hc1⟩ := HI.out k hlt
      rw [← HB.out.cell (cell_lt hc0)] at hc0
      rw [← HB.out.cell (cell_lt hc1)] at hc1
      have hwk := HW.out ws[k] (by simp)
      have hxk := HX.out ws[k] (by simp)
      have hnl := widL_take ws k hlt
      have htk : ∀ y, y ∈ ws.take (k + 1) ↔ y ∈ ws.take k ∨ y = ws[k] := by intro y; rw [List.take_succ_eq_append_getElem hlt, List.mem_append, List.mem_singleton]
      have hmem : ws[k] ∈ ws := by simp
      have hlk := widL_le (ws.take k) (fun p hp => (HW.out p (List.mem_of_mem_take hp)).2)
      rw [List.length_take] at hlk
      generalize ws[k] = p at *
      obtain ⟨n, x⟩ := p
      simp only at *
      obtain ⟨hn1, hn7⟩ := hwk
      obtain ⟨hx0, hx1⟩ := hxk
      have HNL := Lib.hid hnl
      have HTK := Lib.hid htk
      have HMEM := Lib.hid hmem
      clear hnl htk hmem
      go_wp2_with fail
      have hints : Ints ((wr.alloc (.cells #[.int .i64 (n : Int), .int .i64 x] 80)).alloc (.cells #[.int .i64 x] 3)) (some ⟨wr.heap.size + 1, 0, none⟩) [x] := by
        intro i hi
        have : i = 0 := by simpa using hi
        subst this
        refine ⟨_, _, rfl, ?_⟩
        have := World.cell?_alloc_new (wr.alloc (.cells #[.int .i64 (n : Int), .int .i64 x] 80)) #[.int .i64 x] 3 0
        simp only [World.size_alloc] at this
        rw [this]; rfl
      have HBa : Hid (Below W.heap.size W ((wr.alloc (.cells #[.int .i64 (n : Int), .int .i64 x] 80)).alloc (.cells #[.int .i64 x] 3))) := (HB.out.alloc HB.out.size _).alloc (HB.out.alloc HB.out.size _).size _
      refine (nums_any (n : Int) (by omega) (by omega) _ 1 [x] (by simp) (fun y hy => by have : y = x := by simpa using hy
                                                                                         omega) _ hints).mono ?_
      rintro e w3 ⟨rfl, hb3⟩
      have HB3 : Hid (Below W.heap.size W w3) := HBa.out.trans (hb3.mono HBa.out.size)
      rw [numsW_single n x hn1 hn7]
      clear hb3 HB HBa hints
      by_cases hf : fits n x
      · rw [if_pos hf]
        have HF := Lib.hid hf
        have hs1 : (S (widL (ws.take k))).size ≤ 200 := by rw [S_size]; omega
        have hs2 : (S (be n x.toNat)).size ≤ 7 := by rw [S_size, be_length]; omega
        have hcat : Hid (S (widL (ws.take k)) ++ S (be n x.toNat) = S (widL (ws.take (k + 1)))) := by rw [S_append, HNL.out]; rfl
        generalize S (widL (ws.take k)) = s1 at *
        generalize S (be n x.toNat) = s2 at *
        clear hf hlk
        go_wp2_with fail
        rw [hcat.out]
        go_wp2_with fail
        go_roundw
        case rel =>
          refine ⟨k + 1, by omega, by go_num, rfl, HB3, fun y hy => ?_⟩
          rcases (HTK.out y).1 hy with hy | rfl
          · exact HA.out y hy
          · exact HF.out
        case measure => simp [intOf]; omega
      · rw [if_neg hf]
        have ho : Hid (widOk ws = false) := decide_eq_false (fun h => hf (h _ HMEM.out))
        have hw : Hid (widW ws = []) := by show _ = _; unfold widW; rw [ho.out]; rfl
        clear hf hlk
        go_wp2_with fail
        go_ret2
        rw [ho.out, hw.out]
        exact ⟨rfl, HB3.out⟩
    · have ek : k = ws.length := by omega
      subst ek
      rw [List.take_length] at HA
      rw [List.take_length]
      have ho : Hid (widOk ws = true) := decide_eq_true HA.out
      have hw : Hid (widW ws = widL ws) := by show _ = _; unfold widW; rw [ho.out]; rfl
      go_wp2_with fail
      go_ret2
      rw [ho.out, hw.out]
      exact ⟨rfl, HB.out⟩

def placeWs (a b c d : Int) : List (Nat × Int) := [(6, a), (2, b), (5, c), (7, d)]
set_option maxHeartbeats 800000 in
theorem place_put (a b c d : Int) (ha : -9223372036854775808 ≤ a ∧ a ≤ 9223372036854775807) (hb : -9223372036854775808 ≤ b ∧ b ≤ 9223372036854775807) (hc : -9223372036854775808 ≤ c ∧ c ≤ 9223372036854775807) (hd : -9223372036854775808 ≤ d ∧ d ≤ 9223372036854775807) (W : World) :
    Calls Try.prog 13 #[.agg #[.int .i64 a, .int .i64 b, .int .i64 c, .int .i64 d]] W fun e w' => e = .returned (.tuple #[.string (S (widW (placeWs a b c d))), .bool (widOk (placeWs a b c d))]) ∧ Below W.heap.size W w' := by
  have HX : Hid (∀ p ∈ placeWs a b c d, -9223372036854775808 ≤ p.2 ∧ p.2 ≤ 9223372036854775807) := by
    intro p hp
    simp only [placeWs, List.mem_cons, List.not_mem_nil, or_false] at hp
    rcases hp with rfl | rfl | rfl | rfl <;> assumption
  clear ha hb hc hd
  go_enter Try.func13, Try.ntmps13
  go_wp2_with fail
  generalize hw1 : (W.alloc (.cells #[.int .i64 a, .int .i64 b, .int .i64 c, .int .i64 d] 23)) = w1 at *
  have hz : w1.heap.size = W.heap.size + 1 := by rw [← hw1]; simp
  have HB : Hid (Below W.heap.size W w1) := by rw [← hw1]; exact (Below.refl _ W).alloc (Nat.le_refl _) _
  clear hw1
  rw [← hz]
  have hwid : Wid (w1.alloc (.cells #[.int .i64 6, .int .i64 a, .int .i64 2, .int .i64 b, .int .i64 5, .int .i64 c, .int .i64 7, .int .i64 d] 80)) (some ⟨w1.heap.size, 0, none⟩) (placeWs a b c d) := by
    intro i hi
    have hi : i < 4 := hi
    refine ⟨_, _, rfl, ?_, ?_⟩
    · rw [World.cell?_alloc_new]
      match i, hi with
      | 0, _ => rfl
      | 1, _ => rfl
      | 2, _ => rfl
      | 3, _ => rfl
    · rw [World.cell?_alloc_new]
      match i, hi with
      | 0, _ => rfl
      | 1, _ => rfl
      | 2, _ => rfl
      | 3, _ => rfl
  have HB2 : Hid (Below W.heap.size W (w1.alloc (.cells #[.int .i64 6, .int .i64 a, .int .i64 2, .int .i64 b, .int .i64 5, .int .i64 c, .int .i64 7, .int .i64 d] 80))) := HB.out.alloc HB.out.size _
  refine (put_any _ 4 (placeWs a b c d) (by simp [placeWs]) (by intro p hp; simp only [placeWs, List.mem_cons, List.not_mem_nil, or_false] at hp; rcases hp with rfl | rfl | rfl | rfl <;> exact ⟨by simp, by simp⟩) HX.out _ hwid).mono ?_
  clear hwid
  rintro e w2 ⟨rfl, hb2⟩
  have HB3 : Hid (Below W.heap.size W w2) := HB2.out.trans (hb2.mono HB2.out.size)
  go_wp2_with fail
  go_ret2
  exact ⟨rfl, HB3.out⟩

def linkWs (a b c d : Int) : List (Nat × Int) := [(5, a), (6, b), (6, c), (3, d)]
set_option maxHeartbeats 800000 in
theorem link_put (a b c d : Int) (ha : -9223372036854775808 ≤ a ∧ a ≤ 9223372036854775807) (hb : -9223372036854775808 ≤ b ∧ b ≤ 9223372036854775807) (hc : -9223372036854775808 ≤ c ∧ c ≤ 9223372036854775807) (hd : -9223372036854775808 ≤ d ∧ d ≤ 9223372036854775807) (W : World) :
    Calls Try.prog 31 #[.agg #[.int .i64 a, .int .i64 b, .int .i64 c, .int .i64 d]] W fun e w' => e = .returned (.tuple #[.string (S (widW (linkWs a b c d))), .bool (widOk (linkWs a b c d))]) ∧ Below W.heap.size W w' := by
  have HX : Hid (∀ p ∈ linkWs a b c d, -9223372036854775808 ≤ p.2 ∧ p.2 ≤ 9223372036854775807) := by
    intro p hp
    simp only [linkWs, List.mem_cons, List.not_mem_nil, or_false] at hp
    rcases hp with rfl | rfl | rfl | rfl <;> assumption
  clear ha hb hc hd
  go_enter Try.func31, Try.ntmps31
  go_wp2_with fail
  generalize hw1 : (W.alloc (.cells #[.int .i64 a, .int .i64 b, .int .i64 c, .int .i64 d] 56)) = w1 at *
  have hz : w1.heap.size = W.heap.size + 1 := by rw [← hw1]; simp
  have HB : Hid (Below W.heap.size W w1) := by rw [← hw1]; exact (Below.refl _ W).alloc (Nat.le_refl _) _
  clear hw1
  rw [← hz]
  have hwid : Wid (w1.alloc (.cells #[.int .i64 5, .int .i64 a, .int .i64 6, .int .i64 b, .int .i64 6, .int .i64 c, .int .i64 3, .int .i64 d] 80)) (some ⟨w1.heap.size, 0, none⟩) (linkWs a b c d) := by
    intro i hi
    have hi : i < 4 := hi
    refine ⟨_, _, rfl, ?_, ?_⟩
    · rw [World.cell?_alloc_new]
      match i, hi with
      | 0, _ => rfl
      | 1, _ => rfl
      | 2, _ => rfl
      | 3, _ => rfl
    · rw [World.cell?_alloc_new]
      match i, hi with
      | 0, _ => rfl
      | 1, _ => rfl
      | 2, _ => rfl
      | 3, _ => rfl
  have HB2 : Hid (Below W.heap.size W (w1.alloc (.cells #[.int .i64 5, .int .i64 a, .int .i64 6, .int .i64 b, .int .i64 6, .int .i64 c, .int .i64 3, .int .i64 d] 80))) := HB.out.alloc HB.out.size _
  refine (put_any _ 4 (linkWs a b c d) (by simp [linkWs]) (by intro p hp; simp only [linkWs, List.mem_cons, List.not_mem_nil, or_false] at hp; rcases hp with rfl | rfl | rfl | rfl <;> exact ⟨by simp, by simp⟩) HX.out _ hwid).mono ?_
  clear hwid
  rintro e w2 ⟨rfl, hb2⟩
  have HB3 : Hid (Below W.heap.size W w2) := HB2.out.trans (hb2.mono HB2.out.size)
  go_wp2_with fail
  go_ret2
  exact ⟨rfl, HB3.out⟩

def markWs (a b c d : Int) : List (Nat × Int) := [(6, a), (6, b), (6, c), (2, d)]
set_option maxHeartbeats 800000 in
theorem mark_put (a b c d : Int) (ha : -9223372036854775808 ≤ a ∧ a ≤ 9223372036854775807) (hb : -9223372036854775808 ≤ b ∧ b ≤ 9223372036854775807) (hc : -9223372036854775808 ≤ c ∧ c ≤ 9223372036854775807) (hd : -9223372036854775808 ≤ d ∧ d ≤ 9223372036854775807) (W : World) :
    Calls Try.prog 14 #[.agg #[.int .i64 a, .int .i64 b, .int .i64 c, .int .i64 d]] W fun e w' => e = .returned (.tuple #[.string (S (widW (markWs a b c d))), .bool (widOk (markWs a b c d))]) ∧ Below W.heap.size W w' := by
  have HX : Hid (∀ p ∈ markWs a b c d, -9223372036854775808 ≤ p.2 ∧ p.2 ≤ 9223372036854775807) := by
    intro p hp
    simp only [markWs, List.mem_cons, List.not_mem_nil, or_false] at hp
    rcases hp with rfl | rfl | rfl | rfl <;> assumption
  clear ha hb hc hd
  go_enter Try.func14, Try.ntmps14
  go_wp2_with fail
  generalize hw1 : (W.alloc (.cells #[.int .i64 a, .int .i64 b, .int .i64 c, .int .i64 d] 26)) = w1 at *
  have hz : w1.heap.size = W.heap.size + 1 := by rw [← hw1]; simp
  have HB : Hid (Below W.heap.size W w1) := by rw [← hw1]; exact (Below.refl _ W).alloc (Nat.le_refl _) _
  clear hw1
  rw [← hz]
  have hwid : Wid (w1.alloc (.cells #[.int .i64 6, .int .i64 a, .int .i64 6, .int .i64 b, .int .i64 6, .int .i64 c, .int .i64 2, .int .i64 d] 80)) (some ⟨w1.heap.size, 0, none⟩) (markWs a b c d) := by
    intro i hi
    have hi : i < 4 := hi
    refine ⟨_, _, rfl, ?_, ?_⟩
    · rw [World.cell?_alloc_new]
      match i, hi with
      | 0, _ => rfl
      | 1, _ => rfl
      | 2, _ => rfl
      | 3, _ => rfl
    · rw [World.cell?_alloc_new]
      match i, hi with
      | 0, _ => rfl
      | 1, _ => rfl
      | 2, _ => rfl
      | 3, _ => rfl
  have HB2 : Hid (Below W.heap.size W (w1.alloc (.cells #[.int .i64 6, .int .i64 a, .int .i64 6, .int .i64 b, .int .i64 6, .int .i64 c, .int .i64 2, .int .i64 d] 80))) := HB.out.alloc HB.out.size _
  refine (put_any _ 4 (markWs a b c d) (by simp [markWs]) (by intro p hp; simp only [markWs, List.mem_cons, List.not_mem_nil, or_false] at hp; rcases hp with rfl | rfl | rfl | rfl <;> exact ⟨by simp, by simp⟩) HX.out _ hwid).mono ?_
  clear hwid
  rintro e w2 ⟨rfl, hb2⟩
  have HB3 : Hid (Below W.heap.size W w2) := HB2.out.trans (hb2.mono HB2.out.size)
  go_wp2_with fail
  go_ret2
  exact ⟨rfl, HB3.out⟩
end Go.Proofs.Ytdlfbpdcligecaa.EntW
