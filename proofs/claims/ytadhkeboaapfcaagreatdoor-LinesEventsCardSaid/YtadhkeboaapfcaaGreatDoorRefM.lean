/- reveilleref30.Digits: the decimal digits of a number. -/
import Derived.Test.YtadhkeboaapfcaaGreatDoorWordC
import Derived.Lib.ItoaLen
import Derived.Test.YtadhkeboaapfcaaGreatDoorEvG
import Derived.Test.YtadhkeboaapfcaaGreatDoorReadMath
import Derived.Test.YtadhkeboaapfcaaGreatDoorSeqM
namespace Go.Proofs.YtadhkeboaapfcaaGreatDoor.EvW
open Go.RowKit OctMath NameMath
set_option linter.unusedVariables false
set_option linter.unusedSimpArgs false
set_option maxRecDepth 100000

theorem cut_ten (n : Nat) (h : n < 10) : (⟨#[48, 49, 50, 51, 52, 53, 54, 55, 56, 57]⟩ : ByteArray).extract n (n + 1) = S [UInt8.ofNat (48 + n)] := by
  have : n = 0 ∨ n = 1 ∨ n = 2 ∨ n = 3 ∨ n = 4 ∨ n = 5 ∨ n = 6 ∨ n = 7 ∨ n = 8 ∨ n = 9 := by omega
  rcases this with rfl | rfl | rfl | rfl | rfl | rfl | rfl | rfl | rfl | rfl <;> rfl
theorem dec_len (u : Nat) (h : u ≤ 9223372036854775808) : (Lib.decDigits u).length ≤ 20 := by
  rw [Lib.decDigits_length]; exact Lib.nDigits_le20 u (by omega)
set_option maxHeartbeats 3200000 in
theorem digits_pos : ∀ (n u : Nat), u ≤ n → u ≤ 9223372036854775807 → ∀ w : World, Calls Tryz.prog 17 #[.int .i64 (u : Int)] w fun e w' => e = .returned (.string (S (Lib.decDigits u))) ∧ w' = w := by
  intro n
  induction n with
  | zero =>
    intro u hu hb w
    obtain rfl : u = 0 := by omega
    have HR : Hid (S (Lib.decDigits 0) = S [48]) := by show _ = _; rw [Lib.decDigits_one (by omega)]; rfl
    go_enter Tryz.func17, Tryz.ntmps17
    go_wp2_with fail
    go_ret
    rw [HR.out]
    exact ⟨rfl, rfl⟩
  | succ n ih =>
    intro u hu hb w
    have IH := Lib.hid ih
    clear ih
    have hm : ((u : Int) % 10) = ((u % 10 : Nat) : Int) := by omega
    have hm2 : Int.tmod (u : Int) 10 = ((u % 10 : Nat) : Int) := by rw [Int.tmod_eq_emod_of_nonneg (by omega)]; omega
    have hq1 : ((u : Int) / 10) = ((u / 10 : Nat) : Int) := by omega
    have hq2 : Int.tdiv (u : Int) 10 = ((u / 10 : Nat) : Int) := by rw [Int.tdiv_eq_ediv_of_nonneg (by omega)]; omega
    have hm10 : u % 10 < 10 := by omega
    have HC := Lib.hid (cut_ten (u % 10) hm10)
    by_cases h10 : u < 10
    · have HR : Hid (S (Lib.decDigits u) = S [UInt8.ofNat (48 + u % 10)]) := by show _ = _; rw [Lib.decDigits_one h10, show u % 10 = u by omega]
      go_enter Tryz.func17, Tryz.ntmps17
      generalize u % 10 = d at *
      go_wp2_with fail
      go_ret
      rw [HR.out, ← HC.out]
      exact ⟨rfl, rfl⟩
    · have HR : Hid (S (Lib.decDigits u) = S (Lib.decDigits (u / 10)) ++ S [UInt8.ofNat (48 + u % 10)]) := by
        show _ = _
        rw [S_append]
        conv => lhs; rw [Lib.decDigits, dif_neg h10]
      have hl : (S (Lib.decDigits (u / 10))).size ≤ 20 := by rw [S_size]; exact dec_len _ (by omega)
      have hq : u / 10 ≤ n := by omega
      have hqb : u / 10 ≤ 9223372036854775807 := by omega
      have HI := Lib.hid (IH.out (u / 10) hq hqb)
      clear IH hq hqb
      go_enter Tryz.func17, Tryz.ntmps17
      obtain ⟨X, hX⟩ : ∃ X, (⟨#[48, 49, 50, 51, 52, 53, 54, 55, 56, 57]⟩ : ByteArray).extract (u % 10) (u % 10 + 1) = X := ⟨_, rfl⟩
      have hXs : X.size ≤ 1 := by rw [← hX, HC.out, S_size]; simp
      have hXS : Hid (S [UInt8.ofNat (48 + u % 10)] = X) := HC.out.symm.trans hX
      rw [hXS.out] at HR
      clear HC hXS
      generalize Lib.decDigits (u / 10) = dl at *
      generalize u % 10 = d at *
      generalize u / 10 = q at *
      go_wp2_with fail
      refine (HI.out _).mono ?_
      rintro e w2 ⟨rfl, rfl⟩
      go_wp2_with fail
      go_ret
      rw [HR.out]
      exact ⟨rfl, rfl⟩
set_option maxHeartbeats 3200000 in
theorem digits_neg : ∀ (n u : Nat), u ≤ n → 1 ≤ u → u ≤ 9223372036854775808 → ∀ w : World, Calls Tryz.prog 17 #[.int .i64 (-(u : Int))] w fun e w' => e = .returned (.string (S (45 :: Lib.decDigits u))) ∧ w' = w := by
  intro n
  induction n with
  | zero =>
    intro u hu h1 hb w
    omega
  | succ n ih =>
    intro u hu h1 hb w
    have IH := Lib.hid ih
    clear ih
    have hm2 : Int.tmod (-(u : Int)) 10 = -((u % 10 : Nat) : Int) := by rw [Int.neg_tmod, Int.tmod_eq_emod_of_nonneg (by omega)]; omega
    have hq2 : Int.tdiv (-(u : Int)) 10 = -((u / 10 : Nat) : Int) := by rw [Int.neg_tdiv, Int.tdiv_eq_ediv_of_nonneg (by omega)]; omega
    have hm10 : u % 10 < 10 := by omega
    have hdd : ∀ d : Nat, (1 - (-(d : Int))) = ((d + 1 : Nat) : Int) := fun d => by omega
    have HC := Lib.hid (cut_ten (u % 10) hm10)
    obtain ⟨X, hX⟩ : ∃ X, (⟨#[48, 49, 50, 51, 52, 53, 54, 55, 56, 57]⟩ : ByteArray).extract (u % 10) (u % 10 + 1) = X := ⟨_, rfl⟩
    have hXs : X.size ≤ 1 := by rw [← hX, HC.out, S_size]; simp
    have hXS : Hid (S [UInt8.ofNat (48 + u % 10)] = X) := HC.out.symm.trans hX
    have hd10 : u % 10 ≤ u := Nat.mod_le _ _
    by_cases h10 : u < 10
    · have HR : Hid (S (45 :: Lib.decDigits u) = ⟨#[45]⟩ ++ X) := by
        show _ = _
        rw [Lib.decDigits_one h10, ← hXS.out, show u % 10 = u by omega]
        exact (S_append [45] _).symm
      clear HC hXS IH
      go_enter Tryz.func17, Tryz.ntmps17
      generalize u % 10 = d at *
      go_wp2_with fail
      go_ret
      rw [HR.out]
      exact ⟨rfl, rfl⟩
    · have HR : Hid (S (45 :: Lib.decDigits u) = S (45 :: Lib.decDigits (u / 10)) ++ X) := by
        show _ = _
        rw [← hXS.out, S_append]
        conv => lhs; rw [Lib.decDigits, dif_neg h10]
        rfl
      have hl : (S (45 :: Lib.decDigits (u / 10))).size ≤ 21 := by rw [S_size, List.length_cons]; have := dec_len (u / 10) (by omega); omega
      have hq : u / 10 ≤ n := by omega
      have hq0 : 1 ≤ u / 10 := by omega
      have hqb : u / 10 ≤ 9223372036854775808 := by omega
      have HI := Lib.hid (IH.out (u / 10) hq hq0 hqb)
      clear IH HC hXS
      go_enter Tryz.func17, Tryz.ntmps17
      generalize Lib.decDigits (u / 10) = dl at *
      generalize u % 10 = d at *
      generalize u / 10 = q at *
      go_wp2_with fail
      refine (HI.out _).mono ?_
      rintro e w2 ⟨rfl, rfl⟩
      go_wp2_with fail
      go_ret
      rw [HR.out]
      exact ⟨rfl, rfl⟩
theorem digits_any (n : Int) (h0 : -9223372036854775808 ≤ n) (h1 : n ≤ 9223372036854775807) (w : World) : Calls Tryz.prog 17 #[.int .i64 n] w fun e w' => e = .returned (.string (S (Lib.itoa n))) ∧ w' = w := by
  by_cases h : n < 0
  · obtain ⟨u, rfl⟩ : ∃ u : Nat, n = -(u : Int) := ⟨n.natAbs, by omega⟩
    have e : Lib.itoa (-(u : Int)) = 45 :: Lib.decDigits u := by unfold Lib.itoa; rw [if_pos h]; simp
    rw [e]
    exact digits_neg u u (Nat.le_refl _) (by omega) (by omega) w
  · obtain ⟨u, rfl⟩ : ∃ u : Nat, n = u := ⟨n.toNat, by omega⟩
    have e : Lib.itoa (u : Int) = Lib.decDigits u := by unfold Lib.itoa; rw [if_neg h, Int.toNat_natCast]
    rw [e]
    exact digits_pos u u (Nat.le_refl _) (by omega) w
end Go.Proofs.YtadhkeboaapfcaaGreatDoor.EvW
namespace Go.Proofs.YtadhkeboaapfcaaGreatDoor.EvW
open Go.RowKit OctMath NameMath HexMath
set_option linter.unusedVariables false
set_option linter.unusedSimpArgs false
set_option maxRecDepth 100000

set_option maxHeartbeats 1600000 in
theorem tag30_any (l : List UInt8) (w : World) : Calls Tryz.prog 28 #[.string (S l)] w fun e w' => e = .returned (.string (S (if l.isEmpty then [46] else l))) ∧ w' = w := by
  have htl := NameW.S_toList l
  by_cases h0 : l = []
  · subst h0
    go_enter Tryz.func28, Tryz.ntmps28
    go_wp2_with fail
    go_ret
    exact ⟨rfl, rfl⟩
  · have hb : (l == []) = false := by simp [h0]
    have hem : l.isEmpty = false := by cases l with | nil => exact absurd rfl h0 | cons _ _ => rfl
    rw [hem]
    clear hem
    go_enter Tryz.func28, Tryz.ntmps28
    go_wp2_with fail
    go_ret
    exact ⟨rfl, rfl⟩
theorem tail_snoc (sep y : List UInt8) : ∀ r : List (List UInt8), Lib.joinTail sep (r ++ [y]) = Lib.joinTail sep r ++ (sep ++ y)
  | [] => by show Lib.joinTail sep [y] = _; rw [join_tail_cons]; simp [Lib.joinTail]
  | x :: r => by rw [List.cons_append, join_tail_cons, join_tail_cons, tail_snoc sep y r]; simp [List.append_assoc]
theorem join_snoc (sep x y : List UInt8) (r : List (List UInt8)) : Lib.join ((x :: r) ++ [y]) sep = Lib.join (x :: r) sep ++ (sep ++ y) := by
  rw [List.cons_append, Lib.join_cons, Lib.join_cons, tail_snoc, List.append_assoc]
theorem take_one {α : Type} (x : α) (r : List α) (k : Nat) : (x :: r).take (k + 1) = x :: r.take k := rfl
/-- cutting at k, k ≥ 1: the first is there -/
theorem join_step (sep : List UInt8) (ws : List (List UInt8)) (k : Nat) (h1 : 1 ≤ k) (hk : k < ws.length) : Lib.join (ws.take (k + 1)) sep = Lib.join (ws.take k) sep ++ (sep ++ ws[k]) := by
  rw [List.take_succ_eq_append_getElem hk]
  cases ws with
  | nil => exact absurd hk (by simp)
  | cons x r =>
    obtain ⟨j, rfl⟩ : ∃ j, k = j + 1 := ⟨k - 1, by omega⟩
    rw [take_one]
    exact join_snoc sep x _ _
set_option maxHeartbeats 3200000 in
theorem keys30_any (a : Option Addr) (cap : Nat) (ks : List (List UInt8)) (hx : ks.length ≤ 20) (hl : ∀ t ∈ ks, t.length ≤ 1000) (W : World) (h : Strs W a (ks.map S)) :
    Calls Tryz.prog 29 #[.slice a ks.length cap] W fun e w' => e = .returned (.string (S (keysL ks))) ∧ Drawn W w' := by
  have HH := Lib.hid (row_strs h)
  have HL := Lib.hid hl
  clear h hl
  by_cases h0 : ks = []
  · subst h0
    go_enter Tryz.func29, Tryz.ntmps29
    go_wp2_with fail
    go_ret
    exact ⟨rfl, Drawn.refl _⟩
  have hk0 : 0 < ks.length := List.length_pos_iff.2 h0
  have HK : Hid (keysL ks = Lib.join (ks.map hexL) [44]) := by show _ = _; unfold keysL; rw [if_neg h0]
  obtain ⟨b, off, rfl, hc0⟩ := HH.out 0 (by rw [List.length_map]; exact hk0)
  rw [List.getElem_map, Nat.add_zero] at hc0
  have hl0 := HL.out ks[0] (List.getElem_mem hk0)
  have HX0 := Lib.hid (fun w => LinW.rhex_any ks[0] (by omega) w)
  have HJ1 : Hid (Lib.join ((ks.map hexL).take 1) [44] = hexL ks[0]) := by
    show _ = _
    cases ks with
    | nil => exact absurd rfl h0
    | cons x r => show Lib.join [hexL x] [44] = _; rw [Lib.join_cons]; simp [Lib.joinTail]
  have hne : (ks.length : Int) ≠ 0 := by omega
  have HB : Hid (∀ k, k ≤ ks.length → (Lib.join ((ks.map hexL).take k) [44]).length ≤ 50000) := fun k hk => by
    have := join_len ((ks.map hexL).take k) [44] 2001 (fun t ht => by
      obtain ⟨x, hx, rfl⟩ := List.mem_map.1 (List.mem_of_mem_take ht)
      have h1 := HL.out x hx
      have h2 := hexL_len x
      omega)
    have h2 : ((ks.map hexL).take k).length ≤ 20 := by rw [List.length_take, List.length_map]; omega
    have h3 := Nat.mul_le_mul_right (2001 + ([44] : List UInt8).length) h2
    simp only [List.length_cons, List.length_nil] at *
    omega
  generalize ks[0] = k0 at *
  go_enter Tryz.func29, Tryz.ntmps29
  go_wp2_with fail
  refine (HX0.out _).mono ?_
  rintro e w1 ⟨rfl, hd⟩
  have HD1 := Lib.hid hd
  rw [← HJ1.out]
  clear hd hc0 HX0 HJ1
  go_wp2_with fail
  go_loopw [3, 4] (fun s i wr => ∃ k : Nat, 1 ≤ k ∧ k ≤ ks.length ∧ i = .int .i64 (k : Int) ∧ s = .string (S (Lib.join ((ks.map hexL).take k) [44])) ∧ Hid (Drawn W wr)) (fun _ i _ => ks.length + 1 - (intOf i).toNat)
  case atStart => exact ⟨1, by omega, by omega, rfl, rfl, HD1⟩
  case round =>
    obtain ⟨k, hk1, hk, rfl, rfl, HD⟩ := hrel
    by_cases hlt : k < ks.length
    · obtain ⟨b', off', hbo, hc⟩ := HH.out k (by rw [List.length_map]; exact hlt)
      cases hbo
      rw [List.getElem_map, ← HD.out.cell] at hc
      have hkm : k < (ks.map hexL).length := by rw [List.length_map]; exact hlt
      have hst := join_step [44] (ks.map hexL) k hk1 hkm
      rw [List.getElem_map] at hst
      have hb1 := HB.out k hk
      have hlk := HL.out ks[k] (List.getElem_mem hlt)
      have hhl := hexL_len ks[k]
      have HC := Lib.hid (fun w => LinW.rhex_any ks[k] (by omega) w)
      generalize ks[k] = x at *
      have HST : Hid (S (Lib.join ((ks.map hexL).take (k + 1)) [44]) = (S (Lib.join ((ks.map hexL).take k) [44]) ++ ⟨#[44]⟩) ++ S (hexL x)) := by
        show _ = _
        rw [hst, ← List.append_assoc]
        show _ = (S _ ++ S [44]) ++ _
        rw [S_append, S_append]
      have hs1 : (S (Lib.join ((ks.map hexL).take k) [44])).size ≤ 50000 := by rw [S_size]; exact hb1
      have hs2 : (S (hexL x)).size ≤ 2001 := by rw [S_size]; omega
      clear hst hb1 hhl
      generalize hexL x = hxl at *
      generalize Lib.join ((ks.map hexL).take k) [44] = jl at *
      go_wp2_with fail
      refine (HC.out _).mono ?_
      rintro e w2 ⟨rfl, hd⟩
      have HD2 := Lib.hid (HD.out.trans hd)
      clear hd HD
      go_wp2_with fail
      go_roundw
      case rel => exact ⟨k + 1, by omega, by omega, by go_num, by rw [HST.out], HD2⟩
      case measure => simp [intOf]; omega
    · obtain rfl : k = ks.length := by omega
      have hlm : (ks.map hexL).length = ks.length := List.length_map _
      rw [← hlm, List.take_length, ← HK.out]
      go_wp2_with fail
      go_ret
      exact ⟨rfl, HD.out⟩

set_option maxHeartbeats 3200000 in
theorem bits30_any (a : Option Addr) (cap : Nat) (bs : List Bool) (hx : bs.length ≤ 200) (W : World) (h : Row1 W a (bs.map .bool)) :
    Calls Tryz.prog 31 #[.slice a bs.length cap] W fun e w' => e = .returned (.string (S (bitsL bs))) ∧ Drawn W w' := by
  have HH := Lib.hid h
  clear h
  by_cases h0 : bs = []
  · subst h0
    go_enter Tryz.func31, Tryz.ntmps31
    go_wp2_with fail
    go_ret
    exact ⟨rfl, Drawn.refl _⟩
  have hk0 : 0 < bs.length := List.length_pos_iff.2 h0
  have HK : Hid (bitsL bs = bs.map fun b => if b then 49 else 48) := by show _ = _; unfold bitsL; rw [if_neg h0]; rfl
  have hne : (bs.length : Int) ≠ 0 := by omega
  go_enter Tryz.func31, Tryz.ntmps31
  go_wp2_with fail
  go_loopw [3, 4] (fun s i wr => ∃ k : Nat, k ≤ bs.length ∧ i = .int .i64 (k : Int) ∧ s = .string (S ((bs.take k).map fun b => if b then 49 else 48)) ∧ Hid (Drawn W wr)) (fun _ i _ => bs.length + 1 - (intOf i).toNat)
  case atStart => exact ⟨0, by omega, rfl, rfl, Drawn.refl _⟩
  case round =>
    obtain ⟨k, hk, rfl, rfl, HD⟩ := hrel
    by_cases hlt : k < bs.length
    · obtain ⟨b', off', rfl, hc⟩ := HH.out k (by rw [List.length_map]; exact hlt)
      rw [List.getElem_map, ← HD.out.cell] at hc
      have hst : bs.take (k + 1) = bs.take k ++ [bs[k]] := List.take_succ_eq_append_getElem hlt
      generalize bs[k] = x at *
      have HST : Hid (S ((bs.take (k + 1)).map fun b => if b then 49 else 48) = S ((bs.take k).map fun b => if b then 49 else 48) ++ S [if x then 49 else 48]) := by
        show _ = _
        rw [hst, List.map_append, S_append]; rfl
      have hs1 : (S ((bs.take k).map fun b => if b then (49 : UInt8) else 48)).size ≤ 200 := by rw [S_size, List.length_map, List.length_take]; omega
      clear hst
      generalize S ((bs.take k).map fun b => if b then (49 : UInt8) else 48) = sl at *
      cases x
      all_goals
        go_wp2_with fail
        go_roundw
        case rel => exact ⟨k + 1, by omega, by go_num, by rw [HST.out]; rfl, HD⟩
        case measure => simp [intOf]; omega
    · obtain rfl : k = bs.length := by omega
      rw [List.take_length, ← HK.out]
      go_wp2_with fail
      go_ret
      exact ⟨rfl, HD.out⟩
set_option maxHeartbeats 3200000 in
theorem filt30_any (a : Option Addr) (cap : Nat) (ts : List (List UInt8)) (hx : ts.length ≤ 20) (hl : ∀ t ∈ ts, t.length ≤ 1000) (W : World) (h : Strs W a (ts.map S)) :
    Calls Tryz.prog 30 #[.slice a ts.length cap] W fun e w' => e = .returned (.string (S (textL ts))) ∧ Drawn W w' := by
  have HH := Lib.hid (row_strs h)
  have HL := Lib.hid hl
  clear h hl
  by_cases h0 : ts = []
  · subst h0
    go_enter Tryz.func30, Tryz.ntmps30
    go_wp2_with fail
    go_ret
    exact ⟨rfl, Drawn.refl _⟩
  have hk0 : 0 < ts.length := List.length_pos_iff.2 h0
  have HK : Hid (textL ts = Lib.join ts [32, 124, 124, 32]) := by show _ = _; unfold textL; rw [if_neg h0]
  obtain ⟨b, off, rfl, hc0⟩ := HH.out 0 (by rw [List.length_map]; exact hk0)
  rw [List.getElem_map, Nat.add_zero] at hc0
  have HJ1 : Hid (Lib.join (ts.take 1) [32, 124, 124, 32] = ts[0]) := by
    show _ = _
    cases ts with
    | nil => exact absurd rfl h0
    | cons x r => show Lib.join [x] _ = _; rw [Lib.join_cons]; simp [Lib.joinTail]
  have hne : (ts.length : Int) ≠ 0 := by omega
  have HB : Hid (∀ k, k ≤ ts.length → (Lib.join (ts.take k) [32, 124, 124, 32]).length ≤ 50000) := fun k hk => by
    have := join_len (ts.take k) [32, 124, 124, 32] 1000 (fun t ht => HL.out t (List.mem_of_mem_take ht))
    have h2 : (ts.take k).length ≤ 20 := by rw [List.length_take]; omega
    have h3 := Nat.mul_le_mul_right (1000 + ([32, 124, 124, 32] : List UInt8).length) h2
    simp only [List.length_cons, List.length_nil] at *
    omega
  rw [← HJ1.out] at hc0
  go_enter Tryz.func30, Tryz.ntmps30
  clear HJ1
  go_wp2_with fail
  go_loopw [3, 4] (fun s i wr => ∃ k : Nat, 1 ≤ k ∧ k ≤ ts.length ∧ i = .int .i64 (k : Int) ∧ s = .string (S (Lib.join (ts.take k) [32, 124, 124, 32])) ∧ Hid (Drawn W wr)) (fun _ i _ => ts.length + 1 - (intOf i).toNat)
  case atStart => exact ⟨1, by omega, by omega, rfl, rfl, Drawn.refl _⟩
  case round =>
    obtain ⟨k, hk1, hk, rfl, rfl, HD⟩ := hrel
    clear hc0
    by_cases hlt : k < ts.length
    · obtain ⟨b', off', hbo, hc⟩ := HH.out k (by rw [List.length_map]; exact hlt)
      cases hbo
      rw [List.getElem_map, ← HD.out.cell] at hc
      have hst := join_step [32, 124, 124, 32] ts k hk1 hlt
      have hb1 := HB.out k hk
      have hlk := HL.out ts[k] (List.getElem_mem hlt)
      generalize ts[k] = x at *
      have HST : Hid (S (Lib.join (ts.take (k + 1)) [32, 124, 124, 32]) = (S (Lib.join (ts.take k) [32, 124, 124, 32]) ++ ⟨#[32, 124, 124, 32]⟩) ++ S x) := by
        show _ = _
        rw [hst, ← List.append_assoc]
        show _ = (S _ ++ S [32, 124, 124, 32]) ++ _
        rw [S_append, S_append]
      have hs1 : (S (Lib.join (ts.take k) [32, 124, 124, 32])).size ≤ 50000 := by rw [S_size]; exact hb1
      have hs2 : (S x).size ≤ 1000 := by rw [S_size]; omega
      clear hst hb1
      generalize Lib.join (ts.take k) [32, 124, 124, 32] = jl at *
      go_wp2_with fail
      go_roundw
      case rel => exact ⟨k + 1, by omega, by omega, by go_num, by rw [HST.out], HD⟩
      case measure => simp [intOf]; omega
    · obtain rfl : k = ts.length := by omega
      rw [List.take_length, ← HK.out]
      go_wp2_with fail
      go_ret
      exact ⟨rfl, HD.out⟩
set_option maxHeartbeats 1600000 in
theorem small_any (a : Option Addr) (cap : Nat) (xs : List Int) (hx : xs.length ≤ 1048576) (W : World) (h : Row1 W a (xs.map fun x => .int .i64 x)) :
    Calls Tryz.prog 25 #[.slice a xs.length cap] W fun e w' => e = .returned (.bool (!xs.any badN)) ∧ Drawn W w' := by
  have HH := Lib.hid h
  clear h
  go_enter Tryz.func25, Tryz.ntmps25
  go_wp2_with fail
  go_loopw [7] (fun i wr => ∃ k : Nat, k ≤ xs.length ∧ i = .int .i64 (k : Int) ∧ Hid ((xs.take k).any badN = false) ∧ Hid (Drawn W wr)) (fun i _ => xs.length + 1 - (intOf i).toNat)
  case atStart => exact ⟨0, by omega, rfl, rfl, Drawn.refl _⟩
  case round =>
    obtain ⟨k, hk, rfl, HA, HD⟩ := hrel
    by_cases hlt : k < xs.length
    · obtain ⟨b, off, rfl, hcell⟩ := HH.out k (by rw [List.length_map]; exact hlt)
      rw [← HD.out.cell, List.getElem_map] at hcell
      have hstep : (xs.take (k + 1)).any badN = ((xs.take k).any badN || badN xs[k]) := by rw [List.take_succ_eq_append_getElem hlt, List.any_append, List.any_cons, List.any_nil, Bool.or_false]
      have hmem : badN xs[k] = true → xs.any badN = true := fun h => by rw [List.any_eq_true]; exact ⟨xs[k], List.getElem_mem hlt, h⟩
      have hbd : badN xs[k] = (decide (xs[k] < -1099511627776) || decide (1099511627776 < xs[k])) := rfl
      generalize xs[k] = x at *
      have HST := Lib.hid hstep
      have HMEM := Lib.hid hmem
      have HBD := Lib.hid hbd
      clear hstep hmem hbd
      by_cases h1 : x < -1099511627776
      · have HT : Hid (xs.any badN = true) := HMEM.out (by rw [HBD.out, decide_eq_true h1]; rfl)
        go_wp2_with fail
        go_ret
        rw [HT.out]
        exact ⟨rfl, HD.out⟩
      by_cases h2 : 1099511627776 < x
      · have HT : Hid (xs.any badN = true) := HMEM.out (by rw [HBD.out, decide_eq_true h2, Bool.or_true])
        go_wp2_with fail
        go_ret
        rw [HT.out]
        exact ⟨rfl, HD.out⟩
      have HT : Hid ((xs.take (k + 1)).any badN = false) := by show _ = _; rw [HST.out, HA.out, HBD.out, decide_eq_false h1, decide_eq_false h2]; rfl
      clear HST HMEM HA HBD
      go_wp2_with fail
      go_roundw
      case rel => exact ⟨k + 1, by omega, by go_num, HT, HD⟩
      case measure => simp [intOf]; omega
    · obtain rfl : k = xs.length := by omega
      rw [List.take_length] at HA
      go_wp2_with fail
      go_ret
      rw [HA.out]
      exact ⟨rfl, HD.out⟩
end Go.Proofs.YtadhkeboaapfcaaGreatDoor.EvW
namespace Go.Proofs.YtadhkeboaapfcaaGreatDoor.EvW
open Go.RowKit OctMath NameMath HexMath
set_option linter.unusedVariables false
set_option linter.unusedSimpArgs false
set_option maxRecDepth 100000

/-- plain texts, none of them twice, no more than four -/
def filtB (ts : List (List UInt8)) : Bool := decide ((∀ t ∈ ts, plainL t = true) ∧ ts.Nodup) && decide (ts.length ≤ 4)
theorem filt_no {ts : List (List UInt8)} (h : ¬ ((∀ t ∈ ts, plainL t = true) ∧ ts.Nodup)) : filtB ts = false := by unfold filtB; rw [decide_eq_false h, Bool.false_and]
theorem nodup_take {α : Type} {ts : List α} (h : ts.Nodup) (k : Nat) : (ts.take k).Nodup := h.sublist (List.take_sublist k ts)
theorem nodup_snoc {α : Type} {xs : List α} {x : α} (h : xs.Nodup) (hx : x ∉ xs) : (xs ++ [x]).Nodup := by
  rw [List.nodup_append]
  refine ⟨h, List.nodup_cons.2 ⟨by simp, List.nodup_nil⟩, fun a ha b hb => ?_⟩
  rw [List.mem_singleton.1 hb]
  rintro rfl
  exact hx ha
theorem nodup_snoc' {α : Type} {xs : List α} {x : α} (h : (xs ++ [x]).Nodup) : x ∉ xs := by
  rw [List.nodup_append] at h
  exact fun hx => h.2.2 x hx x (List.mem_singleton.2 rfl) rfl
set_option maxHeartbeats 3200000 in
theorem lfilter_any (a : Option Addr) (cap : Nat) (ts : List (List UInt8)) (hx : ts.length ≤ 1048576) (hcap : ts.length ≤ cap) (hl : ∀ t ∈ ts, t.length ≤ 1099511627776) (W : World) (h : Strs W a (ts.map S)) :
    Calls Tryz.prog 27 #[.slice a ts.length cap] W fun e w' => e = .returned (.bool (filtB ts)) ∧ Drawn W w' := by
  have HH := Lib.hid (row_strs h)
  have HL := Lib.hid hl
  have htl := NameW.S_toList
  clear h hl
  go_enter Tryz.func27, Tryz.ntmps27
  go_wp2_with fail
  go_loopw [9] (fun i wr => ∃ k : Nat, k ≤ ts.length ∧ i = .int .i64 (k : Int) ∧ Hid (∀ t ∈ ts.take k, plainL t = true) ∧ Hid ((ts.take k).Nodup) ∧ Hid (Drawn W wr)) (fun i _ => ts.length + 1 - (intOf i).toNat)
  case atStart => exact ⟨0, by omega, rfl, fun t ht => by simp at ht, by simp [Hid], Drawn.refl _⟩
  case round =>
    obtain ⟨k, hk, rfl, HP, HN, HD⟩ := hrel
    by_cases hlt : k < ts.length
    · obtain ⟨b, off, rfl, hcell⟩ := HH.out k (by rw [List.length_map]; exact hlt)
      rw [← HD.out.cell, List.getElem_map] at hcell
      have hst : ts.take (k + 1) = ts.take k ++ [ts[k]] := List.take_succ_eq_append_getElem hlt
      have hlk := HL.out ts[k] (List.getElem_mem hlt)
      have HMEM : Hid (plainL ts[k] = false → filtB ts = false) := fun h => filt_no (fun hh => by rw [hh.1 _ (List.getElem_mem hlt)] at h; cases h)
      have HND : Hid (ts[k] ∈ ts.take k → filtB ts = false) := fun h => filt_no (fun hh => by
        have := nodup_take hh.2 (k + 1)
        rw [hst] at this
        exact nodup_snoc' this h)
      have HST := Lib.hid hst
      clear hst
      generalize ts[k] = x at *
      have HPC := Lib.hid (fun w => NameW.rplain_any x (by omega) w)
      go_wp2_with fail
      refine (HPC.out _).mono ?_
      rintro e w2 ⟨rfl, hd⟩
      have HD2 := Lib.hid (HD.out.trans hd)
      clear hd HPC hcell
      cases hpl : plainL x with
      | false =>
        have HT := Lib.hid (HMEM.out hpl)
        clear hpl HMEM HND
        go_wp2_with fail
        go_ret
        rw [HT.out]
        exact ⟨rfl, HD2.out⟩
      | true =>
      have HPL := Lib.hid hpl
      clear hpl HMEM
      go_wp2_with fail
      obtain ⟨wo, hwo⟩ : ∃ wo : World, wo = w2 := ⟨_, rfl⟩
      subst hwo
      go_loopw [21] (fun i wr => ∃ j : Nat, j ≤ k ∧ i = .int .i64 (j : Int) ∧ Hid (x ∉ ts.take j) ∧ wr = wo) (fun i _ => k + 1 - (intOf i).toNat)
      case atStart => exact ⟨0, by omega, rfl, by simp [Hid], rfl⟩
      case round =>
        obtain ⟨j, hj, rfl, HX, rfl⟩ := hrel
        by_cases hltj : j < k
        · have hjl : j < ts.length := by omega
          obtain ⟨b', off', hbo, hcj⟩ := HH.out j (by rw [List.length_map]; exact hjl)
          cases hbo
          rw [← HD2.out.cell, List.getElem_map] at hcj
          have hstj : ts.take (j + 1) = ts.take j ++ [ts[j]] := List.take_succ_eq_append_getElem hjl
          have hin : ts[j] ∈ ts.take k := by
            rw [List.mem_iff_getElem]
            exact ⟨j, by rw [List.length_take]; omega, List.getElem_take⟩
          generalize ts[j] = y at *
          by_cases hyx : y = x
          · subst hyx
            have HT := Lib.hid (HND.out hin)
            clear hstj hin
            go_wp2_with fail
            go_ret
            rw [HT.out]
            exact ⟨rfl, HD2.out⟩
          · have hyb : (y == x) = false := by simp [hyx]
            have HX2 : Hid (x ∉ ts.take (j + 1)) := fun h => by
              rw [hstj] at h
              rcases List.mem_append.1 h with h | h
              · exact HX.out h
              · exact hyx (List.mem_singleton.1 h).symm
            clear hstj hin HX hyx
            go_wp2_with fail
            go_roundw
            case rel => exact ⟨j + 1, by omega, by go_num, HX2, trivial⟩
            case measure => simp [intOf]; omega
        · obtain rfl : j = k := by omega
          have HP2 : Hid (∀ t ∈ ts.take (j + 1), plainL t = true) := fun t ht => by
            rw [HST.out] at ht
            rcases List.mem_append.1 ht with ht | ht
            · exact HP.out t ht
            · rw [List.mem_singleton.1 ht]; exact HPL.out
          have HN2 : Hid ((ts.take (j + 1)).Nodup) := by show List.Nodup _; rw [HST.out]; exact nodup_snoc HN.out HX.out
          clear HP HN HST HX HPL HND
          go_wp2_with fail
          go_roundw
          case rel => exact ⟨j + 1, by omega, by go_num, HP2, HN2, HD2⟩
          case measure => simp [intOf]; omega
    · obtain rfl : k = ts.length := by omega
      rw [List.take_length] at HP HN
      have HT : Hid (filtB ts = decide (ts.length ≤ 4)) := by show _ = _; unfold filtB; rw [decide_eq_true ⟨HP.out, HN.out⟩, Bool.true_and]
      clear HP HN
      have hdd : decide (ts.length ≤ 4) = decide ((ts.length : Int) ≤ 4) := decide_eq_decide.2 (by omega)
      rw [hdd] at HT
      go_wp2_with fail
      go_ret
      rw [HT.out]
      exact ⟨rfl, HD.out⟩
end Go.Proofs.YtadhkeboaapfcaaGreatDoor.EvW
namespace Go.Proofs.YtadhkeboaapfcaaGreatDoor.EvW
open Go.RowKit OctMath NameMath HexMath
set_option linter.unusedVariables false
set_option linter.unusedSimpArgs false

def leL (x y : List UInt8) : Bool := decide (x ≤ y)
theorem sorted_merge (ts : List (List UInt8)) : List.Pairwise (fun a b => leL a b = true) (ts.mergeSort leL) :=
  List.pairwise_mergeSort (le := leL) (fun a b c h k => by unfold leL at *; exact decide_eq_true (List.le_trans (of_decide_eq_true h) (of_decide_eq_true k))) (fun a b => by
    unfold leL
    rcases List.le_total a b with h | h
    · rw [decide_eq_true h]; rfl
    · rw [decide_eq_true h, Bool.or_true]) ts
theorem sorted_nodup {s : List (List UInt8)} (h : List.Pairwise (fun a b => leL a b = true) s) : s.Nodup ↔ ∀ j, 0 < j → j < s.length → s[j]! ≠ s[j - 1]! := by
  have hp := List.pairwise_iff_getElem.1 h
  constructor
  · intro hn j h0 hj e
    rw [getElem!_pos s j hj, getElem!_pos s (j - 1) (by omega)] at e
    exact List.pairwise_iff_getElem.1 hn (j - 1) j (by omega) hj (by omega) e.symm
  · intro ha
    refine List.pairwise_iff_getElem.2 fun i j hi hj hij e => ?_
    have h1 : s[i] ≤ s[j - 1] := by
      by_cases e' : i = j - 1
      · subst e'; exact List.le_refl _
      · exact of_decide_eq_true (hp i (j - 1) hi (by omega) (by omega))
    have h2 : s[j - 1] ≤ s[j] := of_decide_eq_true (hp (j - 1) j (by omega) hj (by omega))
    have h3 : s[j - 1] = s[j] := List.le_antisymm h2 (by rw [← e]; exact h1)
    have := ha j (by omega) hj
    rw [getElem!_pos s j hj, getElem!_pos s (j - 1) (by omega)] at this
    exact this h3.symm
theorem compact_lt (s : List (List UInt8)) : (Lib.compact s).length < s.length ↔ ¬ ∀ j, 0 < j → j < s.length → s[j]! ≠ s[j - 1]! := by
  have hle : (Lib.compact s).length ≤ s.length := by
    unfold Lib.compact Lib.compactUpTo
    rw [List.length_map]
    exact Nat.le_trans (List.length_filter_le _ _) (by simp)
  have key : (Lib.compact s).length = s.length ↔ ∀ j, 0 < j → j < s.length → s[j]! ≠ s[j - 1]! := by
    unfold Lib.compact Lib.compactUpTo
    rw [List.length_map]
    have e : ((List.range s.length).filter (Lib.keeps s.toArray)).length = s.length ↔ ((List.range s.length).filter (Lib.keeps s.toArray)).length = (List.range s.length).length := by rw [List.length_range]
    rw [e, List.length_filter_eq_length_iff]
    constructor
    · intro h j h0 hj
      have := h j (List.mem_range.2 hj)
      unfold Lib.keeps at this
      simp at this
      rcases this with h | h
      · omega
      · simpa using h
    · intro h j hj
      have hj' := List.mem_range.1 hj
      unfold Lib.keeps
      simp
      by_cases h0 : j = 0
      · exact .inl h0
      · exact .inr (by simpa using h j (by omega) hj')
  constructor
  · intro h h2; have := key.2 h2; omega
  · intro h
    have : (Lib.compact s).length ≠ s.length := fun e => h (key.1 e)
    omega
theorem dup_nodup (ts : List (List UInt8)) : TagW.dupL ts = true ↔ ¬ ts.Nodup := by
  have hp := List.mergeSort_perm ts leL
  have h1 : TagW.dupL ts = decide ((Lib.compact (ts.mergeSort leL)).length < ts.length) := rfl
  rw [h1, decide_eq_true_eq, ← hp.length_eq, compact_lt, ← sorted_nodup (sorted_merge ts), hp.nodup_iff]
theorem new_filt (ts : List (List UInt8)) : decide (TagW.newE ts = 0) = filtB ts := by
  rw [Bool.eq_iff_iff, decide_eq_true_eq]
  unfold TagW.newE filtB
  rw [Bool.and_eq_true, decide_eq_true_eq, decide_eq_true_eq]
  by_cases h1 : ts.all plainL = false
  · rw [if_pos h1]
    refine ⟨fun h => (by cases h), fun h => ?_⟩
    have : ts.all plainL = true := List.all_eq_true.2 h.1.1
    rw [this] at h1; cases h1
  · rw [if_neg h1]
    have h1' : ∀ t ∈ ts, plainL t = true := List.all_eq_true.1 (by cases h : ts.all plainL with | true => rfl | false => exact absurd h h1)
    by_cases h2 : TagW.dupL ts = true
    · rw [if_pos h2]
      exact ⟨fun h => (by cases h), fun h => absurd h.1.2 ((dup_nodup ts).1 h2)⟩
    · rw [if_neg h2]
      have h2' : ts.Nodup := Classical.byContradiction fun h => h2 ((dup_nodup ts).2 h)
      by_cases h3 : 4 < ts.length
      · rw [if_pos h3]
        exact ⟨fun h => (by cases h), fun h => by omega⟩
      · rw [if_neg h3]
        exact ⟨fun _ => ⟨⟨h1', h2'⟩, by omega⟩, fun _ => rfl⟩
end Go.Proofs.YtadhkeboaapfcaaGreatDoor.EvW
