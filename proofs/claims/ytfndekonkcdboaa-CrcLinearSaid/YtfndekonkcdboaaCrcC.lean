/- The sum of texts, by the tables. -/
import Derived.Test.YtfndekonkcdboaaCrcB
import Derived.Lib.IndexBytes
namespace Go.Proofs.Ytfndekonkcdboaa.CrcW
open Go.RowKit CrcMath
set_option maxRecDepth 100000

/-- all bytes of texts -/
def flat (ss : List ByteArray) : List UInt8 := (ss.map fun s => s.data.toList).flatten

set_option maxHeartbeats 400000 in
theorem tsum_nil (l : Value) (w : World) :
    Calls Try.prog 12 #[.pointer none, l] w fun e w' => e = .returned (.int .i64 0) ∧ w = w' := by
  go_enter Try.func12, Try.ntmps12
  go_wp2
  go_ret
  exact ⟨rfl, rfl⟩

theorem drop4 (t : ByteArray) : (t.extract 4 t.size).data.toList = t.data.toList.drop 4 := by
  exact Lib.extract_to_end t 4
theorem reg_four (x : BitVec 32) (t : ByteArray) : reg (reg x (t.data.toList.take 4)) (t.extract 4 t.size).data.toList = reg x t.data.toList := by
  rw [drop4, ← reg_append, List.take_append_drop]
theorem reg_take (x : BitVec 32) (t : ByteArray) (i : Nat) (h : i < t.size) : upd (reg x (t.data.toList.take i)) (t[i]).toBitVec = reg x (t.data.toList.take (i + 1)) := by
  rw [List.take_succ_eq_append_getElem (by simpa using h), reg_append, reg_cons, reg_nil]; rfl
theorem flat_take (ss : List ByteArray) (k : Nat) (h : k < ss.length) : flat (ss.take (k + 1)) = flat (ss.take k) ++ ss[k].data.toList := by
  unfold flat; rw [List.take_succ_eq_append_getElem h, List.map_append, List.flatten_append]; simp
theorem Tabs.drawn {w u : World} {B : Nat} (h : Tabs w B) (hd : Drawn w u) : Tabs u B := by obtain ⟨n, rfl⟩ := hd; exact h

set_option maxHeartbeats 1000000 in
theorem tsum_some (B : Nat) (b off cap : Nat) (ss : List ByteArray) (hn : ss.length ≤ maxLen) (hs : ∀ i (h : i < ss.length), ss[i].size ≤ maxLen) (W : World)
    (hcell : ∀ i (h : i < ss.length), W.cell? ⟨b, off + i, none⟩ = some (.string ss[i])) (hT : Tabs W B) :
    Calls Try.prog 12 #[.pointer (some ⟨B, 0, none⟩), .slice (some ⟨b, off, none⟩) ss.length cap] W fun e w' => e = .returned (.int .i64 (sum (flat ss)).toNat) ∧ Drawn W w' := by
  unfold maxLen at hn hs
  have HT := Lib.hid hT; clear hT
  have HC := Lib.hid hcell; clear hcell
  have HS := Lib.hid hs; clear hs
  go_enter Try.func12, Try.ntmps12
  go_wp2_with fail
  go_loopw [5, 13] (fun x i wr => ∃ k : Nat, k ≤ ss.length ∧ i = .int .i64 k ∧ x = .int .u32 (reg (BitVec.allOnes 32) (flat (ss.take k))).toNat ∧ Drawn W wr) (fun _ i _ => ss.length - (intOf i).toNat)
  case atStart => exact ⟨0, by omega, rfl, rfl, Drawn.refl _⟩
  case round =>
    obtain ⟨k, hk, rfl, rfl, hw⟩ := hrel
    generalize hX : reg (BitVec.allOnes 32) (flat (ss.take k)) = X
    have HX := Lib.hid hX; clear hX
    by_cases hlt : k < ss.length
    · have hc := HC.out k hlt
      rw [← hw.cell] at hc
      have hz := HS.out k hlt
      generalize hsk : ss[k] = s at *
      have HSK := Lib.hid hsk; clear hsk
      go_wp2_with fail
      obtain ⟨wo, rfl⟩ : ∃ wo : World, wo = wr := ⟨_, rfl⟩
      go_loopw [5, 7] (fun x t wr => ∃ (q : ByteArray) (y : BitVec 32), q.size ≤ s.size ∧ t = .string q ∧ x = .int .u32 y.toNat ∧ Drawn W wr ∧ Hid (reg X s.data.toList = reg y q.data.toList)) (fun _ t _ => match t with | .string q => q.size | _ => 0)
      case atStart => exact ⟨s, X, Nat.le_refl _, rfl, rfl, hw, rfl⟩
      case round =>
        clear hc hw
        obtain ⟨q, y, hq, rfl, rfl, hw, HR⟩ := hrel
        by_cases h4 : 4 ≤ q.size
        · go_wp2_with (go_at_call 19; refine (four_any B y q h4 _ (HT.out.drawn hw)).mono ?_; rintro e w' ⟨rfl, hw'⟩)
          go_roundw
          case rel => 
            exact ⟨q.extract 4 q.size, _, by simp; omega, rfl, rfl, hw.trans hw', HR.out.trans (reg_four y q).symm⟩
          case measure => simp; omega
        · go_wp2_with fail
          obtain ⟨wo, rfl⟩ : ∃ wo : World, wo = wr := ⟨_, rfl⟩
          go_loopw [5, 30] (fun x i wr => ∃ (k : Nat), k ≤ q.size ∧ i = .int .i64 k ∧ x = .int .u32 (reg y (q.data.toList.take k)).toNat ∧ Drawn W wr) (fun _ i _ => q.size - (intOf i).toNat)
          case atStart => exact ⟨0, by omega, rfl, rfl, hw⟩
          case round =>
            clear hw
            obtain ⟨j, hj, rfl, rfl, hw⟩ := hrel
            by_cases hj2 : j < q.size
            · generalize hY : reg y (q.data.toList.take j) = Y
              have HY := Lib.hid hY; clear hY
              go_wp2_with fail
              go_quiet ((go_at_call 20; exact quiet_same (one_any B Y q[j] _ (HT.out.drawn (hw.drewN _)))))
              go_wp2_with fail
              go_roundw
              case rel =>
                exact ⟨j + 1, by omega, by go_num, by rw [← reg_take y q j hj2, HY.out], hw.drewN _⟩
              case measure => simp [intOf]; omega
            · go_wp2_with fail
              go_roundw
              case rel =>
                refine ⟨k + 1, by omega, by go_num, ?_, hw⟩
                have h1 : j = q.size := by omega
                have h2 : q.data.toList.take j = q.data.toList := List.take_of_length_le (by rw [h1]; exact Nat.le_refl _)
                rw [h2, ← HR.out, flat_take ss k hlt, reg_append, HX.out, HSK.out]
              case measure => simp [intOf]; omega
    · have ek : k = ss.length := by omega
      have HEK := Lib.hid ek; clear ek
      go_wp2_with fail
      go_ret
      refine ⟨ret_int ?_, hw⟩
      have hu : bits .xor .u32 IntKind.u32.max (X.toNat : Int) = ((~~~X).toNat : Int) := by
        rw [show IntKind.u32.max = ((BitVec.allOnes 32).toNat : Int) from by decide, xor_u32, BitVec.allOnes_xor]
      have := (~~~X).isLt
      rw [hu]
      unfold sum
      rw [← HX.out, HEK.out, List.take_of_length_le (Nat.le_refl _)] at *
      exact IntWalk.wrap64_in _ (by omega)

set_option maxHeartbeats 400000 in
theorem tsum_zero (B : Nat) (a : Option Addr) (cap : Nat) (W : World) :
    Calls Try.prog 12 #[.pointer (some ⟨B, 0, none⟩), .slice a 0 cap] W fun e w' => e = .returned (.int .i64 (sum []).toNat) ∧ Drawn W w' := by
  go_enter Try.func12, Try.ntmps12
  go_wp2_with fail
  go_loopw [5, 13] (fun x i wr => i = .int .i64 0 ∧ x = .int .u32 4294967295 ∧ Drawn W wr) (fun _ i _ => 0)
  case atStart => exact ⟨rfl, rfl, Drawn.refl _⟩
  case round =>
    obtain ⟨rfl, rfl, hw⟩ := hrel
    go_wp2_with fail
    go_ret
    refine ⟨ret_int ?_, hw⟩
    kernel_rfl

/-- the sum of texts that lie in memory, by a table -/
theorem tsum_any (B : Nat) (a : Option Addr) (cap : Nat) (ss : List ByteArray) (hn : ss.length ≤ maxLen) (hs : ∀ i (h : i < ss.length), ss[i].size ≤ maxLen) (W : World)
    (hcell : Strs W a ss) (hT : Tabs W B) :
    Calls Try.prog 12 #[.pointer (some ⟨B, 0, none⟩), .slice a ss.length cap] W fun e w' => e = .returned (.int .i64 (sum (flat ss)).toNat) ∧ Drawn W w' := by
  cases ss with
  | nil => exact tsum_zero B a cap W
  | cons s ss =>
    obtain ⟨b, off, rfl, _⟩ := hcell 0 (by simp)
    refine tsum_some B b off cap (s :: ss) hn hs W (fun i hi => ?_) hT
    obtain ⟨b', off', h1, h2⟩ := hcell i hi
    obtain ⟨rfl, rfl⟩ : b = b' ∧ off = off' := by simpa using h1
    exact h2

set_option maxHeartbeats 400000 in
theorem sum_any (a : Option Addr) (cap : Nat) (ss : List ByteArray) (hn : ss.length ≤ maxLen) (hs : ∀ i (h : i < ss.length), ss[i].size ≤ maxLen) (W : World)
    (hcell : Strs W a ss) :
    Calls Try.prog 11 #[.slice a ss.length cap] W fun e w' => e = .returned (.int .i64 (sum (flat ss)).toNat) ∧ Below W.heap.size W w' := by
  have HC := Lib.hid hcell; clear hcell
  have HS := Lib.hid hs; clear hs
  go_enter Try.func11, Try.ntmps11
  go_wp2_with (go_at_call 10; refine (new_any _).mono ?_; rintro e w' ⟨B, rfl, hl⟩)
  have HL := Lib.hid hl; clear hl
  have hc2 : Strs w' a ss := HC.out.below HL.out.below
  refine (tsum_any B a cap ss hn HS.out w' hc2 HL.out.tabs).mono ?_
  rintro e w'' ⟨rfl, hd⟩
  have HB : Hid (Below W.heap.size W w'') := HL.out.below.trans (hd.below _)
  clear hc2 hd HL
  go_wp2_with fail
  go_ret
  exact ⟨rfl, HB.out⟩
end Go.Proofs.Ytfndekonkcdboaa.CrcW
