/- slices.Values over texts: its iterator at a loop that keeps what lay ahead of it. -/
import Derived.Test.YtadhkeboaapfcaaGreatDoorNameE
import Derived.RangeFuncBox
import Derived.RangeFuncLeaves
import Derived.RangeFuncGives
import Derived.Shelf.Abstract
import Derived.Shelf.AbstractIn
import Derived.OwnWalkIn
import Derived.TacticsInMore
import Derived.LoopNIn
import Derived.LoopIn
import Derived.Maps.AppendAt
namespace Go.Proofs.YtadhkeboaapfcaaGreatDoor.SeqW
open Go.RowKit Go.Shelf OctMath NameMath
attribute [local go_sem] Oper.semAt_some

set_option maxRecDepth 100000 in
set_option maxHeartbeats 2000000 in
/-- the iterator of slices.Values: all texts come, in their order -/
theorem values_in (F : Fence) (n : Nat) (h7 : F.fn 90) (hro : F.round = none) (hn : 1 ≤ n) (l Bs cap : Nat) (a : Option Addr) (ts : List (List UInt8)) (hx : ts.length ≤ 1048576) (w0 : World) (hS : Strs w0 a (ts.map S)) (J : List (List UInt8) → World → Prop)
    (hJB : ∀ pre W, J pre W → Below w0.heap.size w0 W)
    (hY : ∀ pre x W, J pre W → pre.length < ts.length → YieldAt F (n - 1) Tryz.prog l #[.string (S x)] W fun e W' => e = .returned (.bool true) ∧ J (pre ++ [x]) W' ∧ KeepsWalks W W')
    (W : World) (hBs : W.cell? ⟨Bs, 0, none⟩ = some (.slice a ts.length cap)) (h0 : J [] W) :
    CallsIn F n Tryz.prog 90 #[.func (.yield l) #[] #[], .pointer (some ⟨Bs, 0, none⟩)] W fun e W' => (∃ v, e = .returned v) ∧ J ts W' := by
  refine callsIn_of_wp Tryz.func90 rfl h7 ?_ hro
  simp only [Tryz.ntmps90, List.size_toArray, List.length_cons, List.length_nil, Nat.reduceAdd, Nat.reduceSub, Array.replicate_succ, Array.replicate_zero, List.push_toArray, List.append_toArray, List.nil_append, List.cons_append]
  gi_wp2
  gi_loopw [7] (fun i wr => ∃ k : Nat, k ≤ ts.length ∧ i = .int .i64 k ∧ J (ts.take k) wr)
    (fun i _ => ts.length - (intOf i).toNat)
  case atStart => exact ⟨0, Nat.zero_le _, rfl, h0⟩
  case round =>
    obtain ⟨k, hk, rfl, hJs⟩ := hrel
    by_cases hlt : k < ts.length
    · obtain ⟨b, off, rfl, hcell⟩ := (hS.below (hJB _ _ hJs)) k (by rw [List.length_map]; exact hlt)
      rw [List.getElem_map] at hcell
      obtain ⟨fn, tmps, assign, body, hy, hR⟩ := hY _ ts[k] wr hJs (by rw [List.length_take]; omega)
      rw [← List.take_succ_eq_append_getElem hlt] at hR
      gi_wp2
      refine hR.mono ?_
      rintro e W3 ⟨rfl, hJ3, hk3⟩
      gi_wp2
      go_roundw
      case rel => exact ⟨k + 1, by omega, by simp, hJ3⟩
      case measure => simp [intOf]; omega
    · obtain rfl : k = ts.length := by omega
      rw [List.take_length] at hJs
      gi_wp2
      go_end0
      exact ⟨⟨_, rfl⟩, hJs⟩
end Go.Proofs.YtadhkeboaapfcaaGreatDoor.SeqW
