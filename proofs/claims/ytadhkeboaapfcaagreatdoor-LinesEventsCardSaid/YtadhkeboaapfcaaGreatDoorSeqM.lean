/- slices.Values over texts: its iterator at a loop that keeps what lay ahead of it. -/
import Derived.Test.YtadhkeboaapfcaaGreatDoorNameM
import Derived.RangeFuncBox
import Derived.RangeFuncLeaves
import Derived.RangeFuncGives
import Derived.Shelf.Abstract
import Derived.Shelf.AbstractIn
import Derived.OwnWalkIn
import Derived.TacticsInMore
import Derived.LoopNIn
import Derived.LoopIn
import Derived.Maps.AppendAt
import Derived.Test.YtadhkeboaapfcaaGreatDoorShelf
import Derived.Shelf.SlIter.Sorted
import Derived.Test.YtadhkeboaapfcaaGreatDoorLow
import Derived.Lib.OwnBridge
namespace Go.Proofs.YtadhkeboaapfcaaGreatDoor.SeqW
open Go.RowKit Go.Shelf OctMath NameMath
attribute [local go_sem] Oper.semAt_some

set_option maxRecDepth 100000 in
set_option maxHeartbeats 2000000 in
/-- the iterator of slices.Values: all texts come, in their order -/
theorem values_in (F : Fence) (n : Nat) (h7 : F.fn 90) (hro : F.round = none) (hn : 1 ≤ n) (l Bs cap : Nat) (a : Option Addr) (ts : List (List UInt8)) (hx : ts.length ≤ 1048576) (w0 : World) (hS : Strs w0 a (ts.map S)) (J : List (List UInt8) → World → Prop)
    (hJB : ∀ pre W, J pre W → Below w0.heap.size w0 W)
    (hY : ∀ pre x W, J pre W → pre.length < ts.length → YieldAt F (n - 1) Tryz.prog l #[.string (S x)] W fun e W' => e = .returned (.bool true) ∧ J (pre ++ [x]) W' ∧ KeepsWalks W W')
    (W : World) (hBs : W.cell? ⟨Bs, 0, none⟩ = some (.slice a ts.length cap)) (h0 : J [] W) :
    CallsIn F n Tryz.prog 90 #[.func (.yield l) #[] #[], .pointer (some ⟨Bs, 0, none⟩)] W fun e W' => (∃ v, e = .returned v) ∧ J ts W' := by
  refine callsIn_of_wp Tryz.func90 rfl h7 ?_ hro
  simp only [Tryz.ntmps90, List.size_toArray, List.length_cons, List.length_nil, Nat.reduceAdd, Nat.reduceSub, Array.replicate_succ, Array.replicate_zero, List.push_toArray, List.append_toArray, List.nil_append, List.cons_append]
  gi_wp2
  gi_loopw [7] (fun i wr => ∃ k : Nat, k ≤ ts.length ∧ i = .int .i64 k ∧ J (ts.take k) wr)
    (fun i _ => ts.length - (intOf i).toNat)
  case atStart => exact ⟨0, Nat.zero_le _, rfl, h0⟩
  case round =>
    obtain ⟨k, hk, rfl, hJs⟩ := hrel
    by_cases hlt : k < ts.length
    · obtain ⟨b, off, rfl, hcell⟩ := (hS.below (hJB _ _ hJs)) k (by rw [List.length_map]; exact hlt)
      rw [List.getElem_map] at hcell
      obtain ⟨fn, tmps, assign, body, hy, hR⟩ := hY _ ts[k] wr hJs (by rw [List.length_take]; omega)
      rw [← List.take_succ_eq_append_getElem hlt] at hR
      gi_wp2
      refine hR.mono ?_
      rintro e W3 ⟨rfl, hJ3, hk3⟩
      gi_wp2
      go_roundw
      case rel => exact ⟨k + 1, by omega, by simp, hJ3⟩
      case measure => simp [intOf]; omega
    · obtain rfl : k = ts.length := by omega
      rw [List.take_length] at hJs
      gi_wp2
      go_end0
      exact ⟨⟨_, rfl⟩, hJs⟩
end Go.Proofs.YtadhkeboaapfcaaGreatDoor.SeqW
namespace Go.Proofs.YtadhkeboaapfcaaGreatDoor.SeqW
open Go.RowKit Go.Shelf Go.Maps Go.Sort OctMath NameMath

/-- an iterator value that gives the texts ts to a loop that keeps what lay ahead -/
def SeqB (F : Fence) (n : Nat) (P : Program) (g : Nat) (lb : Array Value) (ts : List (List UInt8)) (w : World) : Prop :=
  ∀ (l : Nat) (J : List (List UInt8) → World → Prop) (W : World), Below w.heap.size w W → (∀ pre W1, J pre W1 → Below w.heap.size w W1) →
    (∀ pre x W1, J pre W1 → pre.length < ts.length → YieldAt F (n - 1) P l #[encStr x] W1 fun e W' => e = .returned (.bool true) ∧ J (pre ++ [x]) W' ∧ KeepsWalks W1 W') →
    J [] W →
    CallsIn F n P g (#[.func (.yield l) #[] #[]] ++ lb) W fun e W' => (∃ v, e = .returned v) ∧ J ts W'

theorem own_base {W : World} {base base' : Nat} {e : TypeId} {size : Nat} {v : Value} {k : Nat} {xs : List Value} (h : W.ownsRow base e size v k xs) (hb : base' ≤ base) : W.ownsRow base' e size v k xs := by
  refine ⟨h.1, ?_⟩
  rcases h.2 with hn | ⟨g, cap, cur, hv, hbg, rest⟩
  · exact .inl hn
  · exact .inr ⟨g, cap, cur, hv, Nat.le_trans hb hbg, rest⟩
variable {P : Program} {ρ : Ren}
set_option maxRecDepth 100000 in
set_option maxHeartbeats 2000000 in
theorem appendSeq_in (L : SlLaysZ.n11 P ρ) (F : Fence) (n : Nat) (h11 : F.fn (ρ.f 11)) (hro : F.round = none) (hn : 2 ≤ n) (g : Nat) (lb : Array Value) (hFg : F.fn g) (eg : ∀ args w, (callFunc g args).run P w = .ok (.enter g args) w)
    (ts : List (List UInt8)) (hN : ts.length ≤ maxLen) (hNb : ts.length * 16 ≤ 140737488355328) (w : World) (hseq : SeqB F (n - 1) P g lb ts w) :
    CallsIn F n P (ρ.f 11) #[.slice none 0 0, .func (.func g) #[] lb] w fun e w' => ∃ v : Value, e = .returned v ∧ w'.ownsRow w.heap.size (ρ.t 26) 1 v ts.length (ts.map encStr) ∧ Below w.heap.size w w' := by
  have h1 : 1 ≤ n := by omega
  have mixed := L.mixed; have t0 := L.t0; have a0 := L.a0; have z0 := L.z0; have v0 := L.v0; have t24 := L.t24; have a24 := L.a24; have z24 := L.z24; have v24 := L.v24; have t26 := L.t26; have a26 := L.a26; have z26 := L.z26; have v26 := L.v26; have t28 := L.t28; have a28 := L.a28; have z28 := L.z28; have v28 := L.v28
  have hne : ρ.t 24 ≠ ρ.t 26 := fun e => by have h := L.t24; rw [e, L.t26] at h; cases h
  have u0 := run_underlying L.t0; have u24 := run_underlying L.t24; have u26 := run_underlying L.t26; have u28 := run_underlying L.t28
  obtain ⟨_, _, FG⟩ := L.f11
  refine callsIn_of_wp_marks FG rfl h11 ?_ hro
  simp only [SlBodyZ.n11_ntmps ρ, List.size_toArray, List.length_cons, List.length_nil, Nat.reduceAdd, Nat.reduceSub, Array.replicate_succ, Array.replicate_zero, List.push_toArray, List.append_toArray, List.nil_append, List.cons_append]
  gi_wp2
  refine wpIn_rangeFunc ?_
  intro fn hfn
  rw [hro]
  obtain ⟨W0, hW0⟩ : ∃ W0, w.alloc (.cells #[.slice none 0 0] (ρ.t 24)) = W0 := ⟨_, rfl⟩
  have hs0 : W0.heap.size = w.heap.size + 1 := by rw [← hW0]; simp
  have hv0 : W0.heap[w.heap.size]? = some (.cells #[.slice none 0 0] (ρ.t 24) (0, 0)) := by rw [← hW0]; exact World.alloc_heap_new w _
  have hb0 : Below w.heap.size w W0 := by rw [← hW0]; exact (Below.refl _ w).alloc (Nat.le_refl _) _
  rw [hW0]
  obtain ⟨W1, hW1⟩ : ∃ W1, (W0.alloc (.deferred (some []))).alloc (.loop (AnyZ.apRec ρ fn (.func (.func g) #[] lb) w.heap.size W0.heap.size .ready none)) = W1 := ⟨_, rfl⟩
  have hold : ∀ k, k < W0.heap.size → W1.heap[k]? = W0.heap[k]? := fun k hk => by
    rw [← hW1]; exact (Below.heap_alloc _ _ k (by simp; omega)).trans (Below.heap_alloc _ _ k hk)
  have hb1 : Below w.heap.size w W1 := by rw [← hW1]; exact (hb0.alloc hb0.size _).alloc (by have := hb0.size; simp; omega) _
  have hs1 : W1.heap.size = W0.heap.size + 2 := by rw [← hW1]; simp
  have hM : AnyZ.ApAt ρ w fn (.func (.func g) #[] lb) w.heap.size (W0.heap.size + 1) W0.heap.size [] W1 :=
    ⟨⟨_, (hold w.heap.size (by omega)).trans hv0, ⟨rfl, .inl ⟨rfl, rfl⟩⟩, by simp⟩,
     by rw [← hW1]; have := World.alloc_heap_new (W0.alloc (.deferred (some []))) (.loop (AnyZ.apRec ρ fn (.func (.func g) #[] lb) w.heap.size W0.heap.size .ready none)); rwa [World.size_alloc] at this,
     by rw [← hW1]; exact (Below.heap_alloc _ _ _ (by simp)).trans (World.alloc_heap_new W0 _), hb1⟩
  refine ⟨W0.heap.size + 1, [{ target := .collected W0.heap.size, args := #[] }], W1, { target := .fn (.func g) lb, args := #[.func (.yield (W0.heap.size + 1)) #[] #[]] }, W1, g,
    #[.func (.yield (W0.heap.size + 1)) #[] #[]] ++ lb, W1, ?_, ?_, ?_, ?_, fun _ => h1, ?_⟩
  · rw [← hW1]; exact run_enterLoop_outer _ _ _ _ _
  · simp [resolve, go_sem]
  · intro f' hf'; simp [Target.leads] at hf'; subst hf'; exact hFg
  · simp [invoke, go_sem, eg]
  · refine (hseq (W0.heap.size + 1) (AnyZ.ApAt ρ w fn (.func (.func g) #[] lb) w.heap.size (W0.heap.size + 1) W0.heap.size) W1 hb1 (fun _ _ h => h.below)
      (fun pre x W hJ hl => AnyZ.apYield { L with } F (n - 1 - 1) w fn hfn _ w.heap.size (W0.heap.size + 1) W0.heap.size (by omega) (by omega) (by omega) (Nat.le_refl _) (by omega) ts.length hN hNb pre x W hJ hl) hM).mono ?_
    rintro e W2 ⟨⟨v0, rfl⟩, h2⟩
    obtain ⟨v, hv, hrow, hnil⟩ := h2.box
    have hend := run_endLoop (P := P) h2.L (by simp [AnyZ.apRec])
    obtain ⟨W3, hW3⟩ : ∃ W3, W2.putObj (W0.heap.size + 1) (.loop { AnyZ.apRec ρ fn (.func (.func g) #[] lb) w.heap.size W0.heap.size .ready none with state := .exhausted }) = W3 := ⟨_, rfl⟩
    rw [hW3] at hend
    have hg3 : W2.grownBy W3 (some (W0.heap.size + 1)) := by rw [← hW3]; exact grownBy_putObj_a _ _ _
    have hv3 : W3.heap[w.heap.size]? = some (.cells #[v] (ρ.t 24) (0, 0)) := by rw [← hW3]; exact (World.putObj_heap_other (by omega)).trans hv
    have hK3 : W3.heap[W0.heap.size]? = some (.deferred (some [])) := by rw [← hW3]; exact (World.putObj_heap_other (by omega)).trans h2.K
    have hrow3 := hrow.kept hg3 (ownsRow_ne_a hrow h2.L (fun cur e => by first | cases e | exact hne (Obj.cells.inj e).2.1))
    have hb3 : Below w.heap.size w W3 := h2.below.grown hg3 h2.below.size (fun k e => by cases e; omega)
    obtain ⟨hc3, hf3⟩ := cell_of_box_a hv3
    clear hW3
    refine ⟨none, W3, hend, ?_⟩
    gi_wp2
    rw [← hs0]
    refine ⟨by simp, .inl ⟨_, _, rfl, run_takeDeferred hK3, ?_⟩⟩
    exact ⟨_, results_tmp rfl _ _ _, v, rfl, hrow3.kept (grownBy_putObj_a _ _ _) (ownsRow_ne_a hrow3 hK3 (fun cur e => by first | cases e | exact hne (Obj.cells.inj e).2.1)), hb3.grown (grownBy_putObj_a _ _ _) hb3.size (fun k e => by cases e; omega)⟩

set_option maxHeartbeats 1000000 in
theorem collect_in (L : SlLaysZ.n8 P ρ) (F : Fence) (n : Nat) (h8 : F.fn (ρ.f 8)) (h11 : F.fn (ρ.f 11)) (hro : F.round = none) (hn : 3 ≤ n) (g : Nat) (lb : Array Value) (hFg : F.fn g) (eg : ∀ args w, (callFunc g args).run P w = .ok (.enter g args) w)
    (ts : List (List UInt8)) (hN : ts.length ≤ maxLen) (hNb : ts.length * 16 ≤ 140737488355328) (w : World) (hseq : SeqB F (n - 1 - 1) P g lb ts w) :
    CallsIn F n P (ρ.f 8) #[.func (.func g) #[] lb] w fun e w' => ∃ v : Value, e = .returned v ∧ w'.ownsRow w.heap.size (ρ.t 26) 1 v ts.length (ts.map encStr) ∧ Below w.heap.size w w' := by
  have h1 : 1 ≤ n := by omega
  have e11 : ∀ args w, (callFunc (ρ.f 11) args).run P w = .ok (.enter (ρ.f 11) args) w := L.f11.enters rfl
  have mixed := L.mixed; have t0 := L.t0; have a0 := L.a0; have z0 := L.z0; have v0 := L.v0; have t24 := L.t24; have a24 := L.a24; have z24 := L.z24; have v24 := L.v24; have t26 := L.t26; have a26 := L.a26; have z26 := L.z26; have v26 := L.v26; have t28 := L.t28; have a28 := L.a28; have z28 := L.z28; have v28 := L.v28
  have u0 := run_underlying L.t0; have u24 := run_underlying L.t24; have u26 := run_underlying L.t26; have u28 := run_underlying L.t28
  obtain ⟨_, _, FG⟩ := L.f8
  refine callsIn_of_wp FG rfl h8 ?_ hro
  simp only [SlBodyZ.n8_ntmps ρ, List.size_toArray, List.length_cons, List.length_nil, Nat.reduceAdd, Nat.reduceSub, Array.replicate_succ, Array.replicate_zero, List.push_toArray, List.append_toArray, List.nil_append, List.cons_append]
  gi_wp2_with (gi_at_fn (ρ.f 11); refine (appendSeq_in { L with } F (n - 1) h11 hro (by omega) g lb hFg eg ts hN hNb _ hseq).mono ?_; rintro e w' ⟨v, rfl, hrow, hb⟩)
  go_ret
  exact ⟨v, rfl, hrow, hb⟩

set_option maxRecDepth 100000 in
set_option maxHeartbeats 2000000 in
theorem sorted_in (L : SlLaysZ.n6 P ρ) (F : Fence) (n : Nat) (h6 : F.fn (ρ.f 6)) (h8 : F.fn (ρ.f 8)) (h9 : F.fn (ρ.f 9)) (h11 : F.fn (ρ.f 11)) (hro : F.round = none) (hn : 4 ≤ n) (hsort : AnyZ.SortsIn P ρ F (n - 1)) (e9 : ∀ args w, (callFunc (ρ.f 9) args).run P w = .ok (.enter (ρ.f 9) args) w) (g : Nat) (lb : Array Value) (hFg : F.fn g) (eg : ∀ args w, (callFunc g args).run P w = .ok (.enter g args) w)
    (ts : List (List UInt8)) (hN : ts.length ≤ maxLen) (hNb : ts.length * 16 ≤ 140737488355328) (w : World) (hseq : SeqB F (n - 1 - 1 - 1) P g lb ts w) :
    CallsIn F n P (ρ.f 6) #[.func (.func g) #[] lb] w fun e w' => ∃ v : Value, e = .returned v ∧
      w'.ownsRow w.heap.size (ρ.t 26) 1 v ts.length ((ts.mergeSort (fun x y => decide (x ≤ y))).map encStr) ∧ Below w.heap.size w w' := by
  have h1 : 1 ≤ n := by omega
  have e8 : ∀ args w, (callFunc (ρ.f 8) args).run P w = .ok (.enter (ρ.f 8) args) w := L.f8.enters rfl
  have mixed := L.mixed; have t0 := L.t0; have a0 := L.a0; have z0 := L.z0; have v0 := L.v0; have t24 := L.t24; have a24 := L.a24; have z24 := L.z24; have v24 := L.v24; have t26 := L.t26; have a26 := L.a26; have z26 := L.z26; have v26 := L.v26; have t28 := L.t28; have a28 := L.a28; have z28 := L.z28; have v28 := L.v28
  have u0 := run_underlying L.t0; have u24 := run_underlying L.t24; have u26 := run_underlying L.t26; have u28 := run_underlying L.t28
  obtain ⟨_, _, FG⟩ := L.f6
  refine callsIn_of_wp FG rfl h6 ?_ hro
  simp only [SlBodyZ.n6_ntmps ρ, List.size_toArray, List.length_cons, List.length_nil, Nat.reduceAdd, Nat.reduceSub, Array.replicate_succ, Array.replicate_zero, List.push_toArray, List.append_toArray, List.nil_append, List.cons_append]
  gi_wp2_with (gi_at_fn (ρ.f 8); refine (collect_in { L with } F (n - 1) h8 h11 hro (by omega) g lb hFg eg ts hN hNb _ hseq).mono ?_; rintro e W ⟨v, rfl, hrow, hb⟩)
  rcases hrow.2 with ⟨rfl, hz⟩ | ⟨gb, cap, cur, rfl, hbase, hgb, r1, r2, r3, r4⟩
  · have hss : ts = [] := List.eq_nil_of_length_eq_zero hz
    subst hss
    gi_wp2_with (gi_at_fn (ρ.f 9); refine (hsort.2 none 0 W).mono ?_; rintro e w' ⟨rfl, rfl⟩)
    go_ret
    exact ⟨.slice none 0 0, rfl, by simpa using hrow, hb⟩
  · have hH : Holds encStr W gb 0 ts.toArray := holds_of_block hgb (by simpa using r4)
    have hgl : gb < W.heap.size := (Array.getElem?_eq_some_iff.1 hgb).1
    have hsz : ts.length < 4611686018427387904 := by omega
    have cS := hsort.1 gb 0 cap ts W hH hgl hsz
    gi_wp2_with (gi_at_fn (ρ.f 9); refine cS.mono ?_; rintro e w' ⟨rfl, nn, os, rfl⟩)
    go_ret
    exact ⟨_, rfl, ownsRow_sorted (by simp) hbase hgb r1 r2 r3, hb.grown (grownBy_sorted _) hb.size (fun j hj => by cases hj; exact hbase)⟩

/-- slices.Sort's two contracts at this dump -/
theorem sorts (m : Nat) : AnyZ.SortsIn Tryz.prog Tryz.sortedZ_ren Fence.wide m :=
  ⟨fun blk off cap ss W hH hblk hsz => callsIn_wide.2 (Tryz.slices_Sort_string blk off cap ss W hH hblk hsz),
   fun p cap W => callsIn_wide.2 (Tryz.slices_Sort_string_none p cap W)⟩

theorem seq_values (n : Nat) (hn : 1 ≤ n) (Bs cap : Nat) (a : Option Addr) (ts : List (List UInt8)) (hx : ts.length ≤ 1048576) (w : World) (hS : Strs w a (ts.map S)) (hBl : Bs < w.heap.size) (hBs : w.cell? ⟨Bs, 0, none⟩ = some (.slice a ts.length cap)) :
    SeqB Fence.wide n Tryz.prog 90 #[.pointer (some ⟨Bs, 0, none⟩)] ts w := fun l J W hW hJ hY h0 =>
  values_in Fence.wide n trivial rfl hn l Bs cap a ts hx w hS J hJ hY W ((hW.cell (p := ⟨Bs, 0, none⟩) hBl).trans hBs) h0

/-- slices.Sorted(slices.Values(..)): the iterator's call -/
theorem sorted_values (Bs cap : Nat) (a : Option Addr) (ts : List (List UInt8)) (hx : ts.length ≤ 1048576) (w : World) (hS : Strs w a (ts.map S)) (hBl : Bs < w.heap.size) (hBs : w.cell? ⟨Bs, 0, none⟩ = some (.slice a ts.length cap)) :
    Calls Tryz.prog 66 #[.func (.func 90) #[] #[.pointer (some ⟨Bs, 0, none⟩)]] w fun e w' => ∃ v : Value, e = .returned v ∧
      w'.ownsRow w.heap.size 9 1 v ts.length ((ts.mergeSort (fun x y => decide (x ≤ y))).map encStr) ∧ Below w.heap.size w w' := by
  refine (callsIn_wide (n := 6)).1 ?_
  have := sorted_in Tryz.sortedZ Fence.wide 6 trivial trivial trivial trivial rfl (by omega) (sorts _) (enters_of Tryz.func89 (by kernel_rfl) rfl) 90 #[.pointer (some ⟨Bs, 0, none⟩)] trivial (enters_of Tryz.func90 (by kernel_rfl) rfl) ts (by unfold maxLen; omega) (by omega) w
    (seq_values 3 (by omega) Bs cap a ts hx w hS hBl hBs)
  exact this
end Go.Proofs.YtadhkeboaapfcaaGreatDoor.SeqW
namespace Go.Proofs.YtadhkeboaapfcaaGreatDoor.TagW
open Go.RowKit Go.Shelf Go.Maps Go.Sort OctMath NameMath

/-- slices.Compact of an own row: how long what it hands back is -/
theorem compact_any (base : Nat) (v : Value) (ss : List (List UInt8)) (hx : ss.length ≤ 1048576) (w0 w : World) (hb : Below base w0 w) (h : w.ownsRow base 9 1 v ss.length (ss.map encStr)) :
    Calls Tryz.prog 68 #[v] w fun e w' => (∃ a c, e = .returned (.slice a (Lib.compact ss).length c)) ∧ Below base w0 w' := by
  rcases h.2 with ⟨rfl, hz⟩ | ⟨gb, cap, cur, rfl, hbase, hgb, r1, r2, r3, r4⟩
  · have hss : ss = [] := List.eq_nil_of_length_eq_zero hz
    subst hss
    refine (Tryz.slices_Compact_string_empty none 0 w).mono ?_
    rintro e w' ⟨rfl, rfl⟩
    exact ⟨⟨none, 0, rfl⟩, hb⟩
  · have hH : Holds encStr w gb 0 ss.toArray := holds_of_block hgb (by simpa using r4)
    refine (Tryz.slices_Compact_string gb 0 cap ss w hH (by omega) (by omega)).mono ?_
    rintro e w' ⟨rfl, q, rfl⟩
    exact ⟨⟨_, _, rfl⟩, Lib.below_putRow hb hbase⟩

/-- slices.Clone of a slice of texts: a row of its own -/
theorem clone_any (a : Option Addr) (cap : Nat) (ts : List (List UInt8)) (hx : ts.length ≤ 1048576) (w : World) (hS : Strs w a (ts.map S)) :
    Calls Tryz.prog 69 #[.slice a ts.length cap] w fun e w' => ∃ v, e = .returned v ∧ w'.ownsRow w.heap.size 9 1 v ts.length (ts.map encStr) ∧ Below w.heap.size w w' := by
  cases a with
  | none =>
    have hts : ts = [] := by
      cases ts with
      | nil => rfl
      | cons t r => obtain ⟨b, off, h, _⟩ := hS 0 (by simp); cases h
    subst hts
    refine (Tryz.slices_Clone_string_nil 0 cap w).mono ?_
    rintro e w' ⟨rfl, rfl⟩
    exact ⟨_, rfl, ⟨rfl, .inl ⟨rfl, rfl⟩⟩, Below.refl _ _⟩
  | some p =>
    by_cases h0 : ts = []
    · subst h0
      refine (Tryz.slices_Clone_string_zero p cap w).mono ?_
      rintro e w' ⟨v, rfl, h, _, hb⟩
      exact ⟨v, rfl, h, hb⟩
    · have hp : p.spot = none := by
        obtain ⟨b, off, h, _⟩ := hS 0 (by rw [List.length_map]; exact List.length_pos_iff.2 h0)
        cases h; rfl
      obtain ⟨b, off, sp⟩ := p
      cases hp
      have hc : ∀ j, j < (ts.map S).length → w.cell? ⟨b, off + j, none⟩ = some (.string ((ts.map S).getD j ByteArray.empty)) := fun j hj => by
        obtain ⟨b', off', h, hc⟩ := hS j hj
        cases h
        rw [hc]
        rw [List.getD_eq_getElem?_getD, List.getElem?_eq_getElem hj]; rfl
      refine (Tryz.slices_Clone_string b off ts.length cap (ts.map S) w (by simp) (by omega) hc).mono ?_
      rintro e w' ⟨v, rfl, h, _, hb⟩
      refine ⟨v, rfl, ?_, hb⟩
      have e2 : ((ts.map S).take ts.length).map Value.string = ts.map encStr := by
        rw [List.take_of_length_le (by simp), List.map_map]; rfl
      rwa [e2] at h

/-- of whatever texts one may ask a filter -/
def dupL (ts : List (List UInt8)) : Bool := decide ((Lib.compact (ts.mergeSort (fun x y => decide (x ≤ y)))).length < ts.length)
/-- tag.New's answer -/
def newE (ts : List (List UInt8)) : Int := if ts.all plainL = false then 11 else if dupL ts = true then 10 else if 4 < ts.length then 6 else 0

attribute [local go_sem] Oper.semAt_some
theorem values_any (a : Option Addr) (n cap : Nat) (w : World) :
    Calls Tryz.prog 67 #[.slice a n cap] w fun e w' => e = .returned (.func (.func 90) #[] #[.pointer (some ⟨w.heap.size, 0, none⟩)]) ∧ w' = w.alloc (.cells #[.slice a n cap] 22) := by
  go_enter Tryz.func67, Tryz.ntmps67
  go_wp2_with fail
  go_ret
  exact ⟨rfl, rfl⟩
theorem own_cap {w : World} {base n : Nat} {e : TypeId} {a : Option Addr} {c : Nat} {xs : List Value} (h : w.ownsRow base e 1 (.slice a n c) n xs) : n ≤ c := by
  rcases h.2 with ⟨h1, h0⟩ | ⟨g, cap, cur, h1, hb, hg, hc1, hc2, hcs, hcur⟩
  · cases h1; exact Nat.le_refl _
  · cases h1; omega
/-- a filter in memory: of these tags -/
def FilterAt (base : Nat) (w : World) (p : Value) (ts : List (List UInt8)) : Prop :=
  ∃ B ad cp, p = .pointer (some ⟨B, 0, none⟩) ∧ base ≤ B ∧ w.cell? ⟨B, 0, none⟩ = some (.slice ad ts.length cp) ∧ Strs w ad (ts.map S) ∧ ts.length ≤ cp
set_option maxRecDepth 100000 in
set_option maxHeartbeats 1600000 in
theorem new_any (a : Option Addr) (cap : Nat) (ts : List (List UInt8)) (hx : ts.length ≤ 1048576) (hz : ∀ t ∈ ts, t.length ≤ 1099511627776) (W : World) (hS : Strs W a (ts.map S)) :
    Calls Tryz.prog 41 #[.slice a ts.length cap] W fun e w' => ∃ p, e = .returned (.tuple #[p, .int .i64 (newE ts)]) ∧ Below W.heap.size W w' ∧ (newE ts = 0 → FilterAt W.heap.size w' p ts) := by
  have HS := Lib.hid hS
  clear hS
  have HE : Hid (newE ts = if ts.all plainL = false then 11 else if dupL ts = true then 10 else if 4 < ts.length then 6 else 0) := rfl
  have HA := Lib.hid (NameW.all_any a cap ts hx hz W HS.out)
  go_enter Tryz.func41, Tryz.ntmps41
  go_wp2_with fail
  refine HA.out.mono ?_
  rintro e w1 ⟨rfl, hb⟩
  have HB := Lib.hid hb
  clear hb HA
  generalize ts.all plainL = pl at *
  cases pl with
  | false =>
    have HT : Hid (newE ts = 11) := HE.out
    go_wp2_with fail
    go_ret2
    rw [HT.out]
    exact ⟨.pointer none, rfl, HB.out, fun h => by cases h⟩
  | true =>
    have hV := fun w => values_any a ts.length cap w
    go_wp2_with fail
    refine (hV _).mono ?_
    rintro e w2 ⟨rfl, rfl⟩
    clear hV
    have HB2 : Hid (RowKit.Below W.heap.size W (w1.alloc (.cells #[.slice a ts.length cap] 22))) := HB.out.alloc HB.out.size _
    have HSO := Lib.hid (SeqW.sorted_values w1.heap.size cap a ts hx (w1.alloc (.cells #[.slice a ts.length cap] 22)) (HS.out.below HB2.out) (by simp) (by rw [World.cell?_alloc_new]; rfl))
    go_wp2_with fail
    refine HSO.out.mono ?_
    rintro e w3 ⟨v, rfl, hrow, hb⟩
    have HB3 := Lib.hid (HB2.out.trans (hb.mono HB2.out.size))
    have hlen : (ts.mergeSort (fun x y => decide (x ≤ y))).length = ts.length := List.length_mergeSort _
    have HD : Hid (dupL ts = decide ((Lib.compact (ts.mergeSort (fun x y => decide (x ≤ y)))).length < ts.length)) := rfl
    generalize ts.mergeSort (fun x y => decide (x ≤ y)) = ss at *
    have HC := Lib.hid (compact_any _ v ss (by omega) _ w3 HB3.out (by rw [hlen]; exact SeqW.own_base hrow HB2.out.size))
    generalize (Lib.compact ss).length = cn at *
    clear hrow hb HSO hlen
    go_wp2_with fail
    refine HC.out.mono ?_
    rintro e w4 ⟨⟨a4, c4, rfl⟩, hb⟩
    have HB4 := Lib.hid hb
    clear hb HC
    have hdl : decide ((cn : Int) < (ts.length : Int)) = decide (cn < ts.length) := decide_eq_decide.2 (by omega)
    by_cases hd : cn < ts.length
    · have hdt : decide (cn < ts.length) = true := decide_eq_true hd
      have HT : Hid (newE ts = 10) := by show _ = _; rw [HE.out, HD.out, decide_eq_true hd]; rfl
      clear hdl hd HE HD
      go_wp2_with fail
      go_ret2
      rw [HT.out]
      exact ⟨.pointer none, rfl, HB4.out, fun h => by cases h⟩
    · have hdt : decide (cn < ts.length) = false := decide_eq_false hd
      by_cases h4 : 4 < ts.length
      · have h4t : decide ((4 : Int) < (ts.length : Int)) = true := decide_eq_true (by omega)
        have HT : Hid (newE ts = 6) := by show _ = _; rw [HE.out, HD.out, decide_eq_false hd, if_pos h4]; rfl
        clear hdl hd HE HD h4
        go_wp2_with fail
        go_ret2
        rw [HT.out]
        exact ⟨.pointer none, rfl, HB4.out, fun h => by cases h⟩
      · have h4t : decide ((4 : Int) < (ts.length : Int)) = false := decide_eq_false (by omega)
        have HT : Hid (newE ts = 0) := by show _ = _; rw [HE.out, HD.out, decide_eq_false hd, if_neg h4]; rfl
        have HCL := Lib.hid (clone_any a cap ts hx w4 (HS.out.below HB4.out))
        clear hdl hd HE HD h4
        go_wp2_with fail
        refine HCL.out.mono ?_
        rintro e w5 ⟨v5, rfl, hrow5, hb5⟩
        have HB5 := Lib.hid (HB4.out.trans (hb5.mono HB4.out.size))
        obtain ⟨ad, cp, rfl, hr5, _⟩ := Row1.of_own hrow5
        have hcap := own_cap hrow5
        have HR5 : Hid (Strs w5 ad (ts.map S)) := Row1.to_strs (by rw [List.map_map]; exact hr5)
        have HCAP := Lib.hid hcap
        clear hb5 HCL hrow5 hr5 hcap
        have HBA := Lib.hid (HB5.out.alloc HB5.out.size (.cells #[.slice ad ts.length cp] 90))
        have HRA : Hid (Strs (w5.alloc (.cells #[.slice ad ts.length cp] 90)) ad (ts.map S)) := HR5.out.below ((Below.refl _ w5).alloc (Nat.le_refl _) _)
        go_wp2_with fail
        go_ret2
        rw [HT.out]
        exact ⟨_, rfl, HBA.out, fun _ => ⟨w5.heap.size, ad, cp, rfl, HB5.out.size, by rw [World.cell?_alloc_new]; rfl, HRA.out, HCAP.out⟩⟩
end Go.Proofs.YtadhkeboaapfcaaGreatDoor.TagW
namespace Go.Proofs.YtadhkeboaapfcaaGreatDoor.ContW
open Go.RowKit OctMath
set_option linter.unusedVariables false
set_option linter.unusedSimpArgs false

set_option maxRecDepth 100000 in
set_option maxHeartbeats 1600000 in
theorem index_int (g : Nat) (eg : ∀ args w, (callFunc g args).run Tryz.prog w = .ok (.enter g args) w) (p : Int → Bool) (a : Option Addr) (cap : Nat) (xs : List (Int)) (hx : xs.length ≤ 1048576) (hP : ∀ x ∈ xs, ∀ w : World, Calls Tryz.prog g #[.int .i64 x] w fun e w' => e = .returned (.bool (p x)) ∧ w' = w) (W : World) (h : Row1 W a (xs.map fun x => .int .i64 x)) :
    Calls Tryz.prog 91 #[.slice a xs.length cap, .func (.func g) #[] #[]] W fun e w' => ∃ r : Int, e = .returned (.int .i64 r) ∧ decide (0 ≤ r) = xs.any p ∧ Drawn W w' := by
  have HS := Lib.hid h
  clear h
  go_enter Tryz.func91, Tryz.ntmps91
  go_wp2_with fail
  go_loopw [8] (fun i wr => ∃ k : Nat, k ≤ xs.length ∧ i = .int .i64 (k : Int) ∧ Hid ((xs.take k).any p = false) ∧ Hid (Drawn W wr)) (fun i _ => xs.length + 1 - (intOf i).toNat)
  case atStart => exact ⟨0, by omega, rfl, rfl, Drawn.refl _⟩
  case round =>
    obtain ⟨k, hk, rfl, HA, HD⟩ := hrel
    by_cases hlt : k < xs.length
    · obtain ⟨b, off, rfl, hcell⟩ := HS.out k (by rw [List.length_map]; exact hlt)
      rw [← HD.out.cell, List.getElem_map] at hcell
      have hstep : (xs.take (k + 1)).any p = ((xs.take k).any p || p xs[k]) := by rw [List.take_succ_eq_append_getElem hlt, List.any_append, List.any_cons, List.any_nil, Bool.or_false]
      have hmem : p xs[k] = true → xs.any p = true := fun h => by rw [List.any_eq_true]; exact ⟨xs[k], List.getElem_mem hlt, h⟩
      have hC := hP xs[k] (List.getElem_mem hlt)
      generalize xs[k] = x at *
      have HST := Lib.hid hstep
      have HMEM := Lib.hid hmem
      clear hstep hmem
      generalize p x = px at *
      go_wp2_with fail
      refine (hC _).mono ?_
      rintro e w2 ⟨rfl, rfl⟩
      clear hC hcell
      cases px with
      | true =>
        have HT : Hid (xs.any p = true) := HMEM.out rfl
        clear HST HMEM HA
        go_wp2_with fail
        go_ret
        exact ⟨_, rfl, by rw [HT.out]; exact decide_eq_true (by omega), HD.out⟩
      | false =>
        have HT : Hid ((xs.take (k + 1)).any p = false) := by show _ = _; rw [HST.out, HA.out]; rfl
        clear HST HMEM HA
        go_wp2_with fail
        go_roundw
        case rel => exact ⟨k + 1, by omega, by go_num, HT, HD⟩
        case measure => simp [intOf]; omega
    · have ek : k = xs.length := by omega
      subst ek
      rw [List.take_length] at HA
      go_wp2_with fail
      go_ret
      exact ⟨_, rfl, by rw [HA.out]; rfl, HD.out⟩
set_option maxHeartbeats 1600000 in
theorem contains_int (g : Nat) (eg : ∀ args w, (callFunc g args).run Tryz.prog w = .ok (.enter g args) w) (p : Int → Bool) (a : Option Addr) (cap : Nat) (xs : List (Int)) (hx : xs.length ≤ 1048576) (hP : ∀ x ∈ xs, ∀ w : World, Calls Tryz.prog g #[.int .i64 x] w fun e w' => e = .returned (.bool (p x)) ∧ w' = w) (W : World) (h : Row1 W a (xs.map fun x => .int .i64 x)) :
    Calls Tryz.prog 70 #[.slice a xs.length cap, .func (.func g) #[] #[]] W fun e w' => e = .returned (.bool (xs.any p)) ∧ Drawn W w' := by
  have hC := index_int g eg p a cap xs hx hP W h
  clear h hP
  go_enter Tryz.func70, Tryz.ntmps70
  go_wp2_with fail
  refine hC.mono ?_
  rintro e w2 ⟨r, rfl, hr, hd⟩
  go_wp2_with fail
  go_ret
  rw [← hr]
  exact ⟨rfl, hd⟩

set_option maxRecDepth 100000 in
set_option maxHeartbeats 1600000 in
theorem index_str (g : Nat) (eg : ∀ args w, (callFunc g args).run Tryz.prog w = .ok (.enter g args) w) (p : List UInt8 → Bool) (a : Option Addr) (cap : Nat) (xs : List (List UInt8)) (hx : xs.length ≤ 1048576) (hP : ∀ x ∈ xs, ∀ w : World, Calls Tryz.prog g #[.string (S x)] w fun e w' => e = .returned (.bool (p x)) ∧ w' = w) (W : World) (h : Row1 W a (xs.map fun x => .string (S x))) :
    Calls Tryz.prog 73 #[.slice a xs.length cap, .func (.func g) #[] #[]] W fun e w' => ∃ r : Int, e = .returned (.int .i64 r) ∧ decide (0 ≤ r) = xs.any p ∧ Drawn W w' := by
  have HS := Lib.hid h
  clear h
  go_enter Tryz.func73, Tryz.ntmps73
  go_wp2_with fail
  go_loopw [8] (fun i wr => ∃ k : Nat, k ≤ xs.length ∧ i = .int .i64 (k : Int) ∧ Hid ((xs.take k).any p = false) ∧ Hid (Drawn W wr)) (fun i _ => xs.length + 1 - (intOf i).toNat)
  case atStart => exact ⟨0, by omega, rfl, rfl, Drawn.refl _⟩
  case round =>
    obtain ⟨k, hk, rfl, HA, HD⟩ := hrel
    by_cases hlt : k < xs.length
    · obtain ⟨b, off, rfl, hcell⟩ := HS.out k (by rw [List.length_map]; exact hlt)
      rw [← HD.out.cell, List.getElem_map] at hcell
      have hstep : (xs.take (k + 1)).any p = ((xs.take k).any p || p xs[k]) := by rw [List.take_succ_eq_append_getElem hlt, List.any_append, List.any_cons, List.any_nil, Bool.or_false]
      have hmem : p xs[k] = true → xs.any p = true := fun h => by rw [List.any_eq_true]; exact ⟨xs[k], List.getElem_mem hlt, h⟩
      have hC := hP xs[k] (List.getElem_mem hlt)
      generalize xs[k] = x at *
      have HST := Lib.hid hstep
      have HMEM := Lib.hid hmem
      clear hstep hmem
      generalize p x = px at *
      go_wp2_with fail
      refine (hC _).mono ?_
      rintro e w2 ⟨rfl, rfl⟩
      clear hC hcell
      cases px with
      | true =>
        have HT : Hid (xs.any p = true) := HMEM.out rfl
        clear HST HMEM HA
        go_wp2_with fail
        go_ret
        exact ⟨_, rfl, by rw [HT.out]; exact decide_eq_true (by omega), HD.out⟩
      | false =>
        have HT : Hid ((xs.take (k + 1)).any p = false) := by show _ = _; rw [HST.out, HA.out]; rfl
        clear HST HMEM HA
        go_wp2_with fail
        go_roundw
        case rel => exact ⟨k + 1, by omega, by go_num, HT, HD⟩
        case measure => simp [intOf]; omega
    · have ek : k = xs.length := by omega
      subst ek
      rw [List.take_length] at HA
      go_wp2_with fail
      go_ret
      exact ⟨_, rfl, by rw [HA.out]; rfl, HD.out⟩
set_option maxHeartbeats 1600000 in
theorem contains_str (g : Nat) (eg : ∀ args w, (callFunc g args).run Tryz.prog w = .ok (.enter g args) w) (p : List UInt8 → Bool) (a : Option Addr) (cap : Nat) (xs : List (List UInt8)) (hx : xs.length ≤ 1048576) (hP : ∀ x ∈ xs, ∀ w : World, Calls Tryz.prog g #[.string (S x)] w fun e w' => e = .returned (.bool (p x)) ∧ w' = w) (W : World) (h : Row1 W a (xs.map fun x => .string (S x))) :
    Calls Tryz.prog 46 #[.slice a xs.length cap, .func (.func g) #[] #[]] W fun e w' => e = .returned (.bool (xs.any p)) ∧ Drawn W w' := by
  have hC := index_str g eg p a cap xs hx hP W h
  clear h hP
  go_enter Tryz.func46, Tryz.ntmps46
  go_wp2_with fail
  refine hC.mono ?_
  rintro e w2 ⟨r, rfl, hr, hd⟩
  go_wp2_with fail
  go_ret
  rw [← hr]
  exact ⟨rfl, hd⟩
end Go.Proofs.YtadhkeboaapfcaaGreatDoor.ContW
