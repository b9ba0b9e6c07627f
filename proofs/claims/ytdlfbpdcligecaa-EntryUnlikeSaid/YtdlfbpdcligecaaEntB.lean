/- entry: get, and what reads entries. -/
import Derived.Test.YtdlfbpdcligecaaEntA
namespace Go.Proofs.Ytdlfbpdcligecaa.EntW
open Go.RowKit OctW OctMath
set_option maxRecDepth 100000
set_option linter.unusedSimpArgs false
set_option linter.unusedVariables false

/-- numbers of so many bytes each, read one behind the other -/
def numsR : List Nat → RS → List Nat × RS
  | [], r => ([], r)
  | n :: ns, r => ((numR (n : Int) r).1 :: (numsR ns (numR (n : Int) r).2).1, (numsR ns (numR (n : Int) r).2).2)
theorem numsR_append (a b : List Nat) : ∀ r, numsR (a ++ b) r = ((numsR a r).1 ++ (numsR b (numsR a r).2).1, (numsR b (numsR a r).2).2) := by
  induction a with
  | nil => intro r; rfl
  | cons n a ih => intro r; simp only [List.cons_append, numsR, ih]
theorem numsR_take (ns : List Nat) (k : Nat) (h : k < ns.length) (r : RS) : numsR (ns.take (k + 1)) r = ((numsR (ns.take k) r).1 ++ [(numR (ns[k] : Int) (numsR (ns.take k) r).2).1], (numR (ns[k] : Int) (numsR (ns.take k) r).2).2) := by
  rw [List.take_succ_eq_append_getElem h, numsR_append]; rfl
theorem numsR_length (ns : List Nat) : ∀ r, (numsR ns r).1.length = ns.length := by
  induction ns with
  | nil => intro r; rfl
  | cons n ns ih => intro r; simp [numsR, ih]
theorem numsR_len (ns : List Nat) : ∀ r, (numsR ns r).2.s.length ≤ r.s.length := by
  induction ns with
  | nil => intro r; exact Nat.le_refl _
  | cons n ns ih => intro r; exact Nat.le_trans (ih _) (numR_len _ _)

/-- the blocks of numbers with their widths -/
def Wb (g : Nat) (ns xs : List Nat) (w : World) : Prop := ∀ i (h : i < ns.length), w.heap[g + i]? = some (.cells #[.int .i64 (ns[i] : Int), .int .i64 (xs.getD i 0 : Nat)] 80 (0, 0))
theorem Wb.mod {M : Nat → Prop} {g : Nat} {ns xs : List Nat} {w w' : World} (h : Wb g ns xs w) (hm : Mod M w w') (hM : ∀ i, i < ns.length → ¬ M (g + i)) : Wb g ns xs w' := fun i hi => (hm.block _ (Array.getElem?_eq_some_iff.1 (h i hi)).1 (hM i hi)).trans (h i hi)
theorem Wb.cell0 {g : Nat} {ns xs : List Nat} {w : World} (h : Wb g ns xs w) (i : Nat) (hi : i < ns.length) : w.cell? ⟨g + i, 0, none⟩ = some (.int .i64 (ns[i] : Int)) := by unfold World.cell?; rw [show w.heap[(⟨g + i, 0, none⟩ : Addr).block]? = _ from h i hi]; rfl
theorem Wb.cell1 {g : Nat} {ns xs : List Nat} {w : World} (h : Wb g ns xs w) (i : Nat) (hi : i < ns.length) : w.cell? ⟨g + i, 1, none⟩ = some (.int .i64 (xs.getD i 0 : Nat)) := by unfold World.cell?; rw [show w.heap[(⟨g + i, 1, none⟩ : Addr).block]? = _ from h i hi]; rfl
theorem Wb.free1 {g : Nat} {ns xs : List Nat} {w : World} (h : Wb g ns xs w) (i : Nat) (hi : i < ns.length) : w.frozen? ⟨g + i, 1, none⟩ = false := by unfold World.frozen?; rw [show w.heap[(⟨g + i, 1, none⟩ : Addr).block]? = _ from h i hi]; rfl
theorem Wb.lt {g : Nat} {ns xs : List Nat} {w : World} (h : Wb g ns xs w) (i : Nat) (hi : i < ns.length) : g + i < w.heap.size := (Array.getElem?_eq_some_iff.1 (h i hi)).1
theorem Wb.set_ {g : Nat} {ns xs : List Nat} {w : World} (h : Wb g ns xs w) (k x : Nat) (hk : k < ns.length) (hx : xs.length = k) : Wb g ns (xs ++ [x]) (w.setCell ⟨g + k, 1, none⟩ (.int .i64 (x : Int))) := by
  intro i hi
  by_cases e : i = k
  · subst e
    rw [heap_setCell_own (h i hi)]
    simp [hx]
  · rw [Below.heap_setCell _ _ _ _ (show g + i ≠ g + k by omega), h i hi]
    have : (xs ++ [x]).getD i 0 = xs.getD i 0 := by
      by_cases hlt : i < k
      · simp [List.getD, List.getElem?_append_left (show i < xs.length by omega)]
      · simp [List.getD, List.getElem?_append_right (show xs.length ≤ i by omega), List.getElem?_eq_none (show xs.length ≤ i by omega), List.getElem?_eq_none (show [x].length ≤ i - xs.length by simp; omega)]
    rw [this]

theorem mod_then {M N : Nat → Prop} {u v w : World} (h : Mod N u v) (k : Mod M v w) (hM : ∀ b, b < u.heap.size → M b → N b) : Mod N u w :=
  ⟨k.os.trans h.os, k.tape.trans h.tape, k.output.trans h.output, Nat.le_trans h.size k.size, fun i hi hN => (k.block i (Nat.lt_of_lt_of_le hi h.size) (fun hm => hN (hM i hi hm))).trans (h.block i hi hN)⟩

set_option maxHeartbeats 1600000 in
theorem get_any (g p cap : Nat) (ns : List Nat) (hl : ns.length ≤ 16) (hw : ∀ n ∈ ns, 1 ≤ n ∧ n ≤ 7) (l : List UInt8) (hs : l.length ≤ 140737488351232) (W : World) (hS : ∀ i, i < ns.length → W.cell? ⟨p, i, none⟩ = some (.pointer (some ⟨g + i, 0, none⟩))) (hW : Wb g ns [] W) (hp : ∀ i, i < ns.length → p ≠ g + i) :
    Calls Try.prog 47 #[.string (S l), .slice (some ⟨p, 0, none⟩) ns.length cap] W fun e w' => e = .returned (.bool (endR (numsR ns ⟨l, 0⟩).2 == 0)) ∧ Wb g ns (numsR ns ⟨l, 0⟩).1 w' ∧ Mod (fun b => g ≤ b ∧ b < g + ns.length) W w' := by
  have HS := Lib.hid hS
  have HW := Lib.hid hW
  have HP := Lib.hid hp
  have HN := Lib.hid hw
  clear hS hW hp hw
  go_enter Try.func47, Try.ntmps47
  go_wp2_with fail
  refine (new_any l _).mono ?_
  rintro e w1 ⟨rfl, hr1, hb1⟩
  have HR : Hid (Rd W.heap.size (numsR (ns.take 0) ⟨l, 0⟩).2 w1) := hr1
  have HM : Hid (Mod (fun b => g ≤ b ∧ b < g + ns.length) W w1) := Mod.of_below hb1
  have HWB : Hid (Wb g ns (numsR (ns.take 0) ⟨l, 0⟩).1 w1) := HW.out.mod (M := fun _ => False) (Mod.of_below hb1) (fun _ _ x => x)
  clear hr1 hb1
  go_wp2_with fail
  go_loopw [12] (fun i wr => ∃ k : Nat, k ≤ ns.length ∧ i = .int .i64 k ∧ Hid (Rd W.heap.size (numsR (ns.take k) ⟨l, 0⟩).2 wr) ∧ Hid (Wb g ns (numsR (ns.take k) ⟨l, 0⟩).1 wr) ∧ Hid (Mod (fun b => g ≤ b ∧ b < g + ns.length) W wr)) (fun i _ => ns.length - (intOf i).toNat)
  case atStart => exact ⟨0, by omega, rfl, HR, HWB, HM⟩
  case round =>
    clear HR HWB HM
    obtain ⟨k, hk, rfl, HR, HWB, HM⟩ := hrel
    by_cases hlt : k < ns.length
    · have hc := HS.out k hlt
      have hpk := HP.out k hlt
      rw [← HM.out.cell (p := ⟨p, k, none⟩) (cell_lt hc) (fun h => HP.out (p - g) (by have h1 : g ≤ p := h.1; have h2 : p < g + ns.length := h.2; omega) (by have h1 : g ≤ p := h.1; show p = g + (p - g); omega))] at hc
      have h0 := HWB.out.cell0 k hlt
      have hnk := HN.out ns[k] (by simp)
      have hlen := numsR_len (ns.take k) ⟨l, 0⟩
      have hlast := HR.out.lt
      have hgl := HW.out.lt k hlt
      have hstep := numsR_take ns k hlt ⟨l, 0⟩
      have hxl := numsR_length (ns.take k) ⟨l, 0⟩
      rw [List.length_take, Nat.min_eq_left hk] at hxl
      have hkk : k < ns.length := hlt
      generalize ns[k] = n at *
      obtain ⟨hn1, hn7⟩ := hnk
      generalize numsR (ns.take k) ⟨l, 0⟩ = q at *
      obtain ⟨xs, r⟩ := q
      simp only at *
      have hcall := num_any W.heap.size r (n : Int) (by omega) (by omega) (by omega) wr HR.out
      generalize numR (n : Int) r = nr at *
      obtain ⟨x, r'⟩ := nr
      simp only at *
      have HST := Lib.hid hstep
      have HC := Lib.hid hcall
      have HXL := Lib.hid hxl
      clear hstep hcall hxl
      go_wp2_with fail
      refine HC.out.mono ?_
      rintro e w2 ⟨rfl, hr2, hm2⟩
      have HWB2 : Hid (Wb g ns xs w2) := HWB.out.mod hm2 (fun i hi h => by have := HW.out.lt i hi; omega)
      have HR2 : Hid (Rd W.heap.size r' (w2.setCell ⟨g + k, 1, none⟩ (.int .i64 (x : Int)))) := hr2.mod ((Mod.refl (fun b => b = g + k) w2).setCell (a := ⟨g + k, 1, none⟩) (Or.inl rfl) _) (fun h => by omega)
      have HM2 : Hid (Mod (fun b => g ≤ b ∧ b < g + ns.length) W (w2.setCell ⟨g + k, 1, none⟩ (.int .i64 (x : Int)))) :=
        (mod_then HM.out hm2 (fun b hb h => by omega)).setCell (a := ⟨g + k, 1, none⟩) (Or.inl ⟨by show g ≤ g + k; omega, by show g + k < _; omega⟩) _
      have HW2 : Hid (Wb g ns (xs ++ [x]) (w2.setCell ⟨g + k, 1, none⟩ (.int .i64 (x : Int)))) := HWB2.out.set_ k x hkk HXL.out
      have hc1 := HWB2.out.cell1 k hkk
      have hf1 := HWB2.out.free1 k hkk
      clear hr2 hm2 HWB HWB2 HR HM HC hc h0
      go_wp2_with fail
      go_roundw
      case rel => exact ⟨k + 1, by omega, by go_num, by rw [HST.out]; exact HR2, by rw [HST.out]; exact HW2, HM2⟩
      case measure => simp [intOf]; omega
    · have ek : k = ns.length := by omega
      subst ek
      rw [List.take_length] at HR HWB
      go_wp2_with fail
      refine (end_any W.heap.size _ _ HR.out).mono ?_
      rintro e w2 ⟨rfl, rfl⟩
      go_wp2_with fail
      go_ret
      exact ⟨ret_bool (by rw [Bool.eq_iff_iff]; simp), HWB.out, HM.out⟩
end Go.Proofs.Ytdlfbpdcligecaa.EntW
