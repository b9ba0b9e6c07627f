/- octet.Reader in memory; its small methods. -/
import Derived.Test.YtdlfbpdcligecaaOctA
namespace Go.Proofs.Ytdlfbpdcligecaa.OctW
open Go.RowKit OctMath
set_option maxRecDepth 100000
set_option linter.unusedSimpArgs false
set_option linter.unusedVariables false

theorem heap_setCell_own {w : World} {B : Nat} {cs : Array Value} {T : TypeId} {f : Nat × Nat} (h : w.heap[B]? = some (.cells cs T f)) (k : Nat) (v : Value) :
    (w.setCell ⟨B, k, none⟩ v).heap[B]? = some (.cells (cs.setIfInBounds k v) T f) := by
  simp only [World.setCell, Array.getElem?_modify]
  simp [h]

/-- a reader lies in block B -/
def Rd (B : Nat) (r : RS) (w : World) : Prop := w.heap[B]? = some (.cells #[.string (S r.s), .int .i64 (r.e : Int)] 90 (0, 0))
theorem Rd.s_cell {B : Nat} {r : RS} {w : World} (h : Rd B r w) : w.cell? ⟨B, 0, none⟩ = some (.string (S r.s)) := by unfold World.cell?; rw [show w.heap[(⟨B, 0, none⟩ : Addr).block]? = _ from h]; rfl
theorem Rd.e_cell {B : Nat} {r : RS} {w : World} (h : Rd B r w) : w.cell? ⟨B, 1, none⟩ = some (.int .i64 (r.e : Int)) := by unfold World.cell?; rw [show w.heap[(⟨B, 1, none⟩ : Addr).block]? = _ from h]; rfl
theorem Rd.s_free {B : Nat} {r : RS} {w : World} (h : Rd B r w) : w.frozen? ⟨B, 0, none⟩ = false := by unfold World.frozen?; rw [show w.heap[(⟨B, 0, none⟩ : Addr).block]? = _ from h]; rfl
theorem Rd.e_free {B : Nat} {r : RS} {w : World} (h : Rd B r w) : w.frozen? ⟨B, 1, none⟩ = false := by unfold World.frozen?; rw [show w.heap[(⟨B, 1, none⟩ : Addr).block]? = _ from h]; rfl
theorem Rd.lt {B : Nat} {r : RS} {w : World} (h : Rd B r w) : B < w.heap.size := (Array.getElem?_eq_some_iff.1 h).1
theorem Rd.set0 {B : Nat} {r : RS} {w : World} (h : Rd B r w) (s : List UInt8) : Rd B ⟨s, r.e⟩ (w.setCell ⟨B, 0, none⟩ (.string (S s))) := heap_setCell_own h 0 _
theorem Rd.set1 {B : Nat} {r : RS} {w : World} (h : Rd B r w) (e : Nat) : Rd B ⟨r.s, e⟩ (w.setCell ⟨B, 1, none⟩ (.int .i64 (e : Int))) := heap_setCell_own h 1 _
theorem Rd.mod {M : Nat → Prop} {B : Nat} {r : RS} {w w' : World} (h : Rd B r w) (hm : Mod M w w') (hB : ¬ M B) : Rd B r w' := (hm.block B h.lt hB).trans h
theorem Rd.drew {B : Nat} {r : RS} {w : World} (h : Rd B r w) : Rd B r w.drew := h
theorem Rd.drawn {B : Nat} {r : RS} {w w' : World} (h : Rd B r w) (hd : Drawn w w') : Rd B r w' := by obtain ⟨n, rfl⟩ := hd; exact h
/-- what a call on the reader leaves -/
abbrev One (B : Nat) (w w' : World) : Prop := Mod (fun k => k = B) w w'
theorem drawn_one {B : Nat} {w w' : World} (h : Drawn w w') : One B w w' := (Mod.refl _ w).drawn h

theorem err_any (B : Nat) (r : RS) (w : World) (h : Rd B r w) : Calls Try.prog 22 #[.pointer (some ⟨B, 0, none⟩)] w fun e w' => e = .returned (.int .i64 (r.e : Int)) ∧ w = w' := by
  have he := h.e_cell
  clear h
  go_enter Try.func22, Try.ntmps22
  go_wp2_with fail
  go_ret
  exact ⟨rfl, rfl⟩
theorem left_any (B : Nat) (r : RS) (w : World) (h : Rd B r w) : Calls Try.prog 24 #[.pointer (some ⟨B, 0, none⟩)] w fun e w' => e = .returned (.int .i64 (r.s.length : Int)) ∧ w = w' := by
  have he := h.s_cell
  have hs := S_size r.s
  clear h
  go_enter Try.func24, Try.ntmps24
  go_wp2_with fail
  go_ret
  exact ⟨rfl, rfl⟩
theorem new_any (l : List UInt8) (w : World) : Calls Try.prog 19 #[.string (S l)] w fun e w' => e = .returned (.pointer (some ⟨w.heap.size, 0, none⟩)) ∧ Rd w.heap.size ⟨l, 0⟩ w' ∧ Below w.heap.size w w' := by
  go_enter Try.func19, Try.ntmps19
  go_wp2_with fail
  go_ret
  exact ⟨rfl, heap_alloc_new _ _, (Below.refl _ w).alloc (Nat.le_refl _) _⟩
set_option maxHeartbeats 400000 in
theorem fails_any (B : Nat) (r : RS) (w : World) (h : Rd B r w) (k : Nat) (s : List UInt8) : Calls Try.prog 46 #[.pointer (some ⟨B, 0, none⟩), .int .i64 (k : Int), .string (S s)] w fun e w' => e = .returned (.tuple #[]) ∧ Rd B ⟨s, k⟩ w' ∧ One B w w' := by
  have he := h.e_cell
  have hs := h.s_cell
  have hef := h.e_free
  have hsf := h.s_free
  have h2 := (h.set1 k).set0 s
  have hm : One B w ((w.setCell ⟨B, 1, none⟩ (.int .i64 (k : Int))).setCell ⟨B, 0, none⟩ (.string (S s))) := ((Mod.refl (fun k => k = B) w).setCell (a := ⟨B, 1, none⟩) (Or.inl rfl) _).setCell (a := ⟨B, 0, none⟩) (Or.inl rfl) _
  have h2 := Lib.hid h2
  have hm := Lib.hid hm
  clear h
  go_enter Try.func46, Try.ntmps46
  go_wp2_with fail
  go_end0
  exact ⟨rfl, h2.out, hm.out⟩

theorem ne_b {e : Nat} (h : e ≠ 0) : ((e : Int) != 0) = true := by simp; omega
theorem eq_b {e : Nat} (h : e = 0) : ((e : Int) != 0) = false := by simp; omega
theorem eq_t {e : Nat} (h : e = 0) : ((e : Int) == 0) = true := by simp; omega
theorem eq_f {e : Nat} (h : ¬ e = 0) : ((e : Int) == 0) = false := by simp; omega

theorem end_any (B : Nat) (r : RS) (w : World) (h : Rd B r w) : Calls Try.prog 21 #[.pointer (some ⟨B, 0, none⟩)] w fun e w' => e = .returned (.int .i64 ((endR r : Nat) : Int)) ∧ w = w' := by
  have HR := Lib.hid h; clear h
  go_enter Try.func21, Try.ntmps21
  go_wp2_with (go_at_call 22; refine (err_any B r _ HR.out).mono ?_)
  rintro e w' ⟨rfl, rfl⟩
  by_cases hz : r.e ≠ 0
  · have hb := ne_b hz
    have HZ := Lib.hid hz; clear hz
    go_wp2_with fail
    go_ret
    exact ⟨ret_int (by unfold endR; rw [if_pos HZ.out]), rfl⟩
  · have hb := eq_b (show r.e = 0 by omega)
    have HZ : Hid (r.e = 0) := by simp only [Hid]; omega
    clear hz
    generalize hE : r.e = en at *
    have HE := Lib.hid hE; clear hE
    have HF : Hid (endR r = if r.s.length = 0 then 0 else 4) := by unfold endR; rw [HE.out, if_neg (by rw [HZ.out]; simp)]; rfl
    go_wp2_with (go_at_call 24; refine (left_any B r _ HR.out).mono ?_)
    rintro e w' ⟨rfl, rfl⟩
    by_cases hl : r.s.length = 0
    · have hb2 := eq_t hl
      rw [if_pos hl] at HF
      generalize r.s.length = ln at *
      clear hl
      go_wp2_with fail
      go_ret
      exact ⟨ret_int (by rw [HF.out, HZ.out]), rfl⟩
    · have hb2 := eq_f hl
      rw [if_neg hl] at HF
      generalize r.s.length = ln at *
      clear hl
      go_wp2_with fail
      go_ret
      exact ⟨ret_int (by rw [HF.out]; rfl), rfl⟩

set_option maxHeartbeats 800000 in
theorem take_any (B : Nat) (r : RS) (n : Int) (hn0 : -9223372036854775808 ≤ n) (hn1 : n ≤ 9223372036854775807) (hl : r.s.length ≤ 1152921504606846976) (w : World) (h : Rd B r w) :
    Calls Try.prog 30 #[.pointer (some ⟨B, 0, none⟩), .int .i64 n] w fun e w' => e = .returned (.string (S (takeR n r).1)) ∧ Rd B (takeR n r).2 w' ∧ One B w w' := by
  have HR := Lib.hid h
  have he := h.e_cell
  have hs := h.s_cell
  have hef := h.e_free
  have hsf := h.s_free
  have hsz := S_size r.s
  go_enter Try.func30, Try.ntmps30
  go_wp2_with (go_at_call 22; refine (err_any B r _ HR.out).mono ?_)
  rintro e w' ⟨rfl, rfl⟩
  by_cases hz : r.e ≠ 0
  · have hb := ne_b hz
    have HZ := Lib.hid hz; clear hz
    go_wp2_with fail
    go_ret
    unfold takeR
    rw [if_pos HZ.out]
    exact ⟨rfl, HR.out, Mod.refl _ _⟩
  · have hz0 : r.e = 0 := by omega
    have hb := eq_b hz0
    have HZ := Lib.hid hz; clear hz
    have HZ0 := Lib.hid hz0; clear hz0
    by_cases h0 : n < 0
    · have h2 := Lib.hid (h.set1 1)
      have hm : Hid (One B w (w.setCell ⟨B, 1, none⟩ (.int .i64 ((1 : Nat) : Int)))) := (Mod.refl (fun k => k = B) w).setCell (a := ⟨B, 1, none⟩) (Or.inl rfl) _
      have HT : Hid (takeR n r = ([], ⟨r.s, 1⟩)) := by unfold takeR; rw [if_neg HZ.out, if_pos h0]; rfl
      clear h
      go_wp2_with fail
      go_ret
      rw [HT.out]
      exact ⟨rfl, h2.out, hm.out⟩
    · by_cases h3 : (r.s.length : Int) < n
      · have h2 := Lib.hid (h.set1 3)
        have hm : Hid (One B w (w.setCell ⟨B, 1, none⟩ (.int .i64 ((3 : Nat) : Int)))) := (Mod.refl (fun k => k = B) w).setCell (a := ⟨B, 1, none⟩) (Or.inl rfl) _
        have HT : Hid (takeR n r = ([], ⟨r.s, 3⟩)) := by unfold takeR; rw [if_neg HZ.out, if_neg h0, if_pos h3]; rfl
        clear h
        go_wp2_with fail
        go_ret
        rw [HT.out]
        exact ⟨rfl, h2.out, hm.out⟩
      · obtain ⟨m, rfl⟩ : ∃ m : Nat, n = m := ⟨n.toNat, by omega⟩
        have hm1 : m ≤ (S r.s).size := by rw [hsz]; omega
        have h2 : Hid (Rd B ⟨r.s.drop m, 0⟩ (w.setCell ⟨B, 0, none⟩ (.string (S (r.s.drop m))))) := by have := h.set0 (r.s.drop m); rw [HZ0.out] at this; exact this
        have hm : Hid (One B w (w.setCell ⟨B, 0, none⟩ (.string (S (r.s.drop m))))) := (Mod.refl (fun k => k = B) w).setCell (a := ⟨B, 0, none⟩) (Or.inl rfl) _
        have hd : Hid ((S r.s).extract m r.s.length = S (r.s.drop m)) := by have := S_drop r.s m; rw [S_size] at this; exact this
        have hd2 : Hid ((S r.s).extract 0 m = S (r.s.take m)) := S_take _ _
        have HT : Hid (takeR (m : Int) r = (r.s.take m, ⟨r.s.drop m, 0⟩)) := by unfold takeR; rw [if_neg HZ.out, if_neg h0, if_neg h3]; rfl
        clear h
        go_wp2_with fail
        rw [hd.out, hd2.out]
        go_ret
        rw [HT.out]
        exact ⟨rfl, h2.out, hm.out⟩
end Go.Proofs.Ytdlfbpdcligecaa.OctW
