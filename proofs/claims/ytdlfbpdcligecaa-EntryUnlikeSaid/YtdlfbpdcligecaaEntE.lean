/- Plain: entries come back from their bytes. -/
import Derived.Test.YtdlfbpdcligecaaEntD
namespace Go.Proofs.Ytdlfbpdcligecaa.EntW
open Go.RowKit OctW OctMath
set_option maxRecDepth 100000
set_option linter.unusedSimpArgs false
set_option linter.unusedVariables false

theorem numsR_wid (rest : List UInt8) : ∀ ws : List (Nat × Int), (∀ p ∈ ws, 1 ≤ p.1 ∧ p.1 ≤ 7 ∧ fits p.1 p.2) → numsR (ws.map (·.1)) ⟨widL ws ++ rest, 0⟩ = (ws.map (·.2.toNat), ⟨rest, 0⟩) := by
  intro ws
  induction ws with
  | nil => intro _; rfl
  | cons p ws ih =>
    intro h
    obtain ⟨n, x⟩ := p
    obtain ⟨h1, h7, hf⟩ := h (n, x) (List.mem_cons_self ..)
    have hx : x.toNat < 256 ^ n := by have := hf.1; have := hf.2; simp only at *; omega
    have hr := numR_be n x.toNat (widL ws ++ rest) h1 h7 hx
    have hl : widL ((n, x) :: ws) ++ rest = be n x.toNat ++ (widL ws ++ rest) := by simp [widL]
    rw [hl]
    simp only [List.map_cons, numsR]
    rw [hr]
    simp only
    rw [ih (fun q hq => h q (List.mem_cons_of_mem _ hq))]
theorem getW_wid (ws : List (Nat × Int)) (h : ∀ p ∈ ws, 1 ≤ p.1 ∧ p.1 ≤ 7) (ho : widOk ws = true) : getW (ws.map (·.1)) (widW ws) = (ws.map (·.2.toNat), true) := by
  have hf : ∀ p ∈ ws, fits p.1 p.2 := of_decide_eq_true ho
  have hw : widW ws = widL ws := by unfold widW; rw [ho]; rfl
  have := numsR_wid [] ws (fun p hp => ⟨(h p hp).1, (h p hp).2, hf p hp⟩)
  rw [List.append_nil] at this
  unfold getW
  rw [hw, this]
  simp [endR]
theorem numsR_nil (n : Nat) (ns : List Nat) (h1 : 1 ≤ n) (h7 : n ≤ 7) : endR (numsR (n :: ns) ⟨[], 0⟩).2 = 3 := by
  have herr : ∀ (ns : List Nat) (r : RS), r.e ≠ 0 → (numsR ns r).2 = r := by
    intro ns
    induction ns with
    | nil => intro r _; rfl
    | cons m ns ih =>
      intro r hr
      have : numR (m : Int) r = (0, r) := by unfold numR; rw [if_pos hr]
      simp only [numsR, this]
      exact ih r hr
  simp only [numsR]
  rw [numR_end n h1 h7]
  simp only
  rw [herr _ _ (by simp)]
  rfl
theorem getW_none (n : Nat) (ns : List Nat) (h1 : 1 ≤ n) (h7 : n ≤ 7) : getW (n :: ns) [] = ([], false) := by
  unfold getW; rw [if_neg (by rw [numsR_nil n ns h1 h7]; simp)]
/-- four numbers and what is read of them -/
theorem getW_four (n0 n1 n2 n3 : Nat) (a b c d : Int) (h : ∀ p ∈ ws4 n0 n1 n2 n3 a b c d, 1 ≤ p.1 ∧ p.1 ≤ 7) :
    getW [n0, n1, n2, n3] (widW (ws4 n0 n1 n2 n3 a b c d)) = if widOk (ws4 n0 n1 n2 n3 a b c d) then ([a.toNat, b.toNat, c.toNat, d.toNat], true) else ([], false) := by
  cases ho : widOk (ws4 n0 n1 n2 n3 a b c d) with
  | true => exact getW_wid _ h ho
  | false =>
    have hw : widW (ws4 n0 n1 n2 n3 a b c d) = [] := by unfold widW; rw [ho]; rfl
    have h0 := h (n0, a) (by simp [ws4])
    rw [hw, getW_none n0 _ h0.1 h0.2]; rfl
theorem widOk_nat (n0 n1 n2 n3 : Nat) (a b c d : Int) (h : widOk (ws4 n0 n1 n2 n3 a b c d) = true) : ∃ a' b' c' d' : Nat, a = a' ∧ b = b' ∧ c = c' ∧ d = d' := by
  have hf : ∀ p ∈ ws4 n0 n1 n2 n3 a b c d, fits p.1 p.2 := of_decide_eq_true h
  have f0 := (hf (n0, a) (by simp [ws4])).1
  have f1 := (hf (n1, b) (by simp [ws4])).1
  have f2 := (hf (n2, c) (by simp [ws4])).1
  have f3 := (hf (n3, d) (by simp [ws4])).1
  exact ⟨a.toNat, b.toNat, c.toNat, d.toNat, by simp only at f0; omega, by simp only at f1; omega, by simp only at f2; omega, by simp only at f3; omega⟩
end Go.Proofs.Ytdlfbpdcligecaa.EntW
