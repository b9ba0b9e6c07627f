/- lines.filter. -/
import Derived.Test.YtadhkeboaapfcaaGreatDoorParA
namespace Go.Proofs.YtadhkeboaapfcaaGreatDoor.EvW
open Go.RowKit OctMath NameMath HexMath
set_option linter.unusedVariables false
set_option linter.unusedSimpArgs false
set_option maxRecDepth 100000

/-- every other one -/
def eo : List (List UInt8) → List (List UInt8)
  | [] => []
  | [x] => [x]
  | x :: _ :: r => x :: eo r
theorem eo_len : ∀ ws : List (List UInt8), (eo ws).length = (ws.length + 1) / 2
  | [] => rfl
  | [x] => by show 1 = (1 + 1) / 2; decide
  | x :: y :: r => by
    show (eo r).length + 1 = (r.length + 1 + 1 + 1) / 2
    rw [eo_len r]; omega
theorem eo_get : ∀ (ws : List (List UInt8)) (k : Nat) (h : 2 * k < ws.length), (eo ws)[k]? = some ws[2 * k]
  | [], k, h => absurd h (by simp)
  | [x], 0, _ => rfl
  | [x], k + 1, h => absurd h (by simp)
  | x :: y :: r, 0, _ => rfl
  | x :: y :: r, k + 1, h => by
    show (eo r)[k]? = _
    rw [eo_get r k (by simp at h; omega)]
    rfl
/-- the tags of a filter's words -/
def filterL (ws : List (List UInt8)) : List (List UInt8) := if ws = [[42]] then [] else eo ws
/-- a slice that has room for what it has -/
def CapOk (v : Value) : Prop := ∃ a n c, v = .slice a n c ∧ n ≤ c
theorem cap_own {w : World} {B n : Nat} {e : TypeId} {v : Value} {xs : List Value} (h : w.ownsRow B e 1 v n xs) : CapOk v := by
  rcases h.2 with ⟨rfl, _⟩ | ⟨g, cap, cur, rfl, _, _, hc, _⟩
  · exact ⟨none, 0, 0, rfl, Nat.le_refl _⟩
  · exact ⟨_, _, _, rfl, hc⟩
set_option maxHeartbeats 1600000 in
theorem filter_any (a : Option Addr) (cap : Nat) (ws : List (List UInt8)) (hx : ws.length ≤ 1048577) (W : World) (h : Row1 W a (ws.map fun x => .string (S x))) :
    Calls Tryz.prog 59 #[.slice a ws.length cap] W fun e w' => ∃ v, e = .returned v ∧ TextsAt W.heap.size w' v (filterL ws) ∧ Below W.heap.size W w' ∧ CapOk v := by
  obtain ⟨i0, hi0, hz0, hz1, hz2⟩ := info_parts (show (Tryz.prog.info? 9).map (fun i => (i.zero, i.size, i.bytes)) = some (some (.string ⟨#[]⟩), 1, 16) by kernel_rfl)
  have HI0 := Lib.hid hi0
  have HZ0 := Lib.hid hz0
  have HZ1 := Lib.hid hz1
  have HZ2 := Lib.hid hz2
  have HH := Lib.hid h
  clear hi0 hz0 hz1 hz2 h
  -- the tail is one for both ways
  suffices main : ∀ (hb : ((ws.length : Int) == 1) = false ∨ (∃ b off t, ((ws.length : Int) == 1) = true ∧ a = some ⟨b, off, none⟩ ∧ 0 < ws.length ∧ W.cell? ⟨b, off, none⟩ = some (.string (S t)) ∧ (t == [42]) = false)), Hid (filterL ws = eo ws) →
      Calls Tryz.prog 59 #[.slice a ws.length cap] W fun e w' => ∃ v, e = .returned v ∧ TextsAt W.heap.size w' v (filterL ws) ∧ Below W.heap.size W w' ∧ CapOk v by
    by_cases h1 : ws.length = 1
    · obtain ⟨t, rfl⟩ := List.length_eq_one_iff.1 h1
      obtain ⟨b, off, rfl, hc⟩ := HH.out 0 (by simp)
      simp only [List.map_cons, List.map_nil, List.getElem_cons_zero, Nat.add_zero] at hc
      by_cases ht : t = [42]
      · subst ht
        have HF : Hid (filterL [[42]] = []) := rfl
        have htl := NameW.S_toList [42]
        clear main h1 HH
        go_enter Tryz.func59, Tryz.ntmps59
        go_wp2_with fail
        go_ret
        exact ⟨_, rfl, texts_nil _ _, Below.refl _ _, ⟨_, _, _, rfl, Nat.le_refl _⟩⟩
      · exact main (.inr ⟨b, off, t, rfl, rfl, by simp, hc, by simp [ht]⟩) (by show filterL [t] = _; unfold filterL; rw [if_neg (by simp [ht])])
    · exact main (.inl (beq_eq_false_iff_ne.2 (by omega))) (by show filterL ws = _; unfold filterL; rw [if_neg (fun e => h1 (by rw [e]; rfl))])
  intro hb HF
  have hel := eo_len ws
  have HEG := Lib.hid (eo_get ws)
  have hws : ∀ k (h : 2 * k < ws.length), (ws.map fun x => Value.string (S x))[2 * k]'(by simpa using h) = .string (S ws[2 * k]) := fun k h => List.getElem_map _
  have HWS := Lib.hid hws
  clear hws
  generalize eo ws = es at *
  rcases hb with hb | ⟨b, off, t, hb, rfl, h0, hc, ht⟩
  all_goals
    have htl := fun t => NameW.S_toList t
    go_enter Tryz.func59, Tryz.ntmps59
    go_wp2_with fail
    clear htl
    go_loopw [3, 4] (fun v i wr => ∃ k : Nat, k ≤ es.length ∧ i = .int .i64 (2 * (k : Int)) ∧ Hid (wr.ownsRow W.heap.size 9 1 v k ((es.take k).map fun x => .string (S x))) ∧ Hid (Below W.heap.size W wr)) (fun _ i _ => ws.length + 1 - (intOf i).toNat)
    case atStart => exact ⟨0, by omega, rfl, ⟨rfl, .inl ⟨rfl, rfl⟩⟩, Below.refl _ _⟩
    case round =>
      obtain ⟨k, hk, rfl, HTX, HB⟩ := hrel
      by_cases hlt : 2 * k < ws.length
      · obtain ⟨b', off', hbo, hcx⟩ := (HH.out.below HB.out) (2 * k) (by simpa using hlt)
        cases hbo
        rw [HWS.out k hlt] at hcx
        have hek : k < es.length := by omega
        have hstep : es.take (k + 1) = es.take k ++ [ws[2 * k]] := by
          rw [List.take_add_one, HEG.out k hlt]; rfl
        have HST := Lib.hid hstep
        generalize ws[2 * k] = d at *
        have HROW : Hid (Row1 (wr.alloc (.cells #[.string (S d)] 9)) (some ⟨wr.heap.size, 0, none⟩) [.string (S d)]) := fun i hi => ⟨_, 0, rfl, by rw [World.cell?_alloc_new]; match i, hi with | 0, _ => rfl⟩
        have HBA : Hid (Below W.heap.size W (wr.alloc (.cells #[.string (S d)] 9))) := HB.out.alloc HB.out.size _
        have hlt' : 2 * (k : Int) < (ws.length : Int) := by omega
        clear hstep
        go_wp2_with (at_builtin; refine wpList_append_row rfl (.tmp 20) (.tmp 25) 22 rfl W.heap.size 9 i0 (.string ⟨#[]⟩) 16 Tryz.underlying22 HI0.out HZ0.out HZ1.out HZ2.out rfl u3 k _ rfl (HTX.out.alloc _) (some ⟨wr.heap.size, 0, none⟩) 1 1 [.string (S d)] rfl rfl HROW.out ?c2 ?c3 ?c4 ?c5 ?_)
        case c2 => intro u hu; simp at hu; subst hu; rfl
        case c3 => unfold maxLen; omega
        case c4 => omega
        case c5 => exact HBA.out.size
        intro v' w4 hown4 hg4
        have HB4 : Hid (Below W.heap.size W w4) := HBA.out.grown hg4 HBA.out.size (ownBlock_of_own HTX.out)
        have HO4 : Hid (w4.ownsRow W.heap.size 9 1 v' (k + 1) ((es.take (k + 1)).map fun x => .string (S x))) := by
          show w4.ownsRow _ _ _ _ _ _
          rw [HST.out, List.map_append, List.map_take]
          exact hown4
        clear hown4 hg4 HBA HROW HTX HB
        go_wp2_with fail
        go_roundw
        case rel => exact ⟨k + 1, by omega, by congr 1, HO4, HB4⟩
        case measure => simp [intOf]; omega
      · have ek : k = es.length := by omega
        have hlt' : ¬ 2 * (k : Int) < (ws.length : Int) := by omega
        rw [ek, List.take_length] at HTX
        have hown := HTX.out
        have HTA := Lib.hid (texts_own hown (Nat.le_refl _))
        have HCP := Lib.hid (cap_own hown)
        clear hown
        go_wp2_with fail
        go_ret
        rw [HF.out]
        exact ⟨_, rfl, HTA.out, HB.out, HCP.out⟩
end Go.Proofs.YtadhkeboaapfcaaGreatDoor.EvW
