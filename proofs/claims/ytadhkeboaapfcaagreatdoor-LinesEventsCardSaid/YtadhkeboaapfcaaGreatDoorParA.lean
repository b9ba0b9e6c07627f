/- lines.unkeys, truths, untag, filter. -/
import Derived.Test.YtadhkeboaapfcaaGreatDoorSplit
namespace Go.Proofs.YtadhkeboaapfcaaGreatDoor.EvW
open Go.RowKit OctMath NameMath HexMath
set_option linter.unusedVariables false
set_option linter.unusedSimpArgs false
set_option maxRecDepth 100000

set_option maxHeartbeats 1600000 in
theorem untag_any (l : List UInt8) (w : World) : Calls Tryz.prog 79 #[.string (S l)] w fun e w' => e = .returned (.string (S (if l = [46] then [] else l))) ∧ w' = w := by
  have htl := NameW.S_toList l
  by_cases h : l = [46]
  · subst h
    go_enter Tryz.func79, Tryz.ntmps79
    go_wp2_with fail
    go_ret
    exact ⟨rfl, rfl⟩
  · have hb0 : (l == [46]) = false := by simp [h]
    have hi : (if l = [46] then [] else l) = l := if_neg h
    rw [hi]
    clear h hi
    go_enter Tryz.func79, Tryz.ntmps79
    go_wp2_with fail
    go_ret
    exact ⟨rfl, rfl⟩

/-- the keys of a word -/
def unkeysL (l : List UInt8) : List (List UInt8) := if l = [46] then [] else (splitC 44 l).map fun x => (unhexL x).1
/-- a slice of these texts, in blocks from N on -/
def TextsAt (N : Nat) (w : World) (v : Value) (ls : List (List UInt8)) : Prop := ∃ a c, v = .slice a ls.length c ∧ (∀ ad, a = some ad → N ≤ ad.block) ∧ Strs w a (ls.map S)
theorem TextsAt.below {N : Nat} {W w : World} {v : Value} {ls : List (List UInt8)} (h : TextsAt N W v ls) (hb : Below W.heap.size W w) : TextsAt N w v ls := by
  obtain ⟨a, c, h1, h2, h3⟩ := h; exact ⟨a, c, h1, h2, h3.below hb⟩
theorem texts_nil (N : Nat) (w : World) : TextsAt N w (.slice none 0 0) [] := ⟨none, 0, rfl, (fun ad h => absurd h (by simp)), fun i hi => absurd hi (by simp)⟩
theorem own_from {w : World} {B n : Nat} {e : TypeId} {a : Option Addr} {c : Nat} {xs : List Value} (h : w.ownsRow B e 1 (.slice a n c) n xs) : ∀ ad, a = some ad → B ≤ ad.block := by
  intro ad ha
  subst ha
  rcases h.2 with ⟨h1, _⟩ | ⟨g, cap, cur, h1, hb, _⟩
  · cases h1
  · cases h1; exact hb
theorem texts_own {w : World} {B : Nat} {e : TypeId} {v : Value} {ls : List (List UInt8)} (h : w.ownsRow B e 1 v ls.length (ls.map fun x => .string (S x))) {N : Nat} (hN : N ≤ B) : TextsAt N w v ls := by
  obtain ⟨a, c, h1, h2, _⟩ := strs_own h
  subst h1
  exact ⟨a, c, rfl, fun ad ha => Nat.le_trans hN (own_from h ad ha), h2⟩
theorem strs_new (w : World) (ls : List (List UInt8)) (t : TypeId) : Row1 (w.alloc (.cells (ls.map fun x => .string (S x)).toArray t)) (some ⟨w.heap.size, 0, none⟩) (ls.map fun x => .string (S x)) := fun i hi => ⟨_, 0, rfl, by rw [World.cell?_alloc_new]; simp at hi; simp [hi]⟩

set_option maxHeartbeats 1600000 in
theorem unkeys_any (l : List UInt8) (hl : l.length ≤ 1048576) (W : World) (henv : Env W) :
    Calls Tryz.prog 80 #[.string (S l)] W fun e w' => ∃ v, e = .returned v ∧ TextsAt W.heap.size w' v (unkeysL l) ∧ Below W.heap.size W w' := by
  have htl := NameW.S_toList l
  by_cases h : l = [46]
  · subst h
    go_enter Tryz.func80, Tryz.ntmps80
    go_wp2_with fail
    go_ret
    exact ⟨_, rfl, texts_nil _ _, Below.refl _ _⟩
  obtain ⟨i0, hi0, hz0, hz1, hz2⟩ := info_parts (show (Tryz.prog.info? 9).map (fun i => (i.zero, i.size, i.bytes)) = some (some (.string ⟨#[]⟩), 1, 16) by kernel_rfl)
  have HI0 := Lib.hid hi0
  have HZ0 := Lib.hid hz0
  have HZ1 := Lib.hid hz1
  have HZ2 := Lib.hid hz2
  have hb0 : (l == [46]) = false := by simp [h]
  have HU : Hid (unkeysL l = (splitC 44 l).map fun x => (unhexL x).1) := by show _ = _; unfold unkeysL; rw [if_neg h]
  have HSP := Lib.hid (split_any 44 l (by omega) W henv)
  have hel := splitC_elem 44 l
  have hlen := splitC_len 44 l
  have HEL := Lib.hid hel
  generalize splitC 44 l = ws at *
  have hws : ws.length ≤ 1048577 := by omega
  clear hi0 hz0 hz1 hz2 h hel hlen
  go_enter Tryz.func80, Tryz.ntmps80
  go_wp2_with fail
  refine HSP.out.mono ?_
  rintro e w1 ⟨rfl, hw1⟩
  have hr1 := strs_new W ws 9
  rw [← hw1] at hr1
  have HR1 := Lib.hid hr1
  have HB1 : Hid (Below W.heap.size W w1) := by show Below _ _ _; rw [hw1]; exact (Below.refl _ _).alloc (Nat.le_refl _) _
  clear hr1 hw1 HSP htl hb0
  go_wp2_with fail
  go_loopw [3, 13] (fun v i wr => ∃ k : Nat, k ≤ ws.length ∧ i = .int .i64 k ∧ Hid (wr.ownsRow w1.heap.size 9 1 v k (((ws.take k).map fun x => (unhexL x).1).map fun x => .string (S x))) ∧ Hid (Below w1.heap.size w1 wr)) (fun _ i _ => ws.length - (intOf i).toNat)
  case atStart => exact ⟨0, by omega, rfl, ⟨rfl, .inl ⟨rfl, rfl⟩⟩, Below.refl _ _⟩
  case round =>
    obtain ⟨k, hk, rfl, HTX, HB⟩ := hrel
    by_cases hlt : k < ws.length
    · obtain ⟨b, off, hbo, hc⟩ := (HR1.out.below HB.out) k (by simpa using hlt)
      cases hbo
      rw [List.getElem_map, Nat.zero_add] at hc
      have hstep : (ws.take (k + 1)).map (fun x => (unhexL x).1) = (ws.take k).map (fun x => (unhexL x).1) ++ [(unhexL ws[k]).1] := by rw [List.take_succ_eq_append_getElem hlt, List.map_append]; rfl
      have HCX := Lib.hid (fun w => LinW.unhex_any ws[k] (by have := HEL.out _ (List.getElem_mem hlt); omega) w)
      generalize ws[k] = c at *
      generalize (ws.take k).map (fun x => (unhexL x).1) = pre at *
      have HST := Lib.hid hstep
      clear hstep
      go_wp2_with fail
      refine (HCX.out _).mono ?_
      rintro e w2 ⟨rfl, hb⟩
      have HB2 := Lib.hid (HB.out.trans (hb.mono HB.out.size))
      have HTX2 := Lib.hid (LinW.own_ext HTX.out hb)
      generalize unhexL c = dd at *
      obtain ⟨d, dok⟩ := dd
      have HROW : Hid (Row1 (w2.alloc (.cells #[.string (S d)] 9)) (some ⟨w2.heap.size, 0, none⟩) [.string (S d)]) := fun i hi => ⟨_, 0, rfl, by rw [World.cell?_alloc_new]; match i, hi with | 0, _ => rfl⟩
      have HBA : Hid (Below w1.heap.size w1 (w2.alloc (.cells #[.string (S d)] 9))) := HB2.out.alloc HB2.out.size _
      clear hb HB HTX HCX hc
      go_wp2_with (at_builtin; refine wpList_append_row rfl (.tmp 22) (.tmp 24) 22 rfl w1.heap.size 9 i0 (.string ⟨#[]⟩) 16 Tryz.underlying22 HI0.out HZ0.out HZ1.out HZ2.out rfl u3 k _ rfl (HTX2.out.alloc _) (some ⟨w2.heap.size, 0, none⟩) 1 1 [.string (S d)] rfl rfl HROW.out ?c2 ?c3 ?c4 ?c5 ?_)
      case c2 => intro u hu; simp at hu; subst hu; rfl
      case c3 => unfold maxLen; omega
      case c4 => omega
      case c5 => exact HBA.out.size
      intro v' w4 hown4 hg4
      have HB4 : Hid (Below w1.heap.size w1 w4) := HBA.out.grown hg4 HBA.out.size (ownBlock_of_own HTX2.out)
      have HO4 : Hid (w4.ownsRow w1.heap.size 9 1 v' (k + 1) (((ws.take (k + 1)).map fun x => (unhexL x).1).map fun x => .string (S x))) := by
        show w4.ownsRow _ _ _ _ _ _
        rw [HST.out, List.map_append]
        exact hown4
      clear hown4 hg4 HBA HROW HTX2 HB2
      go_wp2_with fail
      go_roundw
      case rel => exact ⟨k + 1, by omega, by go_num, HO4, HB4⟩
      case measure => simp [intOf]; omega
    · have ek : k = ws.length := by omega
      subst ek
      rw [List.take_length, ← HU.out] at HTX
      have hll : (unkeysL l).length = ws.length := by rw [HU.out, List.length_map]
      have hown := HTX.out
      rw [← hll] at hown
      have HTA := Lib.hid (texts_own hown HB1.out.size)
      have HBW := Lib.hid (HB1.out.trans (HB.out.mono HB1.out.size))
      clear hown
      go_wp2_with fail
      go_ret
      exact ⟨_, rfl, HTA.out, HBW.out⟩

/-- the truths of a word -/
def truthsL (l : List UInt8) : List Bool := if l = [46] then [] else l.map fun c => decide (c = 49)
def BitsAt (N : Nat) (w : World) (v : Value) (bs : List Bool) : Prop := ∃ a c, v = .slice a bs.length c ∧ (∀ ad, a = some ad → N ≤ ad.block) ∧ Row1 w a (bs.map .bool)
theorem BitsAt.below {N : Nat} {W w : World} {v : Value} {ls : List Bool} (h : BitsAt N W v ls) (hb : Below W.heap.size W w) : BitsAt N w v ls := by
  obtain ⟨a, c, h1, h2, h3⟩ := h; exact ⟨a, c, h1, h2, h3.below hb⟩
set_option maxHeartbeats 1600000 in
theorem truths_any (l : List UInt8) (hl : l.length ≤ 1048576) (W : World) :
    Calls Tryz.prog 81 #[.string (S l)] W fun e w' => ∃ v, e = .returned v ∧ BitsAt W.heap.size w' v (truthsL l) ∧ Below W.heap.size W w' := by
  have htl := NameW.S_toList l
  have hsz := S_size l
  by_cases h : l = [46]
  · subst h
    go_enter Tryz.func81, Tryz.ntmps81
    go_wp2_with fail
    go_ret
    exact ⟨_, rfl, ⟨none, 0, rfl, (fun ad h => absurd h (by simp)), fun i hi => absurd hi (by simp [truthsL])⟩, Below.refl _ _⟩
  obtain ⟨i0, hi0, hz0, hz1, hz2⟩ := info_parts (show (Tryz.prog.info? 4).map (fun i => (i.zero, i.size, i.bytes)) = some (some (.bool false), 1, 1) by kernel_rfl)
  have HI0 := Lib.hid hi0
  have HZ0 := Lib.hid hz0
  have HZ1 := Lib.hid hz1
  have HZ2 := Lib.hid hz2
  have hb0 : (l == [46]) = false := by simp [h]
  have HU : Hid (truthsL l = l.map fun c => decide (c = 49)) := by show _ = _; unfold truthsL; rw [if_neg h]
  clear hi0 hz0 hz1 hz2 h
  go_enter Tryz.func81, Tryz.ntmps81
  go_wp2_with fail
  clear htl hb0
  go_loopw [3, 9] (fun v i wr => ∃ k : Nat, k ≤ l.length ∧ i = .int .i64 k ∧ Hid (wr.ownsRow W.heap.size 4 1 v k (((l.take k).map fun c => decide (c = 49)).map .bool)) ∧ Hid (Below W.heap.size W wr)) (fun _ i _ => l.length - (intOf i).toNat)
  case atStart => exact ⟨0, by omega, rfl, ⟨rfl, .inl ⟨rfl, rfl⟩⟩, Below.refl _ _⟩
  case round =>
    obtain ⟨k, hk, rfl, HTX, HB⟩ := hrel
    by_cases hlt : k < l.length
    · have hi : k < (S l).size := by rw [hsz]; exact hlt
      have hget : (S l)[k] = l[k] := rfl
      have hstep : ((l.take (k + 1)).map fun c => decide (c = 49)) = ((l.take k).map fun c => decide (c = 49)) ++ [decide (l[k] = 49)] := by rw [List.take_succ_eq_append_getElem hlt, List.map_append]; rfl
      generalize l[k] = c at *
      have hd : decide (c = 49) = ((c.toNat : Int) == 49) := by
        rw [show ((c.toNat : Int) == 49) = decide ((c.toNat : Int) = 49) from rfl]
        exact decide_eq_decide.2 ⟨fun e => by subst e; rfl, fun e => by apply UInt8.toNat_inj.1; show c.toNat = 49; omega⟩
      generalize hxb : decide (c = 49) = x at *
      generalize (l.take k).map (fun c => decide (c = 49)) = pre at *
      have HST := Lib.hid hstep
      have hd' := hd.symm
      have HROW : Hid (Row1 (wr.alloc (.cells #[.bool x] 4)) (some ⟨wr.heap.size, 0, none⟩) [.bool x]) := fun i hi => ⟨_, 0, rfl, by rw [World.cell?_alloc_new]; match i, hi with | 0, _ => rfl⟩
      have HBA : Hid (Below W.heap.size W (wr.alloc (.cells #[.bool x] 4))) := HB.out.alloc HB.out.size _
      clear hstep hd hxb
      go_wp2_with (at_builtin; refine wpList_append_row rfl (.tmp 12) (.tmp 17) 23 rfl W.heap.size 4 i0 (.bool false) 1 Tryz.underlying23 HI0.out HZ0.out HZ1.out HZ2.out rfl u3 k _ rfl (HTX.out.alloc _) (some ⟨wr.heap.size, 0, none⟩) 1 1 [.bool x] rfl rfl HROW.out ?c2 ?c3 ?c4 ?c5 ?_)
      case c2 => intro u hu; simp at hu; subst hu; rfl
      case c3 => unfold maxLen; omega
      case c4 => omega
      case c5 => exact HBA.out.size
      intro v' w4 hown4 hg4
      have HB4 : Hid (Below W.heap.size W w4) := HBA.out.grown hg4 HBA.out.size (ownBlock_of_own HTX.out)
      have HO4 : Hid (w4.ownsRow W.heap.size 4 1 v' (k + 1) (((l.take (k + 1)).map fun c => decide (c = 49)).map .bool)) := by
        show w4.ownsRow _ _ _ _ _ _
        rw [HST.out, List.map_append]
        exact hown4
      clear hown4 hg4 HBA HROW HTX HB hd'
      go_wp2_with fail
      go_roundw
      case rel => exact ⟨k + 1, by omega, by go_num, HO4, HB4⟩
      case measure => simp [intOf]; omega
    · have ek : k = l.length := by omega
      subst ek
      rw [List.take_length, ← HU.out] at HTX
      have hll : (truthsL l).length = l.length := by rw [HU.out, List.length_map]
      have hown := HTX.out
      rw [← hll] at hown
      have HTA : Hid (BitsAt W.heap.size wr u3 (truthsL l)) := by
        obtain ⟨a, cap, hv, hrow, _⟩ := Row1.of_own hown
        subst hv
        exact ⟨a, cap, rfl, own_from hown, hrow⟩
      clear hown
      go_wp2_with fail
      go_ret
      exact ⟨_, rfl, HTA.out, HB.out⟩
end Go.Proofs.YtadhkeboaapfcaaGreatDoor.EvW
