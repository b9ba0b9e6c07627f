/- lines.Hex and its reference. -/
import Derived.Test.YtadhkeboaapfcaaGreatDoorHexMath
import Derived.Test.YtadhkeboaapfcaaGreatDoorOctMath
import Derived.Test.YtadhkeboaapfcaaGreatDoorAppEmpty
import Derived.Test.YtadhkeboaapfcaaGreatDoorGrow
import Derived.Test.YtadhkeboaapfcaaGreatDoorProg
import Derived.Deep.DeepCutAuto
namespace Go.Proofs.YtadhkeboaapfcaaGreatDoor.LinW
open Go.RowKit OctMath HexMath
set_option maxRecDepth 100000
set_option linter.unusedSimpArgs false
set_option linter.unusedVariables false

theorem S_toList (l : List UInt8) : (S l).toList = l := by rw [ByteArray.toList_eq, S_list]
def Ext (w w' : World) : Prop := Below w.heap.size w w'
theorem Ext.refl (w : World) : Ext w w := Below.refl _ _
theorem Ext.trans {u v w : World} (h : Ext u v) (k : Ext v w) : Ext u w := Below.trans h (Below.mono k h.size)
theorem own_ext {B n : Nat} {e : TypeId} {v : Value} {xs : List Value} {w w' : World} (h : w.ownsRow B e 1 v n xs) (hR : Ext w w') : w'.ownsRow B e 1 v n xs := by
  refine ⟨h.1, ?_⟩
  rcases h.2 with hn | ⟨g, cap, cur, hv, hb, hg, rest⟩
  · exact .inl hn
  · exact .inr ⟨g, cap, cur, hv, hb, (Below.block hR g (Array.getElem?_eq_some_iff.1 hg).1).trans hg, rest⟩
theorem row1_ext {a : Option Addr} {vs : List Value} {w w' : World} (h : Row1 w a vs) (hR : Ext w w') : Row1 w' a vs := h.below hR
/-- a row of bytes of the call's own -/
abbrev Bytes (base : Nat) (v : Value) (l : List UInt8) (w : World) : Prop := w.ownsRow base 5 1 v l.length (l.map fun c => .int .u8 (c.toNat : Int))

theorem index_dig (n : Nat) (h : n < 16) (w : World) : (Instr.index 9 (.string { data := #[48, 49, 50, 51, 52, 53, 54, 55, 56, 57, 97, 98, 99, 100, 101, 102] }) (.int .u8 (n : Int))).run Tryz.prog w = .ok (.int .u8 ((dig n).toNat : Int)) w := by
  match n, h with
  | 0, _ => show _ = _; kernel_rfl
  | 1, _ => show _ = _; kernel_rfl
  | 2, _ => show _ = _; kernel_rfl
  | 3, _ => show _ = _; kernel_rfl
  | 4, _ => show _ = _; kernel_rfl
  | 5, _ => show _ = _; kernel_rfl
  | 6, _ => show _ = _; kernel_rfl
  | 7, _ => show _ = _; kernel_rfl
  | 8, _ => show _ = _; kernel_rfl
  | 9, _ => show _ = _; kernel_rfl
  | 10, _ => show _ = _; kernel_rfl
  | 11, _ => show _ = _; kernel_rfl
  | 12, _ => show _ = _; kernel_rfl
  | 13, _ => show _ = _; kernel_rfl
  | 14, _ => show _ = _; kernel_rfl
  | 15, _ => show _ = _; kernel_rfl
  | n + 16, h => exact absurd h (by omega)

theorem conv_nil (w : World) : (convert 61 9 (.slice none 0 0)).run Tryz.prog w = .ok (.string ⟨#[]⟩) w := by kernel_rfl
theorem bytes_conv {base : Nat} {v : Value} {l : List UInt8} {w : World} (h : Bytes base v l w) : (convert 61 9 v).run Tryz.prog w = .ok (.string (S l)) w := by
  obtain ⟨hl, h⟩ := h
  rcases h with ⟨rfl, h0⟩ | ⟨g, cap, cur, rfl, hb, hg, hc1, hc2, hcs, hcur⟩
  · have : l = [] := List.eq_nil_of_length_eq_zero h0
    subst this
    exact conv_nil w
  · refine bytes_string (P := Tryz.prog) w 61 5 9 Tryz.underlying61 Tryz.underlying5 Tryz.underlying9 g 0 cap l (fun i hi => ?_) l.length rfl
    unfold World.cell?
    rw [hg]
    have : cur[0 + i]? = (cur.toList.take (l.length * 1))[i]? := by
      rw [List.getElem?_take, if_pos (by omega)]; simp
    simp only [this, hcur]
    simp [hi]

theorem and_15 (n : Nat) (h : n < 256) : bits .and .u8 (n : Int) 15 = (n : Int) % 16 := by
  have h1 : (BitVec.ofInt 8 (n : Int)).toNat = n := by
    rw [BitVec.ofInt_natCast, BitVec.toNat_ofNat]; exact Nat.mod_eq_of_lt (by omega)
  have h2 : (BitVec.ofInt 8 (15 : Int)).toNat = 15 := by decide
  show IntKind.u8.wrap ((BitVec.ofInt 8 (n : Int) &&& BitVec.ofInt 8 (15 : Int)).toNat : Int) = _
  rw [BitVec.toNat_and, h1, h2]
  have h3 : n &&& 15 = n % 16 := Nat.and_two_pow_sub_one_eq_mod n 4
  rw [h3, IntKind.wrap_u8]; omega

set_option maxHeartbeats 1600000 in
theorem hex_any (l : List UInt8) (hl : l.length ≤ 1099511627776) (W : World) :
    Calls Tryz.prog 13 #[.string (S l)] W fun e w' => e = .returned (.string (S (hexL l))) ∧ Below W.heap.size W w' := by
  obtain ⟨i0, hi0, hz0, hz1, hz2⟩ := info_parts (show (Tryz.prog.info? 5).map (fun i => (i.zero, i.size, i.bytes)) = some (some (.int .u8 0), 1, 1) by kernel_rfl)
  have hsz := S_size l
  have htl := S_toList l
  by_cases h0 : l = []
  · subst h0
    go_enter Tryz.func13, Tryz.ntmps13
    go_wp2_with fail
    go_ret
    exact ⟨rfl, Below.refl _ _⟩
  have hem : l.isEmpty = false := by cases l with | nil => exact absurd rfl h0 | cons _ _ => rfl
  have HL : Hid (hexL l = hexD l) := by show _ = _; unfold hexL; rw [if_neg h0]
  have HI0 := Lib.hid hi0
  have HZ0 := Lib.hid hz0
  have HZ1 := Lib.hid hz1
  have HZ2 := Lib.hid hz2
  clear hi0 hz0 hz1 hz2 h0
  go_enter Tryz.func13, Tryz.ntmps13
  go_wp2_with fail
  clear htl hem
  go_loopw [3, 9] (fun v i wr => ∃ k : Nat, k ≤ l.length ∧ i = .int .i64 k ∧ Hid (Bytes W.heap.size v (hexD (l.take k)) wr) ∧ Hid (Below W.heap.size W wr)) (fun _ i _ => l.length - (intOf i).toNat)
  case atStart => exact ⟨0, by omega, rfl, ⟨rfl, .inl ⟨rfl, rfl⟩⟩, Below.refl _ _⟩
  case round =>
    obtain ⟨k, hk, rfl, HTX, HB⟩ := hrel
    by_cases hlt : k < l.length
    · have hi : k < (S l).size := by rw [hsz]; exact hlt
      have hget : (S l)[k] = l[k] := rfl
      have hstep : hexD (l.take (k + 1)) = hexD (l.take k) ++ hexB l[k] := by rw [List.take_succ_eq_append_getElem hlt, hexD_snoc]; rfl
      generalize l[k] = c at *
      have HST := Lib.hid hstep
      have hc := c.toNat_lt
      clear hstep
      have hd1 : ∀ w : World, (Instr.index 9 (.string { data := #[48, 49, 50, 51, 52, 53, 54, 55, 56, 57, 97, 98, 99, 100, 101, 102] }) (.int .u8 ((c.toNat : Int) / 16))).run Tryz.prog w = .ok (.int .u8 ((dig (c.toNat / 16)).toNat : Int)) w := fun w => index_dig (c.toNat / 16) (by omega) w
      have hd2 : ∀ w : World, (Instr.index 9 (.string { data := #[48, 49, 50, 51, 52, 53, 54, 55, 56, 57, 97, 98, 99, 100, 101, 102] }) (.int .u8 ((c.toNat : Int) % 16))).run Tryz.prog w = .ok (.int .u8 ((dig (c.toNat % 16)).toNat : Int)) w := fun w => index_dig (c.toNat % 16) (by omega) w
      have hand := and_15 c.toNat hc
      go_wp2_with fail
      refine Grow.wp_region_g 12 [none, none, none, none, none, none, none, none, none, none, none,
        some (.inr fun v w => ∃ g, v = .slice (some ⟨g, 0, none⟩) 2 2 ∧ Row1 w (some ⟨g, 0, none⟩) [.int .u8 ((dig (c.toNat / 16)).toNat : Int), .int .u8 ((dig (c.toNat % 16)).toNat : Int)])] Ext (by kernel_rfl) (by kernel_rfl) (by kernel_rfl) Ext.refl (fun _ _ _ => Ext.trans) ?_ ?_
      · intro K hK Y hY v w w' hR h
        simp only [List.mem_cons, List.not_mem_nil, or_false] at hK
        rcases hK with rfl | rfl | rfl | rfl | rfl | rfl | rfl | rfl | rfl | rfl | rfl | rfl <;> simp only [reduceCtorEq, Option.some.injEq, Sum.inr.injEq] at hY
        subst hY; obtain ⟨g, rfl, ho⟩ := h; exact ⟨g, rfl, row1_ext ho hR⟩
      simp only [List.take_succ_cons, List.take_zero, List.drop_succ_cons, List.drop_zero]
      iterate 11 (
        refine Grow.g_det rfl ?_
        apply Exists.intro
        refine ⟨fun w hw hF => ?_, ?_⟩
        · clear hF
          go_simp
          exact ⟨rfl, Ext.refl _⟩
        simp only [Act.put, List.setIfInBounds_toArray, List.set_cons_zero, List.set_cons_succ])
      refine Grow.g_new rfl (fun w2 hw hF => ?_) (fun v => ?_)
      · clear hF
        go_simp
        refine ⟨fun i hi => ⟨_, _, rfl, ?_⟩, (Below.refl _ _).alloc (Nat.le_refl _) _⟩
        rw [World.cell?_alloc_new]
        match i, hi with
        | 0, _ => rfl
        | 1, _ => rfl
      simp only [Act.put, List.setIfInBounds_toArray, List.set_cons_zero, List.set_cons_succ, Grow.addF]
      refine Grow.g_nil fun w3 hw3 hF => ?_
      obtain ⟨g5, rfl, hrow5⟩ := hF _ (List.Mem.head _)
      clear hF hd1 hd2 hand hget hi
      have HB3 : Hid (Below W.heap.size W w3) := HB.out.drew.trans (Below.mono hw3 HB.out.drew.size)
      have HOWN : Hid (w3.ownsRow W.heap.size 5 1 u3 (hexD (l.take k)).length ((hexD (l.take k)).map fun c => .int .u8 (c.toNat : Int))) := own_ext (w := wr.drew) HTX.out hw3
      have HROW := Lib.hid hrow5
      have hlk := hexD_length (l.take k)
      rw [List.length_take] at hlk
      have hle : (hexD (l.take k)).length ≤ 2199023255552 := by omega
      clear hw3 hrow5 HB HTX hlk
      refine wpList_append_row rfl (.tmp 12) (.tmp 23) 61 rfl W.heap.size 5 i0 (.int .u8 0) 1 Tryz.underlying61 HI0.out HZ0.out HZ1.out HZ2.out rfl u3 (hexD (l.take k)).length _ rfl HOWN.out (some ⟨g5, 0, none⟩) 2 2 [.int .u8 ((dig (c.toNat / 16)).toNat : Int), .int .u8 ((dig (c.toNat % 16)).toNat : Int)] rfl rfl HROW.out ?c2 ?c3 ?c4 ?c5 ?_
      case c2 => intro u hu; simp at hu; rcases hu with rfl | rfl <;> rfl
      case c3 => unfold maxLen; omega
      case c4 => omega
      case c5 => exact HB3.out.size
      intro v6 w4 hown4 hg4
      have HB4 : Hid (Below W.heap.size W w4) := HB3.out.grown hg4 HB3.out.size (ownBlock_of_own HOWN.out)
      have HO4 : Hid (Bytes W.heap.size v6 (hexD (l.take (k + 1))) w4) := by
        show w4.ownsRow _ _ _ _ (hexD (l.take (k + 1))).length _
        rw [HST.out, List.length_append, List.map_append]
        exact hown4
      clear hown4 hg4 HB3 HOWN HROW hle
      repeat go_step
      go_wp2_with fail
      go_roundw
      case rel => exact ⟨k + 1, by omega, by go_num, HO4, HB4⟩
      case measure => simp [intOf]; omega
    · have ek : k = l.length := by omega
      subst ek
      rw [List.take_length] at HTX
      have hstr := bytes_conv HTX.out
      have HSTR := Lib.hid hstr
      clear hstr
      go_wp2_with fail
      rw [HSTR.out]
      go_wp2_with fail
      go_ret
      rw [HL.out]
      exact ⟨rfl, HB.out⟩

theorem cut_dig (n : Nat) (h : n < 16) : ({ data := #[48, 49, 50, 51, 52, 53, 54, 55, 56, 57, 97, 98, 99, 100, 101, 102] } : ByteArray).extract n (n + 1) = S [dig n] := by
  match n, h with
  | 0, _ => rfl
  | 1, _ => rfl
  | 2, _ => rfl
  | 3, _ => rfl
  | 4, _ => rfl
  | 5, _ => rfl
  | 6, _ => rfl
  | 7, _ => rfl
  | 8, _ => rfl
  | 9, _ => rfl
  | 10, _ => rfl
  | 11, _ => rfl
  | 12, _ => rfl
  | 13, _ => rfl
  | 14, _ => rfl
  | 15, _ => rfl
  | n + 16, h => exact absurd h (by omega)
theorem slice_dig (n : Nat) (h : n < 16) (w : World) : (Instr.slice 9 (.string { data := #[48, 49, 50, 51, 52, 53, 54, 55, 56, 57, 97, 98, 99, 100, 101, 102] }) (some (.int .i64 (n : Int))) (some (.int .i64 ((n : Int) + 1))) none).run Tryz.prog w = .ok (.string (S [dig n])) w := by
  match n, h with
  | 0, _ => show _ = _; kernel_rfl
  | 1, _ => show _ = _; kernel_rfl
  | 2, _ => show _ = _; kernel_rfl
  | 3, _ => show _ = _; kernel_rfl
  | 4, _ => show _ = _; kernel_rfl
  | 5, _ => show _ = _; kernel_rfl
  | 6, _ => show _ = _; kernel_rfl
  | 7, _ => show _ = _; kernel_rfl
  | 8, _ => show _ = _; kernel_rfl
  | 9, _ => show _ = _; kernel_rfl
  | 10, _ => show _ = _; kernel_rfl
  | 11, _ => show _ = _; kernel_rfl
  | 12, _ => show _ = _; kernel_rfl
  | 13, _ => show _ = _; kernel_rfl
  | 14, _ => show _ = _; kernel_rfl
  | 15, _ => show _ = _; kernel_rfl
  | n + 16, h => exact absurd h (by omega)

set_option maxHeartbeats 1600000 in
theorem rhex_any (l : List UInt8) (hl : l.length ≤ 1073741824) (W : World) :
    Calls Tryz.prog 15 #[.string (S l)] W fun e w' => e = .returned (.string (S (hexL l))) ∧ Drawn W w' := by
  have hsz := S_size l
  have htl := S_toList l
  by_cases h0 : l = []
  · subst h0
    go_enter Tryz.func15, Tryz.ntmps15
    go_wp2_with fail
    go_ret
    exact ⟨rfl, Drawn.refl _⟩
  have hem : l.isEmpty = false := by cases l with | nil => exact absurd rfl h0 | cons _ _ => rfl
  have HL : Hid (hexL l = hexD l) := by show _ = _; unfold hexL; rw [if_neg h0]
  clear h0
  go_enter Tryz.func15, Tryz.ntmps15
  go_wp2_with fail
  clear htl hem
  have HCD := Lib.hid cut_dig
  have HSD := Lib.hid slice_dig
  have hD16 : ({ data := #[48, 49, 50, 51, 52, 53, 54, 55, 56, 57, 97, 98, 99, 100, 101, 102] } : ByteArray).size = 16 := rfl
  have HD16 := Lib.hid hD16
  clear hD16
  generalize ({ data := #[48, 49, 50, 51, 52, 53, 54, 55, 56, 57, 97, 98, 99, 100, 101, 102] } : ByteArray) = D at *
  go_loopw [4, 5] (fun s i wr => ∃ k : Nat, k ≤ l.length ∧ i = .int .i64 k ∧ s = .string (S (hexD (l.take k))) ∧ Hid (Drawn W wr)) (fun _ i _ => l.length - (intOf i).toNat)
  case atStart => exact ⟨0, by omega, rfl, rfl, Drawn.refl _⟩
  case round =>
    obtain ⟨k, hk, rfl, rfl, HD⟩ := hrel
    by_cases hlt : k < l.length
    · have hi : k < (S l).size := by rw [hsz]; exact hlt
      have hget : (S l)[k] = l[k] := rfl
      have hstep : hexD (l.take (k + 1)) = hexD (l.take k) ++ hexB l[k] := by rw [List.take_succ_eq_append_getElem hlt, hexD_snoc]; rfl
      generalize l[k] = c at *
      have HST := Lib.hid hstep
      have hc := c.toNat_lt
      have hlk := hexD_length (l.take k)
      rw [List.length_take] at hlk
      have hs1 : (S (hexD (l.take k))).size ≤ 2147483648 := by rw [S_size]; omega
      clear hstep hlk
      go_wp2_with fail
      go_quiet (fail)
      go_wp2_with fail
      have hd1 := fun w => HSD.out (c.toNat / 16) (by omega) w
      have hd2 := fun w => HSD.out (c.toNat % 16) (by omega) w
      have he1 := HCD.out (c.toNat / 16) (by omega)
      have he2 := HCD.out (c.toNat % 16) (by omega)
      have hDs := HD16.out
      have ha : ((c.toNat : Int) / 16) = ((c.toNat / 16 : Nat) : Int) := by omega
      have hb : ((c.toNat : Int) % 16) = ((c.toNat % 16 : Nat) : Int) := by omega
      have ha16 : c.toNat / 16 < 16 := by omega
      have hb16 : c.toNat % 16 < 16 := by omega
      have hcat1 : Hid (S (hexD (l.take k)) ++ S [dig (c.toNat / 16)] = S (hexD (l.take k) ++ [dig (c.toNat / 16)])) := S_append _ _
      have hcat2 : Hid (S (hexD (l.take k) ++ [dig (c.toNat / 16)]) ++ S [dig (c.toNat % 16)] = S (hexD (l.take (k + 1)))) := by
        show _ = _
        rw [S_append, HST.out, List.append_assoc]; rfl
      have hs2 : (S (hexD (l.take k) ++ [dig (c.toNat / 16)])).size ≤ 2147483649 := by rw [S_size, List.length_append]; rw [S_size] at hs1; simp; omega
      have hs3 : (S [dig (c.toNat / 16)]).size ≤ 1 := by rw [S_size]; simp
      have hs4 : (S [dig (c.toNat % 16)]).size ≤ 1 := by rw [S_size]; simp
      have HD2 : Hid (Drawn W (wr.drewN nq)) := HD.out.drewN nq
      generalize wr.drewN nq = w2 at *
      rw [ha, hb]
      generalize c.toNat / 16 = a at *
      generalize c.toNat % 16 = b at *
      clear ha hb hc hi hget
      have hw1 : IntKind.i64.wrap ((a : Int) + 1) = (a : Int) + 1 := IntWalk.i64_in _ (by omega)
      have hw2 : IntKind.i64.wrap ((b : Int) + 1) = (b : Int) + 1 := IntWalk.i64_in _ (by omega)
      rw [show S (hexD (l.take k) ++ [dig a]) = S (hexD (l.take k)) ++ S [dig a] from hcat1.out.symm] at hcat2 hs2
      generalize S (hexD (l.take k)) = s1 at *
      generalize S [dig a] = x1 at *
      generalize S [dig b] = x2 at *
      clear hcat1
      go_quiet (fail)
      rw [hcat2.out]
      have HD3 : Hid (Drawn W (w2.drewN nq)) := HD2.out.drewN nq
      clear hd1 hd2 he1 he2 hw1 hw2 hs2 hs3 hs4 hcat2 HD2
      generalize w2.drewN nq = w3 at *
      go_wp2_with fail
      go_roundw
      case rel => exact ⟨k + 1, by omega, by go_num, rfl, HD3⟩
      case measure => simp [intOf]; omega
    · have ek : k = l.length := by omega
      subst ek
      rw [List.take_length]
      go_wp2_with fail
      go_ret
      rw [HL.out]
      exact ⟨rfl, HD.out⟩
end Go.Proofs.YtadhkeboaapfcaaGreatDoor.LinW
