/- lines.Unhex; reveilleref30.Even. -/
import Derived.Test.YtadhkeboaapfcaaGreatDoorHexA
import Derived.Test.YtadhkeboaapfcaaGreatDoorShelf
namespace Go.Proofs.YtadhkeboaapfcaaGreatDoor.LinW
open Go.RowKit OctMath HexMath
set_option maxRecDepth 100000
set_option linter.unusedSimpArgs false
set_option linter.unusedVariables false

def dvalI (c : UInt8) : Int := match dval c with
  | some n => n
  | none => -1
theorem index_hex : ∀ n : Nat, n < 256 → Lib.indexByte [48, 49, 50, 51, 52, 53, 54, 55, 56, 57, 97, 98, 99, 100, 101, 102] (UInt8.ofNat n) = dvalI (UInt8.ofNat n) := by decide +kernel
theorem index_hexc (c : UInt8) : Lib.indexByte [48, 49, 50, 51, 52, 53, 54, 55, 56, 57, 97, 98, 99, 100, 101, 102] c = dvalI c := by
  have := index_hex c.toNat c.toNat_lt
  rwa [UInt8.ofNat_toNat] at this
theorem index_at (l : List UInt8) (n : Nat) (i : Int) (hi : i = n) (h : n < l.length) (k : IntKind) (w : World) : (Instr.index 9 (.string (S l)) (.int k i)).run Tryz.prog w = .ok (.int .u8 (l[n].toNat : Int)) w := by
  subst hi
  have hs := S_size l
  rw [run_index_string (h := Tryz.underlying9), dif_pos ⟨by omega, by omega⟩]; rfl

theorem index_hexi (c : UInt8) : Lib.indexByte ({ data := #[48, 49, 50, 51, 52, 53, 54, 55, 56, 57, 97, 98, 99, 100, 101, 102] } : ByteArray).data.toList ((c.toNat : Int).toNat.toUInt8) = dvalI c := by
  have : ((c.toNat : Int).toNat.toUInt8) = c := by
    rw [Int.toNat_natCast]; show UInt8.ofNat c.toNat = c; exact UInt8.ofNat_toNat
  rw [this]; exact index_hexc c
theorem pairs_none (a b : UInt8) (r : List UInt8) (h : dval a = none ∨ dval b = none) : pairs (a :: b :: r) = none := by
  unfold pairs
  rcases h with h | h
  · rw [h]
  · rw [h]; cases dval a <;> rfl
theorem pairs_some (a b : UInt8) (r : List UInt8) (x y : Nat) (h : dval a = some x) (h2 : dval b = some y) : pairs (a :: b :: r) = (pairs r).map fun l => UInt8.ofNat (x * 16 + y) :: l := by
  conv => lhs; unfold pairs
  rw [h, h2]
theorem pairs_short (r : List UInt8) (h : r.length ≤ 1) : pairs r = some [] := by
  match r, h with
  | [], _ => rfl
  | [_], _ => rfl
theorem row1_new (w : World) (v : Value) (e : TypeId) : Row1 (w.alloc (.cells #[v] e)) (some ⟨w.heap.size, 0, none⟩) [v] := by
  intro i hi
  have : i = 0 := by simpa using hi
  subst this
  exact ⟨_, _, rfl, by rw [World.cell?_alloc_new]; rfl⟩
theorem or_dig (x y : Nat) (hx : x < 16) (hy : y < 16) : bits .or .i64 ((x : Int) * 16) (y : Int) = ((x * 16 + y : Nat) : Int) := by
  have h1 : (BitVec.ofInt 64 ((x : Int) * 16)).toNat = x * 16 := by
    rw [show (x : Int) * 16 = ((x * 16 : Nat) : Int) by omega, BitVec.ofInt_natCast, BitVec.toNat_ofNat]; exact Nat.mod_eq_of_lt (by omega)
  have h2 : (BitVec.ofInt 64 (y : Int)).toNat = y := by
    rw [BitVec.ofInt_natCast, BitVec.toNat_ofNat]; exact Nat.mod_eq_of_lt (by omega)
  have h3 : 2 ^ 4 * x + y = 2 ^ 4 * x ||| y := Nat.two_pow_add_eq_or_of_lt (i := 4) (by omega) x
  show IntKind.i64.wrap ((BitVec.ofInt 64 ((x : Int) * 16) ||| BitVec.ofInt 64 (y : Int)).toNat : Int) = _
  rw [BitVec.toNat_or, h1, h2, show x * 16 ||| y = x * 16 + y by rw [Nat.mul_comm x 16]; exact h3.symm]
  rw [IntKind.wrap_i64]; omega

set_option maxHeartbeats 1600000 in
theorem unhex_any (l : List UInt8) (hl : l.length ≤ 1099511627776) (W : World) :
    Calls Tryz.prog 14 #[.string (S l)] W fun e w' => e = .returned (.tuple #[.string (S (unhexL l).1), .bool (unhexL l).2]) ∧ Below W.heap.size W w' := by
  obtain ⟨i0, hi0, hz0, hz1, hz2⟩ := info_parts (show (Tryz.prog.info? 5).map (fun i => (i.zero, i.size, i.bytes)) = some (some (.int .u8 0), 1, 1) by kernel_rfl)
  have hsz := S_size l
  have htl := S_toList l
  by_cases h0 : l = [46]
  · subst h0
    go_enter Tryz.func14, Tryz.ntmps14
    go_wp2_with fail
    go_ret2
    exact ⟨rfl, Below.refl _ _⟩
  have HI0 := Lib.hid hi0
  have HZ0 := Lib.hid hz0
  have HZ1 := Lib.hid hz1
  have HZ2 := Lib.hid hz2
  have hb0 : (l == [46]) = false := by simp [h0]
  have HU : Hid (unhexL l = match pairs l with
    | none => ([], false)
    | some m => if m = [] ∨ hexL m ≠ l then ([], false) else (m, true)) := by show _ = _; unfold unhexL; rw [if_neg h0]; rfl
  clear hi0 hz0 hz1 hz2 h0
  go_enter Tryz.func14, Tryz.ntmps14
  go_wp2_with fail
  clear htl hb0
  go_loopw [4, 5] (fun v i wr => ∃ (k : Nat) (m : List UInt8), m.length = k ∧ 2 * k ≤ l.length ∧ i = .int .i64 (2 * (k : Int) + 1) ∧ Hid (pairs l = (pairs (l.drop (2 * k))).map (m ++ ·)) ∧ Hid (Bytes W.heap.size v m wr) ∧ Hid (Below W.heap.size W wr)) (fun _ i _ => l.length + 1 - (intOf i).toNat)
  case atStart => exact ⟨0, [], rfl, by omega, rfl, by simp [Hid], ⟨rfl, .inl ⟨rfl, rfl⟩⟩, Below.refl _ _⟩
  case round =>
    obtain ⟨k, m, hm, hk, rfl, HP, HTX, HB⟩ := hrel
    have HM := Lib.hid hm
    clear hm
    by_cases hlt : 2 * k + 1 < l.length
    · have hi1 : 2 * k < (S l).size := by rw [hsz]; omega
      have hi2 : 2 * k + 1 < (S l).size := by rw [hsz]; exact hlt
      have hx1 := fun w => index_at l (2 * k) (2 * (k : Int)) (by omega) (by omega) .i64 w
      have hx2 := fun w => index_at l (2 * k + 1) (2 * (k : Int) + 1) (by omega) hlt .i64 w
      have hdr : l.drop (2 * k) = l[2 * k] :: l[2 * k + 1] :: l.drop (2 * (k + 1)) := by
        rw [List.drop_eq_getElem_cons (by omega), List.drop_eq_getElem_cons (by omega)]; rfl
      generalize l[2 * k] = a at *
      generalize l[2 * k + 1] = b at *
      have HDR := Lib.hid hdr
      clear hdr
      have hw1 : IntKind.i64.wrap (2 * (k : Int)) = 2 * (k : Int) := IntWalk.i64_in _ (by omega)
      go_wp2_with fail
      go_quiet ((go_at_call 36; exact Calls.quiet_of_same (Tryz.strings_IndexByte _ _ _)))
      rw [index_hexi, index_hexi]
      have HB2 : Hid (Below W.heap.size W (wr.drewN nq)) := HB.out.trans ⟨rfl, rfl, rfl, Nat.le_refl _, fun _ _ => rfl⟩
      have HTX2 : Hid (Bytes W.heap.size u4 m (wr.drewN nq)) := HTX.out
      clear hx1 hx2 hw1 HB HTX hi1 hi2
      generalize wr.drewN nq = w2 at *
      cases ha : dval a with
      | none =>
        have e : dvalI a = -1 := by unfold dvalI; rw [ha]
        have hp := HP.out
        rw [HDR.out, pairs_none a b _ (.inl ha)] at hp
        have HR : Hid (unhexL l = ([], false)) := by show _ = _; rw [HU.out, hp]; rfl
        rw [e]
        clear e hp ha
        go_wp2_with fail
        go_ret2
        rw [HR.out]
        exact ⟨rfl, HB2.out⟩
      | some x =>
        have e : dvalI a = (x : Int) := by unfold dvalI; rw [ha]
        rw [e]
        clear e
        cases hb : dval b with
        | none =>
          have e : dvalI b = -1 := by unfold dvalI; rw [hb]
          have hp := HP.out
          rw [HDR.out, pairs_none a b _ (.inr hb)] at hp
          have HR : Hid (unhexL l = ([], false)) := by show _ = _; rw [HU.out, hp]; rfl
          rw [e]
          clear e hp ha hb
          go_wp2_with fail
          go_ret2
          rw [HR.out]
          exact ⟨rfl, HB2.out⟩
        | some y =>
          have e : dvalI b = (y : Int) := by unfold dvalI; rw [hb]
          rw [e]
          clear e
          have hx16 := (dig_dval a x ha).1
          have hy16 := (dig_dval b y hb).1
          have HP2 : Hid (pairs l = (pairs (l.drop (2 * (k + 1)))).map ((m ++ [UInt8.ofNat (x * 16 + y)]) ++ ·)) := by
            show _ = _
            rw [HP.out, HDR.out, pairs_some a b _ x y ha hb]
            cases pairs (l.drop (2 * (k + 1))) <;> simp
          have hor := or_dig x y hx16 hy16
          clear ha hb HP HDR
          have hn : (UInt8.ofNat (x * 16 + y)).toNat = x * 16 + y := by rw [UInt8.toNat_ofNat']; omega
          have HN := Lib.hid hn
          clear hn
          have hml : m.length ≤ 1099511627776 := by have := HM.out; omega
          have HRW := Lib.hid (row1_new w2 (.int .u8 ((x : Int) * 16 + (y : Int))) 5)
          have HBA : Hid (Below W.heap.size W (w2.alloc (.cells #[.int .u8 ((x : Int) * 16 + (y : Int))] 5))) := HB2.out.alloc HB2.out.size _
          go_wp2_with (at_builtin; refine wpList_append_row rfl (.tmp 31) (.tmp 37) 61 rfl W.heap.size 5 i0 (.int .u8 0) 1 Tryz.underlying61 HI0.out HZ0.out HZ1.out HZ2.out rfl u4 m.length _ rfl (HTX2.out.alloc _) (some ⟨w2.heap.size, 0, none⟩) 1 1 [.int .u8 ((x : Int) * 16 + (y : Int))] rfl rfl HRW.out ?c2 ?c3 ?c4 ?c5 ?_)
          case c2 => intro u hu; simp at hu; subst hu; rfl
          case c3 => unfold maxLen; omega
          case c4 => omega
          case c5 => exact HBA.out.size
          intro v' w4 hown4 hg4
          have HB4 : Hid (Below W.heap.size W w4) := HBA.out.grown hg4 HBA.out.size (ownBlock_of_own HTX2.out)
          have HO4 : Hid (Bytes W.heap.size v' (m ++ [UInt8.ofNat (x * 16 + y)]) w4) := by
            show w4.ownsRow _ _ _ _ (m ++ [UInt8.ofNat (x * 16 + y)]).length _
            rw [List.length_append, List.map_append, List.map_cons, List.map_nil, HN.out]
            exact hown4
          have HM4 : Hid ((m ++ [UInt8.ofNat (x * 16 + y)]).length = k + 1) := by show _ = _; rw [List.length_append, HM.out]; rfl
          clear hown4 hg4 HBA HRW HB2 HTX2 hor
          go_wp2_with fail
          go_roundw
          case rel => exact ⟨k + 1, m ++ [UInt8.ofNat (x * 16 + y)], HM4.out, by omega, by congr 1, HP2, HO4, HB4⟩
          case measure => simp [intOf]; omega
    · have hs := pairs_short (l.drop (2 * k)) (by rw [List.length_drop]; omega)
      have hp := HP.out
      rw [hs, Option.map_some, List.append_nil] at hp
      have HR : Hid (unhexL l = if m = [] ∨ hexL m ≠ l then ([], false) else (m, true)) := by show _ = _; rw [HU.out, hp]
      clear hs hp HP HU
      have hml : m.length ≤ 1099511627776 := by have := HM.out; omega
      have hcv := bytes_conv HTX.out
      have HCV := Lib.hid hcv
      obtain ⟨ad, cp, rfl, hrow, _⟩ := Row1.of_own HTX.out
      clear hcv hrow
      by_cases hm0 : m.length = 0
      · have hb : ((m.length : Int) == 0) = true := beq_iff_eq.2 (by omega)
        have hm1 : m = [] := List.eq_nil_of_length_eq_zero hm0
        have HR2 : Hid (unhexL l = ([], false)) := by show _ = _; rw [HR.out, if_pos (.inl hm1)]
        clear hm1
        generalize m.length = ml at *
        clear hm0
        go_wp2_with fail
        go_ret2
        rw [HR2.out]
        exact ⟨rfl, HB.out⟩
      · have hb : ((m.length : Int) == 0) = false := beq_eq_false_iff_ne.2 (by omega)
        have hm1 : Hid (m ≠ []) := fun e => hm0 (by rw [e]; rfl)
        clear hm0
        go_wp2_with fail
        rw [HCV.out]
        go_wp2_with fail
        refine (hex_any m hml _).mono ?_
        rintro e w3 ⟨rfl, hb3⟩
        have HB3 : Hid (Below W.heap.size W w3) := HB.out.trans (hb3.mono HB.out.size)
        have HT3 : Hid (Bytes W.heap.size (.slice ad m.length cp) m w3) := own_ext HTX.out hb3
        have HCV3 := Lib.hid (bytes_conv HT3.out)
        have h1 := S_toList (hexL m)
        have h2 := S_toList l
        clear hb3 HB HTX HT3 HCV
        by_cases he : hexL m = l
        · have hq : (hexL m == l) = true := beq_iff_eq.2 he
          have HR2 : Hid (unhexL l = (m, true)) := by show _ = _; rw [HR.out, if_neg (fun h => h.elim hm1.out (fun h => h he))]
          clear he
          go_wp2_with fail
          rw [HCV3.out]
          go_wp2_with fail
          go_ret2
          rw [HR2.out]
          exact ⟨rfl, HB3.out⟩
        · have hq : (hexL m == l) = false := beq_eq_false_iff_ne.2 he
          have HR2 : Hid (unhexL l = ([], false)) := by show _ = _; rw [HR.out, if_pos (.inr he)]
          clear he
          go_wp2_with fail
          go_ret2
          rw [HR2.out]
          exact ⟨rfl, HB3.out⟩

set_option maxHeartbeats 1600000 in
theorem even_any (l : List UInt8) (hl : l.length ≤ 1099511627776) (W : World) :
    Calls Tryz.prog 16 #[.string (S l)] W fun e w' => e = .returned (.bool (evenB l)) ∧ Drawn W w' := by
  have hsz := S_size l
  have htl := S_toList l
  by_cases h0 : l = [46]
  · subst h0
    go_enter Tryz.func16, Tryz.ntmps16
    go_wp2_with fail
    go_ret
    exact ⟨rfl, Drawn.refl _⟩
  have hb0 : (l == [46]) = false := by simp [h0]
  by_cases hn : l.length = 0
  · have hb : ((l.length : Int) == 0) = true := beq_iff_eq.2 (by omega)
    have HR : Hid (evenB l = false) := by show _ = _; unfold evenB; rw [decide_eq_false h0, decide_eq_true hn]; rfl
    generalize l.length = ln at *
    clear hn h0
    go_enter Tryz.func16, Tryz.ntmps16
    go_wp2_with fail
    go_ret
    rw [HR.out]
    exact ⟨rfl, Drawn.refl _⟩
  have hbn : ((l.length : Int) == 0) = false := beq_eq_false_iff_ne.2 (by omega)
  by_cases h2 : l.length % 2 = 0
  · have hb2 : ((l.length : Int) % 2 != 0) = false := bne_eq_false_iff_eq.2 (by omega)
    have HE : Hid (evenB l = l.all digitB) := by show _ = _; unfold evenB; rw [decide_eq_false h0, decide_eq_false hn, decide_eq_true h2]; simp
    clear h0 hn h2
    go_enter Tryz.func16, Tryz.ntmps16
    go_wp2_with fail
    clear htl hb0 hbn hb2
    go_loopw [3] (fun i wr => ∃ k : Nat, k ≤ l.length ∧ i = .int .i64 k ∧ Hid ((l.take k).all digitB = true) ∧ Hid (Drawn W wr)) (fun i _ => l.length - (intOf i).toNat)
    case atStart => exact ⟨0, by omega, rfl, rfl, Drawn.refl _⟩
    case round =>
      obtain ⟨k, hk, rfl, HA, HD⟩ := hrel
      by_cases hlt : k < l.length
      · have hi : k < (S l).size := by rw [hsz]; exact hlt
        have hget : (S l)[k] = l[k] := rfl
        have hstep : (l.take (k + 1)).all digitB = ((l.take k).all digitB && digitB l[k]) := by rw [List.take_succ_eq_append_getElem hlt, List.all_append, List.all_cons, List.all_nil, Bool.and_true]; rfl
        have hmem : digitB l[k] = false → l.all digitB = false := fun h => by
          rw [List.all_eq_false]; exact ⟨l[k], List.getElem_mem hlt, by rw [h]; simp⟩
        have hdg : digitB l[k] = ((decide (48 ≤ l[k].toNat) && decide (l[k].toNat ≤ 57)) || (decide (97 ≤ l[k].toNat) && decide (l[k].toNat ≤ 102))) := rfl
        generalize l[k] = c at *
        have HST := Lib.hid hstep
        have HMEM := Lib.hid hmem
        have HDG := Lib.hid hdg
        have hc := c.toNat_lt
        clear hstep hmem hdg
        rcases (show c.toNat < 48 ∨ (48 ≤ c.toNat ∧ c.toNat ≤ 57) ∨ (57 < c.toNat ∧ c.toNat < 97) ∨ (97 ≤ c.toNat ∧ c.toNat ≤ 102) ∨ 102 < c.toNat by omega) with h | ⟨h, h'⟩ | ⟨h, h'⟩ | ⟨h, h'⟩ | h
        · have HT : Hid (evenB l = false) := by show _ = _; rw [HE.out]; apply HMEM.out; rw [HDG.out]; simp; omega
          have d48 : decide (48 ≤ (c.toNat : Int)) = false := decide_eq_false (by omega)
          clear HDG HMEM HST
          go_wp2_with fail
          go_ret
          rw [HT.out]
          exact ⟨rfl, HD.out⟩
        · have HT : Hid ((l.take (k + 1)).all digitB = true) := by show _ = _; rw [HST.out, HA.out, HDG.out]; simp; omega
          have d48 : decide (48 ≤ (c.toNat : Int)) = true := decide_eq_true (by omega)
          have d57 : decide ((c.toNat : Int) ≤ 57) = true := decide_eq_true (by omega)
          clear HDG HMEM HST
          go_wp2_with fail
          go_roundw
          case rel => exact ⟨k + 1, by omega, by go_num, HT, HD⟩
          case measure => simp [intOf]; omega
        · have HT : Hid (evenB l = false) := by show _ = _; rw [HE.out]; apply HMEM.out; rw [HDG.out]; simp; omega
          have d48 : decide (48 ≤ (c.toNat : Int)) = true := decide_eq_true (by omega)
          have d57 : decide ((c.toNat : Int) ≤ 57) = false := decide_eq_false (by omega)
          have d97 : decide (97 ≤ (c.toNat : Int)) = false := decide_eq_false (by omega)
          clear HDG HMEM HST
          go_wp2_with fail
          go_ret
          rw [HT.out]
          exact ⟨rfl, HD.out⟩
        · have HT : Hid ((l.take (k + 1)).all digitB = true) := by show _ = _; rw [HST.out, HA.out, HDG.out]; simp; omega
          have d48 : decide (48 ≤ (c.toNat : Int)) = true := decide_eq_true (by omega)
          have d57 : decide ((c.toNat : Int) ≤ 57) = false := decide_eq_false (by omega)
          have d97 : decide (97 ≤ (c.toNat : Int)) = true := decide_eq_true (by omega)
          have d102 : decide ((c.toNat : Int) ≤ 102) = true := decide_eq_true (by omega)
          clear HDG HMEM HST
          go_wp2_with fail
          go_roundw
          case rel => exact ⟨k + 1, by omega, by go_num, HT, HD⟩
          case measure => simp [intOf]; omega
        · have HT : Hid (evenB l = false) := by show _ = _; rw [HE.out]; apply HMEM.out; rw [HDG.out]; simp; omega
          have d48 : decide (48 ≤ (c.toNat : Int)) = true := decide_eq_true (by omega)
          have d57 : decide ((c.toNat : Int) ≤ 57) = false := decide_eq_false (by omega)
          have d97 : decide (97 ≤ (c.toNat : Int)) = true := decide_eq_true (by omega)
          have d102 : decide ((c.toNat : Int) ≤ 102) = false := decide_eq_false (by omega)
          clear HDG HMEM HST
          go_wp2_with fail
          go_ret
          rw [HT.out]
          exact ⟨rfl, HD.out⟩
      · have ek : k = l.length := by omega
        subst ek
        rw [List.take_length] at HA
        go_wp2_with fail
        go_ret
        rw [HE.out, HA.out]
        exact ⟨rfl, HD.out⟩
  · have hb2 : ((l.length : Int) % 2 != 0) = true := bne_iff_ne.2 (by omega)
    have HR : Hid (evenB l = false) := by show _ = _; unfold evenB; rw [decide_eq_false h0, decide_eq_false h2]; simp
    clear h0 hn h2
    go_enter Tryz.func16, Tryz.ntmps16
    go_wp2_with fail
    go_ret
    rw [HR.out]
    exact ⟨rfl, Drawn.refl _⟩
end Go.Proofs.YtadhkeboaapfcaaGreatDoor.LinW
