/- lines.word. -/
import Derived.Test.YtadhkeboaapfcaaGreatDoorWordB
import Derived.Test.YtadhkeboaapfcaaGreatDoorEvE
import Derived.Lib.AppendIntMem
namespace Go.Proofs.YtadhkeboaapfcaaGreatDoor.EvW
open Go.RowKit OctMath NameMath HexMath
set_option linter.unusedVariables false
set_option linter.unusedSimpArgs false
set_option maxRecDepth 100000

/-- what a letter stands for -/
def wordL (v : Ev) (c : UInt8) : List UInt8 :=
  if c = 84 then v.topic else
  if c = 71 then v.group else
  if c = 81 then Lib.itoa v.queue else
  if c = 78 then Lib.itoa v.n else
  if c = 65 then Lib.itoa v.aat else
  if c = 76 then Lib.itoa v.lack else
  if c = 116 then (if v.tag.isEmpty then [46] else v.tag) else
  if c = 107 then keysL v.keys else
  if c = 98 then hexL v.body else
  if c = 120 then hexL v.key else
  if c = 112 then bitsL v.keep else
  if c = 102 then textL v.tags else
  if v.sync then [83, 89, 78, 67] else []
/-- the texts of an event are no greater than memory bears -/
structure EvJ (v : Ev) : Prop where
  keys : (Lib.join (v.keys.map hexL) [44]).length ≤ 140737488355328
  tags : (Lib.join v.tags [32, 124, 124, 32]).length ≤ 140737488355328
def Tab (w : World) : Prop := Lib.TabIs Tryz.prog w "internal/strconv.uint64pow10" .u64 Lib.pow10Tab
theorem Tab.below {W w : World} (h : Tab W) (hb : Below W.heap.size W w) : Tab w := Lib.tabBelow_of_tabIs h w hb
theorem itoa_any (n : Int) (h0 : -9223372036854775808 ≤ n) (h1 : n ≤ 9223372036854775807) (w : World) (h : Tab w) :
    Calls Tryz.prog 37 #[.int .i64 n] w fun e w' => e = .returned (.string (S (Lib.itoa n))) ∧ Below w.heap.size w w' := by
  refine (Tryz.strconv_Itoa n h0 h1 w h).mono ?_
  rintro e w' ⟨rfl, k, os, rfl⟩
  exact ⟨rfl, Lib.below_grow _ w (Nat.le_refl _) k os⟩

set_option maxHeartbeats 3200000 in
theorem word_any (v : Ev) (s : EvS) (hok : EvOk v) (hi : EvI v) (hj : EvJ v) (hn : TagW.newE v.tags = 0) (c : UInt8) (hc : c.toNat < 128) (W : World) (hin : EvIn W v s) (htab : Tab W) :
    Calls Tryz.prog 23 #[.agg (v.cells s), .int .i32 (c.toNat : Int)] W fun e w' => e = .returned (.string (S (wordL v c))) ∧ Below W.heap.size W w' := by
  have HIN := Lib.hid hin
  have HOK := Lib.hid hok
  have HI := Lib.hid hi
  have HJ := Lib.hid hj
  have HN := Lib.hid hn
  have HTB := Lib.hid htab
  clear hin hok hi hj hn htab
  obtain ⟨cs, hcs⟩ : ∃ cs, v.cells s = cs := ⟨_, rfl⟩
  have HCS := Lib.hid hcs
  rw [hcs]
  have hc0 : cs.size = 14 := by rw [← hcs]; rfl
  clear hcs
  have HB0 : Hid (Below W.heap.size W (W.alloc (.cells cs 25))) := (Below.refl _ W).alloc (Nat.le_refl _) _
  by_cases hc84 : c = 84
  · subst hc84
    have HW : Hid (wordL v 84 = v.topic) := rfl
    have e5 : cs[5] = .string (S v.topic) := by have := HCS.out; subst this; rfl
    go_enter Tryz.func23, Tryz.ntmps23
    go_wp2_with fail
    go_ret
    rw [HW.out]
    exact ⟨rfl, HB0.out⟩
  have b84 : ((c.toNat : Int) == 84) = false := beq_eq_false_iff_ne.2 (fun h => hc84 (by apply UInt8.toNat_inj.1; show c.toNat = 84; omega))
  by_cases hc71 : c = 71
  · subst hc71
    have HW : Hid (wordL v 71 = v.group) := rfl
    have e6 : cs[6] = .string (S v.group) := by have := HCS.out; subst this; rfl
    go_enter Tryz.func23, Tryz.ntmps23
    go_wp2_with fail
    go_ret
    rw [HW.out]
    exact ⟨rfl, HB0.out⟩
  have b71 : ((c.toNat : Int) == 71) = false := beq_eq_false_iff_ne.2 (fun h => hc71 (by apply UInt8.toNat_inj.1; show c.toNat = 71; omega))
  by_cases hc81 : c = 81
  · subst hc81
    have HW : Hid (wordL v 81 = Lib.itoa v.queue) := rfl
    have e1 : cs[1] = .int .i64 v.queue := by have := HCS.out; subst this; rfl
    have HC := Lib.hid (fun w h => itoa_any v.queue (HI.out.queue).1 (HI.out.queue).2 w h)
    generalize Lib.itoa v.queue = r at *
    go_enter Tryz.func23, Tryz.ntmps23
    go_wp2_with fail
    refine (HC.out _ (HTB.out.below HB0.out)).mono ?_
    rintro e w2 ⟨rfl, hb⟩
    have HB2 := Lib.hid (HB0.out.trans (hb.mono HB0.out.size))
    clear hb HB0 HC
    go_wp2_with fail
    go_ret
    rw [HW.out]
    exact ⟨rfl, HB2.out⟩
  have b81 : ((c.toNat : Int) == 81) = false := beq_eq_false_iff_ne.2 (fun h => hc81 (by apply UInt8.toNat_inj.1; show c.toNat = 81; omega))
  by_cases hc78 : c = 78
  · subst hc78
    have HW : Hid (wordL v 78 = Lib.itoa v.n) := rfl
    have e2 : cs[2] = .int .i64 v.n := by have := HCS.out; subst this; rfl
    have HC := Lib.hid (fun w h => itoa_any v.n (HI.out.n).1 (HI.out.n).2 w h)
    generalize Lib.itoa v.n = r at *
    go_enter Tryz.func23, Tryz.ntmps23
    go_wp2_with fail
    refine (HC.out _ (HTB.out.below HB0.out)).mono ?_
    rintro e w2 ⟨rfl, hb⟩
    have HB2 := Lib.hid (HB0.out.trans (hb.mono HB0.out.size))
    clear hb HB0 HC
    go_wp2_with fail
    go_ret
    rw [HW.out]
    exact ⟨rfl, HB2.out⟩
  have b78 : ((c.toNat : Int) == 78) = false := beq_eq_false_iff_ne.2 (fun h => hc78 (by apply UInt8.toNat_inj.1; show c.toNat = 78; omega))
  by_cases hc65 : c = 65
  · subst hc65
    have HW : Hid (wordL v 65 = Lib.itoa v.aat) := rfl
    have e3 : cs[3] = .int .i64 v.aat := by have := HCS.out; subst this; rfl
    have HC := Lib.hid (fun w h => itoa_any v.aat (HI.out.aat).1 (HI.out.aat).2 w h)
    generalize Lib.itoa v.aat = r at *
    go_enter Tryz.func23, Tryz.ntmps23
    go_wp2_with fail
    refine (HC.out _ (HTB.out.below HB0.out)).mono ?_
    rintro e w2 ⟨rfl, hb⟩
    have HB2 := Lib.hid (HB0.out.trans (hb.mono HB0.out.size))
    clear hb HB0 HC
    go_wp2_with fail
    go_ret
    rw [HW.out]
    exact ⟨rfl, HB2.out⟩
  have b65 : ((c.toNat : Int) == 65) = false := beq_eq_false_iff_ne.2 (fun h => hc65 (by apply UInt8.toNat_inj.1; show c.toNat = 65; omega))
  by_cases hc76 : c = 76
  · subst hc76
    have HW : Hid (wordL v 76 = Lib.itoa v.lack) := rfl
    have e4 : cs[4] = .int .i64 v.lack := by have := HCS.out; subst this; rfl
    have HC := Lib.hid (fun w h => itoa_any v.lack (HI.out.lack).1 (HI.out.lack).2 w h)
    generalize Lib.itoa v.lack = r at *
    go_enter Tryz.func23, Tryz.ntmps23
    go_wp2_with fail
    refine (HC.out _ (HTB.out.below HB0.out)).mono ?_
    rintro e w2 ⟨rfl, hb⟩
    have HB2 := Lib.hid (HB0.out.trans (hb.mono HB0.out.size))
    clear hb HB0 HC
    go_wp2_with fail
    go_ret
    rw [HW.out]
    exact ⟨rfl, HB2.out⟩
  have b76 : ((c.toNat : Int) == 76) = false := beq_eq_false_iff_ne.2 (fun h => hc76 (by apply UInt8.toNat_inj.1; show c.toNat = 76; omega))
  by_cases hc116 : c = 116
  · subst hc116
    have HW : Hid (wordL v 116 = (if v.tag.isEmpty then [46] else v.tag)) := rfl
    have e7 : cs[7] = .string (S v.tag) := by have := HCS.out; subst this; rfl
    have HC := Lib.hid (fun w => plain_word v.tag w)
    generalize (if v.tag.isEmpty then [46] else v.tag) = r at *
    go_enter Tryz.func23, Tryz.ntmps23
    go_wp2_with fail
    refine (HC.out _).mono ?_
    rintro e w2 ⟨rfl, rfl⟩
    have HB2 := HB0
    clear HC
    go_wp2_with fail
    go_ret
    rw [HW.out]
    exact ⟨rfl, HB2.out⟩
  have b116 : ((c.toNat : Int) == 116) = false := beq_eq_false_iff_ne.2 (fun h => hc116 (by apply UInt8.toNat_inj.1; show c.toNat = 116; omega))
  by_cases hc107 : c = 107
  · subst hc107
    have HW : Hid (wordL v 107 = keysL v.keys) := rfl
    have e10 : cs[10] = .slice s.ka v.keys.length s.kc := by have := HCS.out; subst this; rfl
    have HC := Lib.hid (fun w h => keys_any s.ka s.kc v.keys HOK.out.keys HOK.out.keysz HJ.out.keys w h)
    generalize keysL v.keys = r at *
    go_enter Tryz.func23, Tryz.ntmps23
    go_wp2_with fail
    refine (HC.out _ (HIN.out.below HB0.out).keys).mono ?_
    rintro e w2 ⟨rfl, hb⟩
    have HB2 := Lib.hid (HB0.out.trans (hb.mono HB0.out.size))
    clear hb HB0 HC
    go_wp2_with fail
    go_ret
    rw [HW.out]
    exact ⟨rfl, HB2.out⟩
  have b107 : ((c.toNat : Int) == 107) = false := beq_eq_false_iff_ne.2 (fun h => hc107 (by apply UInt8.toNat_inj.1; show c.toNat = 107; omega))
  by_cases hc98 : c = 98
  · subst hc98
    have HW : Hid (wordL v 98 = hexL v.body) := rfl
    have e9 : cs[9] = .string (S v.body) := by have := HCS.out; subst this; rfl
    have HC := Lib.hid (fun w => LinW.hex_any v.body HOK.out.body w)
    generalize hexL v.body = r at *
    go_enter Tryz.func23, Tryz.ntmps23
    go_wp2_with fail
    refine (HC.out _).mono ?_
    rintro e w2 ⟨rfl, hb⟩
    have HB2 := Lib.hid (HB0.out.trans (hb.mono HB0.out.size))
    clear hb HB0 HC
    go_wp2_with fail
    go_ret
    rw [HW.out]
    exact ⟨rfl, HB2.out⟩
  have b98 : ((c.toNat : Int) == 98) = false := beq_eq_false_iff_ne.2 (fun h => hc98 (by apply UInt8.toNat_inj.1; show c.toNat = 98; omega))
  by_cases hc120 : c = 120
  · subst hc120
    have HW : Hid (wordL v 120 = hexL v.key) := rfl
    have e8 : cs[8] = .string (S v.key) := by have := HCS.out; subst this; rfl
    have HC := Lib.hid (fun w => LinW.hex_any v.key HOK.out.key w)
    generalize hexL v.key = r at *
    go_enter Tryz.func23, Tryz.ntmps23
    go_wp2_with fail
    refine (HC.out _).mono ?_
    rintro e w2 ⟨rfl, hb⟩
    have HB2 := Lib.hid (HB0.out.trans (hb.mono HB0.out.size))
    clear hb HB0 HC
    go_wp2_with fail
    go_ret
    rw [HW.out]
    exact ⟨rfl, HB2.out⟩
  have b120 : ((c.toNat : Int) == 120) = false := beq_eq_false_iff_ne.2 (fun h => hc120 (by apply UInt8.toNat_inj.1; show c.toNat = 120; omega))
  by_cases hc112 : c = 112
  · subst hc112
    have HW : Hid (wordL v 112 = bitsL v.keep) := rfl
    have e12 : cs[12] = .slice s.pa v.keep.length s.pc := by have := HCS.out; subst this; rfl
    have HC := Lib.hid (fun w h => bits_any s.pa s.pc v.keep HOK.out.keep w h)
    generalize bitsL v.keep = r at *
    go_enter Tryz.func23, Tryz.ntmps23
    go_wp2_with fail
    refine (HC.out _ (HIN.out.below HB0.out).keep).mono ?_
    rintro e w2 ⟨rfl, hb⟩
    have HB2 := Lib.hid (HB0.out.trans (hb.mono HB0.out.size))
    clear hb HB0 HC
    go_wp2_with fail
    go_ret
    rw [HW.out]
    exact ⟨rfl, HB2.out⟩
  have b112 : ((c.toNat : Int) == 112) = false := beq_eq_false_iff_ne.2 (fun h => hc112 (by apply UInt8.toNat_inj.1; show c.toNat = 112; omega))
  by_cases hc102 : c = 102
  · subst hc102
    have HW : Hid (wordL v 102 = textL v.tags) := rfl
    have e11 : cs[11] = .slice s.ta v.tags.length s.tc := by have := HCS.out; subst this; rfl
    have HC := Lib.hid (fun w h => TagW.new_any s.ta s.tc v.tags HOK.out.tags HOK.out.tagsz w h)
    go_enter Tryz.func23, Tryz.ntmps23
    go_wp2_with fail
    refine (HC.out _ (HIN.out.below HB0.out).tags).mono ?_
    rintro e w1 ⟨p, rfl, hb, hf⟩
    have HB1 := Lib.hid (HB0.out.trans (hb.mono HB0.out.size))
    have HF := Lib.hid (hf HN.out)
    have HT := Lib.hid (text_any _ p v.tags HOK.out.tags HJ.out.tags _ HF.out)
    generalize textL v.tags = r at *
    clear hb hf HC HB0
    go_wp2_with fail
    refine HT.out.mono ?_
    rintro e w2 ⟨rfl, hb⟩
    have HB2 := Lib.hid (HB1.out.trans (hb.mono HB1.out.size))
    clear hb HB1 HT HF
    go_wp2_with fail
    go_ret
    rw [HW.out]
    exact ⟨rfl, HB2.out⟩
  have b102 : ((c.toNat : Int) == 102) = false := beq_eq_false_iff_ne.2 (fun h => hc102 (by apply UInt8.toNat_inj.1; show c.toNat = 102; omega))
  have HW : Hid (wordL v c = if v.sync then [83, 89, 78, 67] else []) := by show _ = _; unfold wordL; simp [*]
  clear hc84 hc71 hc81 hc78 hc65 hc76 hc116 hc107 hc98 hc120 hc112 hc102
  have e13 : cs[13] = .bool v.sync := by have := HCS.out; subst this; rfl
  generalize v.sync = b at *
  cases b
  · go_enter Tryz.func23, Tryz.ntmps23
    go_wp2_with fail
    go_ret
    rw [HW.out]
    exact ⟨rfl, HB0.out⟩
  · go_enter Tryz.func23, Tryz.ntmps23
    go_wp2_with fail
    go_ret
    rw [HW.out]
    exact ⟨rfl, HB0.out⟩
end Go.Proofs.YtadhkeboaapfcaaGreatDoor.EvW
