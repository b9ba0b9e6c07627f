/- lines.right: may an event be told by letters? -/
import Derived.Test.YtadhkeboaapfcaaGreatDoorEvA
namespace Go.Proofs.YtadhkeboaapfcaaGreatDoor.EvW
open Go.RowKit OctMath NameMath
set_option linter.unusedVariables false
set_option linter.unusedSimpArgs false

structure Ev where
  kind : Int
  queue : Int
  n : Int
  aat : Int
  lack : Int
  topic : List UInt8
  group : List UInt8
  tag : List UInt8
  key : List UInt8
  body : List UInt8
  keys : List (List UInt8)
  tags : List (List UInt8)
  keep : List Bool
  sync : Bool
/-- where an event's slices lie -/
structure EvS where
  ka : Option Addr
  kc : Nat
  ta : Option Addr
  tc : Nat
  pa : Option Addr
  pc : Nat
def Ev.cells (v : Ev) (s : EvS) : Array Value := #[.int .i64 v.kind, .int .i64 v.queue, .int .i64 v.n, .int .i64 v.aat, .int .i64 v.lack, .string (S v.topic), .string (S v.group), .string (S v.tag), .string (S v.key), .string (S v.body), .slice s.ka v.keys.length s.kc, .slice s.ta v.tags.length s.tc, .slice s.pa v.keep.length s.pc, .bool v.sync]
structure EvIn (w : World) (v : Ev) (s : EvS) : Prop where
  keys : Strs w s.ka (v.keys.map S)
  tags : Strs w s.ta (v.tags.map S)
  keep : Row1 w s.pa (v.keep.map .bool)
/-- no greater than any that is played -/
structure EvOk (v : Ev) : Prop where
  topic : v.topic.length ≤ 1099511627776
  group : v.group.length ≤ 1099511627776
  tag : v.tag.length ≤ 1099511627776
  key : v.key.length ≤ 1099511627776
  body : v.body.length ≤ 1099511627776
  keys : v.keys.length ≤ 1048576
  tags : v.tags.length ≤ 1048576
  keep : v.keep.length ≤ 1048576
  keysz : ∀ t ∈ v.keys, t.length ≤ 1099511627776
  tagsz : ∀ t ∈ v.tags, t.length ≤ 1099511627776
theorem EvIn.below {W w : World} {v : Ev} {s : EvS} (h : EvIn W v s) (hb : Below W.heap.size W w) : EvIn w v s := ⟨h.keys.below hb, h.tags.below hb, h.keep.below hb⟩
/-- a row of cells in a block -/
def Boxed (w : World) (B : Nat) (cs : Array Value) : Prop := ∀ (k : Nat) (v : Value), cs[k]? = some v → w.cell? ⟨B, k, none⟩ = some v
theorem Boxed.below {W w : World} {B : Nat} {cs : Array Value} (h : Boxed W B cs) (hb : Below W.heap.size W w) : Boxed w B cs := fun k v e => by
  have hc := h k v e
  rw [hb.cell (cell_lt hc)]; exact hc
theorem Boxed.new (w : World) (cs : Array Value) (e : TypeId) : Boxed (w.alloc (.cells cs e)) w.heap.size cs := fun k v h => by rw [World.cell?_alloc_new]; exact h

theorem row_strs {w : World} {a : Option Addr} {ts : List (List UInt8)} (h : Strs w a (ts.map S)) : Row1 w a (ts.map fun x => .string (S x)) := by
  have := Row1.of_strs h
  rw [List.map_map] at this; exact this
def hasB (letters : List UInt8) (c : UInt8) : Bool := decide (0 ≤ Lib.indexByte letters c)
def rightB (v : Ev) (letters : List UInt8) : Bool :=
  !([v.queue, v.n, v.aat, v.lack].any badN) && (v.tag.isEmpty || plainL v.tag) && decide (TagW.newE v.tags = 0) && (!hasB letters 84 || topicL v.topic) && (!hasB letters 71 || groupL v.group)
    && decide (v.body.length ≤ 300) && decide (v.key.length ≤ 300) && decide (v.keys.length ≤ 10) && decide (v.keep.length ≤ 100) && !v.keys.any badK

set_option maxHeartbeats 1600000 in
theorem has_letter (letters : List UInt8) (c : UInt8) (B : Nat) (w : World) (h : w.cell? ⟨B, 0, none⟩ = some (.string (S letters))) :
    Calls Tryz.prog 38 #[.string ⟨#[c]⟩, .pointer (some ⟨B, 0, none⟩)] w fun e w' => e = .returned (.bool (hasB letters c)) ∧ w' = w := by
  have hC := fun w => Tryz.strings_Contains_one (S letters) c w
  rw [S_list] at hC
  go_enter Tryz.func38, Tryz.ntmps38
  go_wp2_with fail
  refine (hC _).mono ?_
  rintro e w2 ⟨rfl, rfl⟩
  go_wp2_with fail
  go_ret
  exact ⟨rfl, rfl⟩

set_option maxRecDepth 100000 in
set_option maxHeartbeats 3200000 in
theorem right_any (v : Ev) (s : EvS) (letters : List UInt8) (hok : EvOk v) (W : World) (hin : EvIn W v s) :
    Calls Tryz.prog 20 #[.agg (v.cells s), .string (S letters)] W fun e w' => e = .returned (.bool (rightB v letters)) ∧ Below W.heap.size W w' := by
  have HIN := Lib.hid hin
  have HOK := Lib.hid hok
  clear hin hok
  obtain ⟨cs, hcs⟩ : ∃ cs, v.cells s = cs := ⟨_, rfl⟩
  have HCS := Lib.hid hcs
  rw [hcs]
  have hc0 : cs.size = 14 := by rw [← hcs]; rfl
  clear hcs
  go_enter Tryz.func20, Tryz.ntmps20
  have HR : Hid (rightB v letters = (!([v.queue, v.n, v.aat, v.lack].any badN) && (v.tag.isEmpty || plainL v.tag) && decide (TagW.newE v.tags = 0) && (!hasB letters 84 || topicL v.topic) && (!hasB letters 71 || groupL v.group)
    && decide (v.body.length ≤ 300) && decide (v.key.length ≤ 300) && decide (v.keys.length ≤ 10) && decide (v.keep.length ≤ 100) && !v.keys.any badK)) := rfl
  have HB0 : Hid (Below W.heap.size W ((W.alloc (.cells cs 25)).alloc (.cells #[.string (S letters)] 9))) := ((Below.refl _ W).alloc (Nat.le_refl _) _).alloc (by simp) _
  have HX0 : Hid (Boxed ((W.alloc (.cells cs 25)).alloc (.cells #[.string (S letters)] 9)) W.heap.size cs) := (Boxed.new W cs _).below ((Below.refl _ _).alloc (Nat.le_refl _) _)
  have HL0 : Hid (Boxed ((W.alloc (.cells cs 25)).alloc (.cells #[.string (S letters)] 9)) (W.heap.size + 1) #[.string (S letters)]) := by
    have := Boxed.new (W.alloc (.cells cs 25)) #[.string (S letters)] 9
    rw [World.size_alloc] at this; exact this
  have e11 : cs[11] = .slice s.ta v.tags.length s.tc := by have := HCS.out; subst this; rfl
  have HN := Lib.hid (TagW.new_any s.ta s.tc v.tags HOK.out.tags HOK.out.tagsz _ ((HIN.out.below HB0.out).tags))
  go_wp2_with fail
  refine HN.out.mono ?_
  rintro e w1 ⟨p, rfl, hb, _⟩
  have HB1 := Lib.hid (HB0.out.trans (hb.mono HB0.out.size))
  have HX1 := Lib.hid (HX0.out.below hb)
  have HL1 := Lib.hid (HL0.out.below hb)
  clear hb HN HB0 HX0 HL0 e11
  have c1 : w1.cell? ⟨W.heap.size, 1, none⟩ = some (.int .i64 v.queue) := HX1.out 1 _ (by have := HCS.out; subst this; rfl)
  have c2 : w1.cell? ⟨W.heap.size, 2, none⟩ = some (.int .i64 v.n) := HX1.out 2 _ (by have := HCS.out; subst this; rfl)
  have c3 : w1.cell? ⟨W.heap.size, 3, none⟩ = some (.int .i64 v.aat) := HX1.out 3 _ (by have := HCS.out; subst this; rfl)
  have c4 : w1.cell? ⟨W.heap.size, 4, none⟩ = some (.int .i64 v.lack) := HX1.out 4 _ (by have := HCS.out; subst this; rfl)
  have HNUM := fun w h => num_any (some ⟨w1.heap.size, 0, none⟩) 4 [v.queue, v.n, v.aat, v.lack] (by simp) w h
  go_wp2_with fail
  refine (HNUM _ ?nrow).mono ?_
  case nrow => exact fun i hi => ⟨_, 0, rfl, by rw [World.cell?_alloc_new]; match i, hi with | 0, _ => rfl | 1, _ => rfl | 2, _ => rfl | 3, _ => rfl⟩
  rintro e w2 ⟨rfl, hd⟩
  have hb : Below w1.heap.size w1 w2 := ((Below.refl _ w1).alloc (Nat.le_refl _) _).trans (hd.below _)
  have HB2 := Lib.hid (HB1.out.trans (hb.mono HB1.out.size))
  have HX2 := Lib.hid (HX1.out.below hb)
  have HL2 := Lib.hid (HL1.out.below hb)
  clear hb hd HNUM HB1 HX1 HL1 c1 c2 c3 c4
  generalize [v.queue, v.n, v.aat, v.lack].any badN = nb at *
  cases nb with
  | true =>
    have HT : Hid (rightB v letters = false) := HR.out
    clear HR
    go_wp2_with fail
    go_ret
    rw [HT.out]
    exact ⟨rfl, HB2.out⟩
  | false =>
  have c7 : w2.cell? ⟨W.heap.size, 7, none⟩ = some (.string (S v.tag)) := HX2.out 7 _ (by have := HCS.out; subst this; rfl)
  have HTG := Lib.hid (fun w => NameW.tag_any v.tag HOK.out.tag w)
  go_wp2_with fail
  refine (HTG.out _).mono ?_
  rintro e w3 ⟨rfl, hb⟩
  have HB3 := Lib.hid (HB2.out.trans (hb.mono HB2.out.size))
  have HX3 := Lib.hid (HX2.out.below hb)
  have HL3 := Lib.hid (HL2.out.below hb)
  clear hb HTG HB2 HX2 HL2 c7
  generalize (v.tag.isEmpty || plainL v.tag) = tb at *
  cases tb with
  | false =>
    have HT : Hid (rightB v letters = false) := HR.out
    clear HR
    go_wp2_with fail
    go_ret
    rw [HT.out]
    exact ⟨rfl, HB3.out⟩
  | true =>
  by_cases he : TagW.newE v.tags = 0
  case neg =>
    have hb0 : (TagW.newE v.tags != 0) = true := bne_iff_ne.2 he
    have HT : Hid (rightB v letters = false) := by show _ = _; rw [HR.out, decide_eq_false he]; rfl
    clear HR he
    go_wp2_with fail
    go_ret
    rw [HT.out]
    exact ⟨rfl, HB3.out⟩
  have hb0 : (TagW.newE v.tags != 0) = false := bne_eq_false_iff_eq.2 he
  rw [decide_eq_true he] at HR
  have cL : w3.cell? ⟨W.heap.size + 1, 0, none⟩ = some (.string (S letters)) := HL3.out 0 _ rfl
  have HHT := Lib.hid (fun w h => has_letter letters 84 (W.heap.size + 1) w h)
  clear he
  go_wp2_with fail
  refine (HHT.out _ cL).mono ?_
  rintro e w4 ⟨rfl, rfl⟩
  clear HHT cL
  generalize hasB letters 84 = ht at *
  cases ht with
  | false =>
    obtain ⟨w5, rfl⟩ : ∃ w5 : World, w5 = w4 := ⟨_, rfl⟩
    have HB5 := HB3
    have HX5 := HX3
    have HL5 := HL3
    clear HB3 HX3 HL3
    have cL2 : w5.cell? ⟨W.heap.size + 1, 0, none⟩ = some (.string (S letters)) := HL5.out 0 _ rfl
    have HHG := Lib.hid (fun w h => has_letter letters 71 (W.heap.size + 1) w h)
    go_wp2_with fail
    refine (HHG.out _ cL2).mono ?_
    rintro e w6 ⟨rfl, rfl⟩
    clear HHG cL2
    generalize hasB letters 71 = hg at *
    cases hg with
    | false =>
      obtain ⟨w9, rfl⟩ : ∃ w9 : World, w9 = w6 := ⟨_, rfl⟩
      have HB9 := HB5
      have HX9 := HX5
      clear HB5 HX5 HL5
      have c8 : w9.cell? ⟨W.heap.size, 8, none⟩ = some (.string (S v.key)) := HX9.out 8 _ (by have := HCS.out; subst this; rfl)
      have c9 : w9.cell? ⟨W.heap.size, 9, none⟩ = some (.string (S v.body)) := HX9.out 9 _ (by have := HCS.out; subst this; rfl)
      have c10 : w9.cell? ⟨W.heap.size, 10, none⟩ = some (.slice s.ka v.keys.length s.kc) := HX9.out 10 _ (by have := HCS.out; subst this; rfl)
      have c12 : w9.cell? ⟨W.heap.size, 12, none⟩ = some (.slice s.pa v.keep.length s.pc) := HX9.out 12 _ (by have := HCS.out; subst this; rfl)
      have z8 := S_size v.key
      have z9 := S_size v.body
      have d1 : decide ((v.body.length : Int) ≤ 300) = decide (v.body.length ≤ 300) := decide_eq_decide.2 (by omega)
      have d2 : decide ((v.key.length : Int) ≤ 300) = decide (v.key.length ≤ 300) := decide_eq_decide.2 (by omega)
      have d3 : decide ((v.keys.length : Int) ≤ 10) = decide (v.keys.length ≤ 10) := decide_eq_decide.2 (by omega)
      have d4 : decide ((v.keep.length : Int) ≤ 100) = decide (v.keep.length ≤ 100) := decide_eq_decide.2 (by omega)
      have HCF := Lib.hid (ContW.contains_str 40 (enters_of Tryz.func40 (by kernel_rfl) rfl) badK s.ka s.kc v.keys HOK.out.keys (fun x hx w => badk_any x (HOK.out.keysz x hx) w) w9 (row_strs (HIN.out.below HB9.out).keys))
      generalize decide (v.body.length ≤ 300) = b1 at *
      generalize decide (v.key.length ≤ 300) = b2 at *
      generalize decide (v.keys.length ≤ 10) = b3 at *
      generalize decide (v.keep.length ≤ 100) = b4 at *
      generalize v.keys.any badK = b5 at *
      rcases (show b1 = false ∨ (b1 = true ∧ b2 = false) ∨ (b1 = true ∧ b2 = true ∧ b3 = false) ∨ (b1 = true ∧ b2 = true ∧ b3 = true ∧ b4 = false) ∨ (b1 = true ∧ b2 = true ∧ b3 = true ∧ b4 = true) by cases b1 <;> cases b2 <;> cases b3 <;> cases b4 <;> simp) with rfl | ⟨rfl, rfl⟩ | ⟨rfl, rfl, rfl⟩ | ⟨rfl, rfl, rfl, rfl⟩ | ⟨rfl, rfl, rfl, rfl⟩
      · have HT : Hid (rightB v letters = false) := by show _ = _; rw [HR.out]; simp
        clear HR HCF
        go_wp2_with fail
        go_ret
        rw [HT.out]
        exact ⟨rfl, HB9.out⟩
      · have HT : Hid (rightB v letters = false) := by show _ = _; rw [HR.out]; simp
        clear HR HCF
        go_wp2_with fail
        go_ret
        rw [HT.out]
        exact ⟨rfl, HB9.out⟩
      · have HT : Hid (rightB v letters = false) := by show _ = _; rw [HR.out]; simp
        clear HR HCF
        go_wp2_with fail
        go_ret
        rw [HT.out]
        exact ⟨rfl, HB9.out⟩
      · have HT : Hid (rightB v letters = false) := by show _ = _; rw [HR.out]; simp
        clear HR HCF
        go_wp2_with fail
        go_ret
        rw [HT.out]
        exact ⟨rfl, HB9.out⟩
      · have HT : Hid (rightB v letters = !b5) := by show _ = _; rw [HR.out]; simp
        clear HR
        go_wp2_with fail
        refine HCF.out.mono ?_
        rintro e w10 ⟨rfl, hd⟩
        have HB10 := Lib.hid (HB9.out.trans (hd.below _))
        clear hd HCF HB9
        go_wp2_with fail
        go_ret
        rw [HT.out]
        exact ⟨rfl, HB10.out⟩
    | true =>
      have c6 : w6.cell? ⟨W.heap.size, 6, none⟩ = some (.string (S v.group)) := HX5.out 6 _ (by have := HCS.out; subst this; rfl)
      have HGR := Lib.hid (fun w => NameW.group_any v.group HOK.out.group w)
      go_wp2_with fail
      refine (HGR.out _).mono ?_
      rintro e w9 ⟨rfl, hb⟩
      have HB9 := Lib.hid (HB5.out.trans (hb.mono HB5.out.size))
      have HX9 := Lib.hid (HX5.out.below hb)
      clear hb HGR HB5 HX5 HL5 c6
      generalize groupL v.group = tg at *
      cases tg with
      | false =>
        have HT : Hid (rightB v letters = false) := by show _ = _; rw [HR.out]; simp
        clear HR
        go_wp2_with fail
        go_ret
        rw [HT.out]
        exact ⟨rfl, HB9.out⟩
      | true =>
        have c8 : w9.cell? ⟨W.heap.size, 8, none⟩ = some (.string (S v.key)) := HX9.out 8 _ (by have := HCS.out; subst this; rfl)
        have c9 : w9.cell? ⟨W.heap.size, 9, none⟩ = some (.string (S v.body)) := HX9.out 9 _ (by have := HCS.out; subst this; rfl)
        have c10 : w9.cell? ⟨W.heap.size, 10, none⟩ = some (.slice s.ka v.keys.length s.kc) := HX9.out 10 _ (by have := HCS.out; subst this; rfl)
        have c12 : w9.cell? ⟨W.heap.size, 12, none⟩ = some (.slice s.pa v.keep.length s.pc) := HX9.out 12 _ (by have := HCS.out; subst this; rfl)
        have z8 := S_size v.key
        have z9 := S_size v.body
        have d1 : decide ((v.body.length : Int) ≤ 300) = decide (v.body.length ≤ 300) := decide_eq_decide.2 (by omega)
        have d2 : decide ((v.key.length : Int) ≤ 300) = decide (v.key.length ≤ 300) := decide_eq_decide.2 (by omega)
        have d3 : decide ((v.keys.length : Int) ≤ 10) = decide (v.keys.length ≤ 10) := decide_eq_decide.2 (by omega)
        have d4 : decide ((v.keep.length : Int) ≤ 100) = decide (v.keep.length ≤ 100) := decide_eq_decide.2 (by omega)
        have HCF := Lib.hid (ContW.contains_str 40 (enters_of Tryz.func40 (by kernel_rfl) rfl) badK s.ka s.kc v.keys HOK.out.keys (fun x hx w => badk_any x (HOK.out.keysz x hx) w) w9 (row_strs (HIN.out.below HB9.out).keys))
        generalize decide (v.body.length ≤ 300) = b1 at *
        generalize decide (v.key.length ≤ 300) = b2 at *
        generalize decide (v.keys.length ≤ 10) = b3 at *
        generalize decide (v.keep.length ≤ 100) = b4 at *
        generalize v.keys.any badK = b5 at *
        rcases (show b1 = false ∨ (b1 = true ∧ b2 = false) ∨ (b1 = true ∧ b2 = true ∧ b3 = false) ∨ (b1 = true ∧ b2 = true ∧ b3 = true ∧ b4 = false) ∨ (b1 = true ∧ b2 = true ∧ b3 = true ∧ b4 = true) by cases b1 <;> cases b2 <;> cases b3 <;> cases b4 <;> simp) with rfl | ⟨rfl, rfl⟩ | ⟨rfl, rfl, rfl⟩ | ⟨rfl, rfl, rfl, rfl⟩ | ⟨rfl, rfl, rfl, rfl⟩
        · have HT : Hid (rightB v letters = false) := by show _ = _; rw [HR.out]; simp
          clear HR HCF
          go_wp2_with fail
          go_ret
          rw [HT.out]
          exact ⟨rfl, HB9.out⟩
        · have HT : Hid (rightB v letters = false) := by show _ = _; rw [HR.out]; simp
          clear HR HCF
          go_wp2_with fail
          go_ret
          rw [HT.out]
          exact ⟨rfl, HB9.out⟩
        · have HT : Hid (rightB v letters = false) := by show _ = _; rw [HR.out]; simp
          clear HR HCF
          go_wp2_with fail
          go_ret
          rw [HT.out]
          exact ⟨rfl, HB9.out⟩
        · have HT : Hid (rightB v letters = false) := by show _ = _; rw [HR.out]; simp
          clear HR HCF
          go_wp2_with fail
          go_ret
          rw [HT.out]
          exact ⟨rfl, HB9.out⟩
        · have HT : Hid (rightB v letters = !b5) := by show _ = _; rw [HR.out]; simp
          clear HR
          go_wp2_with fail
          refine HCF.out.mono ?_
          rintro e w10 ⟨rfl, hd⟩
          have HB10 := Lib.hid (HB9.out.trans (hd.below _))
          clear hd HCF HB9
          go_wp2_with fail
          go_ret
          rw [HT.out]
          exact ⟨rfl, HB10.out⟩
  | true =>
    have c5 : w4.cell? ⟨W.heap.size, 5, none⟩ = some (.string (S v.topic)) := HX3.out 5 _ (by have := HCS.out; subst this; rfl)
    have HTP := Lib.hid (fun w => NameW.topic_any v.topic HOK.out.topic w)
    go_wp2_with fail
    refine (HTP.out _).mono ?_
    rintro e w5 ⟨rfl, hb⟩
    have HB5 := Lib.hid (HB3.out.trans (hb.mono HB3.out.size))
    have HX5 := Lib.hid (HX3.out.below hb)
    have HL5 := Lib.hid (HL3.out.below hb)
    clear hb HTP HB3 HX3 HL3 c5
    generalize topicL v.topic = tt at *
    cases tt with
    | false =>
      have HT : Hid (rightB v letters = false) := by show _ = _; rw [HR.out]; simp
      clear HR
      go_wp2_with fail
      go_ret
      rw [HT.out]
      exact ⟨rfl, HB5.out⟩
    | true =>
      have cL2 : w5.cell? ⟨W.heap.size + 1, 0, none⟩ = some (.string (S letters)) := HL5.out 0 _ rfl
      have HHG := Lib.hid (fun w h => has_letter letters 71 (W.heap.size + 1) w h)
      go_wp2_with fail
      refine (HHG.out _ cL2).mono ?_
      rintro e w6 ⟨rfl, rfl⟩
      clear HHG cL2
      generalize hasB letters 71 = hg at *
      cases hg with
      | false =>
        obtain ⟨w9, rfl⟩ : ∃ w9 : World, w9 = w6 := ⟨_, rfl⟩
        have HB9 := HB5
        have HX9 := HX5
        clear HB5 HX5 HL5
        have c8 : w9.cell? ⟨W.heap.size, 8, none⟩ = some (.string (S v.key)) := HX9.out 8 _ (by have := HCS.out; subst this; rfl)
        have c9 : w9.cell? ⟨W.heap.size, 9, none⟩ = some (.string (S v.body)) := HX9.out 9 _ (by have := HCS.out; subst this; rfl)
        have c10 : w9.cell? ⟨W.heap.size, 10, none⟩ = some (.slice s.ka v.keys.length s.kc) := HX9.out 10 _ (by have := HCS.out; subst this; rfl)
        have c12 : w9.cell? ⟨W.heap.size, 12, none⟩ = some (.slice s.pa v.keep.length s.pc) := HX9.out 12 _ (by have := HCS.out; subst this; rfl)
        have z8 := S_size v.key
        have z9 := S_size v.body
        have d1 : decide ((v.body.length : Int) ≤ 300) = decide (v.body.length ≤ 300) := decide_eq_decide.2 (by omega)
        have d2 : decide ((v.key.length : Int) ≤ 300) = decide (v.key.length ≤ 300) := decide_eq_decide.2 (by omega)
        have d3 : decide ((v.keys.length : Int) ≤ 10) = decide (v.keys.length ≤ 10) := decide_eq_decide.2 (by omega)
        have d4 : decide ((v.keep.length : Int) ≤ 100) = decide (v.keep.length ≤ 100) := decide_eq_decide.2 (by omega)
        have HCF := Lib.hid (ContW.contains_str 40 (enters_of Tryz.func40 (by kernel_rfl) rfl) badK s.ka s.kc v.keys HOK.out.keys (fun x hx w => badk_any x (HOK.out.keysz x hx) w) w9 (row_strs (HIN.out.below HB9.out).keys))
        generalize decide (v.body.length ≤ 300) = b1 at *
        generalize decide (v.key.length ≤ 300) = b2 at *
        generalize decide (v.keys.length ≤ 10) = b3 at *
        generalize decide (v.keep.length ≤ 100) = b4 at *
        generalize v.keys.any badK = b5 at *
        rcases (show b1 = false ∨ (b1 = true ∧ b2 = false) ∨ (b1 = true ∧ b2 = true ∧ b3 = false) ∨ (b1 = true ∧ b2 = true ∧ b3 = true ∧ b4 = false) ∨ (b1 = true ∧ b2 = true ∧ b3 = true ∧ b4 = true) by cases b1 <;> cases b2 <;> cases b3 <;> cases b4 <;> simp) with rfl | ⟨rfl, rfl⟩ | ⟨rfl, rfl, rfl⟩ | ⟨rfl, rfl, rfl, rfl⟩ | ⟨rfl, rfl, rfl, rfl⟩
        · have HT : Hid (rightB v letters = false) := by show _ = _; rw [HR.out]; simp
          clear HR HCF
          go_wp2_with fail
          go_ret
          rw [HT.out]
          exact ⟨rfl, HB9.out⟩
        · have HT : Hid (rightB v letters = false) := by show _ = _; rw [HR.out]; simp
          clear HR HCF
          go_wp2_with fail
          go_ret
          rw [HT.out]
          exact ⟨rfl, HB9.out⟩
        · have HT : Hid (rightB v letters = false) := by show _ = _; rw [HR.out]; simp
          clear HR HCF
          go_wp2_with fail
          go_ret
          rw [HT.out]
          exact ⟨rfl, HB9.out⟩
        · have HT : Hid (rightB v letters = false) := by show _ = _; rw [HR.out]; simp
          clear HR HCF
          go_wp2_with fail
          go_ret
          rw [HT.out]
          exact ⟨rfl, HB9.out⟩
        · have HT : Hid (rightB v letters = !b5) := by show _ = _; rw [HR.out]; simp
          clear HR
          go_wp2_with fail
          refine HCF.out.mono ?_
          rintro e w10 ⟨rfl, hd⟩
          have HB10 := Lib.hid (HB9.out.trans (hd.below _))
          clear hd HCF HB9
          go_wp2_with fail
          go_ret
          rw [HT.out]
          exact ⟨rfl, HB10.out⟩
      | true =>
        have c6 : w6.cell? ⟨W.heap.size, 6, none⟩ = some (.string (S v.group)) := HX5.out 6 _ (by have := HCS.out; subst this; rfl)
        have HGR := Lib.hid (fun w => NameW.group_any v.group HOK.out.group w)
        go_wp2_with fail
        refine (HGR.out _).mono ?_
        rintro e w9 ⟨rfl, hb⟩
        have HB9 := Lib.hid (HB5.out.trans (hb.mono HB5.out.size))
        have HX9 := Lib.hid (HX5.out.below hb)
        clear hb HGR HB5 HX5 HL5 c6
        generalize groupL v.group = tg at *
        cases tg with
        | false =>
          have HT : Hid (rightB v letters = false) := by show _ = _; rw [HR.out]; simp
          clear HR
          go_wp2_with fail
          go_ret
          rw [HT.out]
          exact ⟨rfl, HB9.out⟩
        | true =>
          have c8 : w9.cell? ⟨W.heap.size, 8, none⟩ = some (.string (S v.key)) := HX9.out 8 _ (by have := HCS.out; subst this; rfl)
          have c9 : w9.cell? ⟨W.heap.size, 9, none⟩ = some (.string (S v.body)) := HX9.out 9 _ (by have := HCS.out; subst this; rfl)
          have c10 : w9.cell? ⟨W.heap.size, 10, none⟩ = some (.slice s.ka v.keys.length s.kc) := HX9.out 10 _ (by have := HCS.out; subst this; rfl)
          have c12 : w9.cell? ⟨W.heap.size, 12, none⟩ = some (.slice s.pa v.keep.length s.pc) := HX9.out 12 _ (by have := HCS.out; subst this; rfl)
          have z8 := S_size v.key
          have z9 := S_size v.body
          have d1 : decide ((v.body.length : Int) ≤ 300) = decide (v.body.length ≤ 300) := decide_eq_decide.2 (by omega)
          have d2 : decide ((v.key.length : Int) ≤ 300) = decide (v.key.length ≤ 300) := decide_eq_decide.2 (by omega)
          have d3 : decide ((v.keys.length : Int) ≤ 10) = decide (v.keys.length ≤ 10) := decide_eq_decide.2 (by omega)
          have d4 : decide ((v.keep.length : Int) ≤ 100) = decide (v.keep.length ≤ 100) := decide_eq_decide.2 (by omega)
          have HCF := Lib.hid (ContW.contains_str 40 (enters_of Tryz.func40 (by kernel_rfl) rfl) badK s.ka s.kc v.keys HOK.out.keys (fun x hx w => badk_any x (HOK.out.keysz x hx) w) w9 (row_strs (HIN.out.below HB9.out).keys))
          generalize decide (v.body.length ≤ 300) = b1 at *
          generalize decide (v.key.length ≤ 300) = b2 at *
          generalize decide (v.keys.length ≤ 10) = b3 at *
          generalize decide (v.keep.length ≤ 100) = b4 at *
          generalize v.keys.any badK = b5 at *
          rcases (show b1 = false ∨ (b1 = true ∧ b2 = false) ∨ (b1 = true ∧ b2 = true ∧ b3 = false) ∨ (b1 = true ∧ b2 = true ∧ b3 = true ∧ b4 = false) ∨ (b1 = true ∧ b2 = true ∧ b3 = true ∧ b4 = true) by cases b1 <;> cases b2 <;> cases b3 <;> cases b4 <;> simp) with rfl | ⟨rfl, rfl⟩ | ⟨rfl, rfl, rfl⟩ | ⟨rfl, rfl, rfl, rfl⟩ | ⟨rfl, rfl, rfl, rfl⟩
          · have HT : Hid (rightB v letters = false) := by show _ = _; rw [HR.out]; simp
            clear HR HCF
            go_wp2_with fail
            go_ret
            rw [HT.out]
            exact ⟨rfl, HB9.out⟩
          · have HT : Hid (rightB v letters = false) := by show _ = _; rw [HR.out]; simp
            clear HR HCF
            go_wp2_with fail
            go_ret
            rw [HT.out]
            exact ⟨rfl, HB9.out⟩
          · have HT : Hid (rightB v letters = false) := by show _ = _; rw [HR.out]; simp
            clear HR HCF
            go_wp2_with fail
            go_ret
            rw [HT.out]
            exact ⟨rfl, HB9.out⟩
          · have HT : Hid (rightB v letters = false) := by show _ = _; rw [HR.out]; simp
            clear HR HCF
            go_wp2_with fail
            go_ret
            rw [HT.out]
            exact ⟨rfl, HB9.out⟩
          · have HT : Hid (rightB v letters = !b5) := by show _ = _; rw [HR.out]; simp
            clear HR
            go_wp2_with fail
            refine HCF.out.mono ?_
            rintro e w10 ⟨rfl, hd⟩
            have HB10 := Lib.hid (HB9.out.trans (hd.below _))
            clear hd HCF HB9
            go_wp2_with fail
            go_ret
            rw [HT.out]
            exact ⟨rfl, HB10.out⟩
end Go.Proofs.YtadhkeboaapfcaaGreatDoor.EvW
