/- lines.num, plain, and the small closures of right; verbs. -/
import Derived.Test.YtadhkeboaapfcaaGreatDoorSeqM
import Derived.Shelf.GgClosure.StringsIndexFunc
namespace Go.Proofs.YtadhkeboaapfcaaGreatDoor.EvW
open Go.RowKit OctMath NameMath
set_option linter.unusedVariables false
set_option linter.unusedSimpArgs false

def badN (x : Int) : Bool := decide (x < -1099511627776) || decide (1099511627776 < x)
set_option maxHeartbeats 1600000 in
theorem badn_any (x : Int) (w : World) : Calls Tryz.prog 71 #[.int .i64 x] w fun e w' => e = .returned (.bool (badN x)) ∧ w' = w := by
  have HR : Hid (badN x = (decide (x < -1099511627776) || decide (1099511627776 < x))) := rfl
  by_cases h1 : x < -1099511627776
  · have d1 : decide (x < -1099511627776) = true := decide_eq_true h1
    go_enter Tryz.func71, Tryz.ntmps71
    go_wp2_with fail
    go_ret
    rw [HR.out, d1]
    exact ⟨rfl, rfl⟩
  · have d1 : decide (x < -1099511627776) = false := decide_eq_false h1
    go_enter Tryz.func71, Tryz.ntmps71
    go_wp2_with fail
    go_ret
    rw [HR.out, d1]
    exact ⟨rfl, rfl⟩
set_option maxHeartbeats 1600000 in
theorem num_any (a : Option Addr) (cap : Nat) (xs : List Int) (hx : xs.length ≤ 1048576) (W : World) (h : Row1 W a (xs.map fun x => .int .i64 x)) :
    Calls Tryz.prog 42 #[.slice a xs.length cap] W fun e w' => e = .returned (.bool (!xs.any badN)) ∧ Drawn W w' := by
  have hC := ContW.contains_int 71 (enters_of Tryz.func71 (by kernel_rfl) rfl) badN a cap xs hx (fun x _ w => badn_any x w) W h
  clear h
  generalize xs.any badN = b at *
  go_enter Tryz.func42, Tryz.ntmps42
  go_wp2_with fail
  refine hC.mono ?_
  rintro e w2 ⟨rfl, hd⟩
  go_wp2_with fail
  go_ret
  exact ⟨rfl, hd⟩
set_option maxHeartbeats 1600000 in
theorem plain_word (l : List UInt8) (w : World) : Calls Tryz.prog 47 #[.string (S l)] w fun e w' => e = .returned (.string (S (if l.isEmpty then [46] else l))) ∧ w' = w := by
  have htl := NameW.S_toList l
  generalize he : l.isEmpty = e
  cases e <;>
  (go_enter Tryz.func47, Tryz.ntmps47
   go_wp2_with fail
   go_ret
   exact ⟨rfl, rfl⟩)
/-- a bad key -/
def badK (l : List UInt8) : Bool := l.isEmpty || decide (300 < l.length)
set_option maxHeartbeats 1600000 in
theorem badk_any (l : List UInt8) (hl : l.length ≤ 1099511627776) (w : World) : Calls Tryz.prog 40 #[.string (S l)] w fun e w' => e = .returned (.bool (badK l)) ∧ w' = w := by
  have htl := NameW.S_toList l
  have hsz := S_size l
  have HR : Hid (badK l = (l.isEmpty || decide (300 < l.length))) := rfl
  have d3 : decide (300 < (l.length : Int)) = decide (300 < l.length) := decide_eq_decide.2 (by omega)
  generalize decide (300 < l.length) = b3 at *
  generalize he : l.isEmpty = e at *
  cases e <;>
  (go_enter Tryz.func40, Tryz.ntmps40
   go_wp2_with fail
   go_ret
   rw [HR.out]
   exact ⟨rfl, rfl⟩)
end Go.Proofs.YtadhkeboaapfcaaGreatDoor.EvW
namespace Go.Proofs.YtadhkeboaapfcaaGreatDoor.EvW
open Go.RowKit OctMath NameMath
set_option linter.unusedVariables false
set_option linter.unusedSimpArgs false

structure Ev where
  kind : Int
  queue : Int
  n : Int
  aat : Int
  lack : Int
  topic : List UInt8
  group : List UInt8
  tag : List UInt8
  key : List UInt8
  body : List UInt8
  keys : List (List UInt8)
  tags : List (List UInt8)
  keep : List Bool
  sync : Bool
/-- where an event's slices lie -/
structure EvS where
  ka : Option Addr
  kc : Nat
  ta : Option Addr
  tc : Nat
  pa : Option Addr
  pc : Nat
def Ev.cells (v : Ev) (s : EvS) : Array Value := #[.int .i64 v.kind, .int .i64 v.queue, .int .i64 v.n, .int .i64 v.aat, .int .i64 v.lack, .string (S v.topic), .string (S v.group), .string (S v.tag), .string (S v.key), .string (S v.body), .slice s.ka v.keys.length s.kc, .slice s.ta v.tags.length s.tc, .slice s.pa v.keep.length s.pc, .bool v.sync]
structure EvIn (w : World) (v : Ev) (s : EvS) : Prop where
  keys : Strs w s.ka (v.keys.map S)
  tags : Strs w s.ta (v.tags.map S)
  keep : Row1 w s.pa (v.keep.map .bool)
/-- no greater than any that is played -/
structure EvOk (v : Ev) : Prop where
  topic : v.topic.length ≤ 1099511627776
  group : v.group.length ≤ 1099511627776
  tag : v.tag.length ≤ 1099511627776
  key : v.key.length ≤ 1099511627776
  body : v.body.length ≤ 1099511627776
  keys : v.keys.length ≤ 1048576
  tags : v.tags.length ≤ 1048576
  keep : v.keep.length ≤ 1048576
  keysz : ∀ t ∈ v.keys, t.length ≤ 1099511627776
  tagsz : ∀ t ∈ v.tags, t.length ≤ 1099511627776
theorem EvIn.below {W w : World} {v : Ev} {s : EvS} (h : EvIn W v s) (hb : Below W.heap.size W w) : EvIn w v s := ⟨h.keys.below hb, h.tags.below hb, h.keep.below hb⟩
/-- a row of cells in a block -/
def Boxed (w : World) (B : Nat) (cs : Array Value) : Prop := ∀ (k : Nat) (v : Value), cs[k]? = some v → w.cell? ⟨B, k, none⟩ = some v
theorem Boxed.below {W w : World} {B : Nat} {cs : Array Value} (h : Boxed W B cs) (hb : Below W.heap.size W w) : Boxed w B cs := fun k v e => by
  have hc := h k v e
  rw [hb.cell (cell_lt hc)]; exact hc
theorem Boxed.new (w : World) (cs : Array Value) (e : TypeId) : Boxed (w.alloc (.cells cs e)) w.heap.size cs := fun k v h => by rw [World.cell?_alloc_new]; exact h

theorem row_strs {w : World} {a : Option Addr} {ts : List (List UInt8)} (h : Strs w a (ts.map S)) : Row1 w a (ts.map fun x => .string (S x)) := by
  have := Row1.of_strs h
  rw [List.map_map] at this; exact this
def hasB (letters : List UInt8) (c : UInt8) : Bool := decide (0 ≤ Lib.indexByte letters c)
def rightB (v : Ev) (letters : List UInt8) : Bool :=
  !([v.queue, v.n, v.aat, v.lack].any badN) && (v.tag.isEmpty || plainL v.tag) && decide (TagW.newE v.tags = 0) && (!hasB letters 84 || topicL v.topic) && (!hasB letters 71 || groupL v.group)
    && decide (v.body.length ≤ 300) && decide (v.key.length ≤ 300) && decide (v.keys.length ≤ 10) && decide (v.keep.length ≤ 100) && !v.keys.any badK

set_option maxHeartbeats 1600000 in
theorem has_letter (letters : List UInt8) (c : UInt8) (B : Nat) (w : World) (h : w.cell? ⟨B, 0, none⟩ = some (.string (S letters))) :
    Calls Tryz.prog 38 #[.string ⟨#[c]⟩, .pointer (some ⟨B, 0, none⟩)] w fun e w' => e = .returned (.bool (hasB letters c)) ∧ w' = w := by
  have hC := fun w => Tryz.strings_Contains_one (S letters) c w
  rw [S_list] at hC
  go_enter Tryz.func38, Tryz.ntmps38
  go_wp2_with fail
  refine (hC _).mono ?_
  rintro e w2 ⟨rfl, rfl⟩
  go_wp2_with fail
  go_ret
  exact ⟨rfl, rfl⟩

set_option maxRecDepth 100000 in
set_option maxHeartbeats 3200000 in
theorem right_any (v : Ev) (s : EvS) (letters : List UInt8) (hok : EvOk v) (W : World) (hin : EvIn W v s) :
    Calls Tryz.prog 20 #[.agg (v.cells s), .string (S letters)] W fun e w' => e = .returned (.bool (rightB v letters)) ∧ Below W.heap.size W w' := by
  have HIN := Lib.hid hin
  have HOK := Lib.hid hok
  clear hin hok
  obtain ⟨cs, hcs⟩ : ∃ cs, v.cells s = cs := ⟨_, rfl⟩
  have HCS := Lib.hid hcs
  rw [hcs]
  have hc0 : cs.size = 14 := by rw [← hcs]; rfl
  clear hcs
  go_enter Tryz.func20, Tryz.ntmps20
  have HR : Hid (rightB v letters = (!([v.queue, v.n, v.aat, v.lack].any badN) && (v.tag.isEmpty || plainL v.tag) && decide (TagW.newE v.tags = 0) && (!hasB letters 84 || topicL v.topic) && (!hasB letters 71 || groupL v.group)
    && decide (v.body.length ≤ 300) && decide (v.key.length ≤ 300) && decide (v.keys.length ≤ 10) && decide (v.keep.length ≤ 100) && !v.keys.any badK)) := rfl
  have HB0 : Hid (Below W.heap.size W ((W.alloc (.cells cs 25)).alloc (.cells #[.string (S letters)] 9))) := ((Below.refl _ W).alloc (Nat.le_refl _) _).alloc (by simp) _
  have HX0 : Hid (Boxed ((W.alloc (.cells cs 25)).alloc (.cells #[.string (S letters)] 9)) W.heap.size cs) := (Boxed.new W cs _).below ((Below.refl _ _).alloc (Nat.le_refl _) _)
  have HL0 : Hid (Boxed ((W.alloc (.cells cs 25)).alloc (.cells #[.string (S letters)] 9)) (W.heap.size + 1) #[.string (S letters)]) := by
    have := Boxed.new (W.alloc (.cells cs 25)) #[.string (S letters)] 9
    rw [World.size_alloc] at this; exact this
  have e11 : cs[11] = .slice s.ta v.tags.length s.tc := by have := HCS.out; subst this; rfl
  have HN := Lib.hid (TagW.new_any s.ta s.tc v.tags HOK.out.tags HOK.out.tagsz _ ((HIN.out.below HB0.out).tags))
  go_wp2_with fail
  refine HN.out.mono ?_
  rintro e w1 ⟨p, rfl, hb, _⟩
  have HB1 := Lib.hid (HB0.out.trans (hb.mono HB0.out.size))
  have HX1 := Lib.hid (HX0.out.below hb)
  have HL1 := Lib.hid (HL0.out.below hb)
  clear hb HN HB0 HX0 HL0 e11
  have c1 : w1.cell? ⟨W.heap.size, 1, none⟩ = some (.int .i64 v.queue) := HX1.out 1 _ (by have := HCS.out; subst this; rfl)
  have c2 : w1.cell? ⟨W.heap.size, 2, none⟩ = some (.int .i64 v.n) := HX1.out 2 _ (by have := HCS.out; subst this; rfl)
  have c3 : w1.cell? ⟨W.heap.size, 3, none⟩ = some (.int .i64 v.aat) := HX1.out 3 _ (by have := HCS.out; subst this; rfl)
  have c4 : w1.cell? ⟨W.heap.size, 4, none⟩ = some (.int .i64 v.lack) := HX1.out 4 _ (by have := HCS.out; subst this; rfl)
  have HNUM := fun w h => num_any (some ⟨w1.heap.size, 0, none⟩) 4 [v.queue, v.n, v.aat, v.lack] (by simp) w h
  go_wp2_with fail
  refine (HNUM _ ?nrow).mono ?_
  case nrow => exact fun i hi => ⟨_, 0, rfl, by rw [World.cell?_alloc_new]; match i, hi with | 0, _ => rfl | 1, _ => rfl | 2, _ => rfl | 3, _ => rfl⟩
  rintro e w2 ⟨rfl, hd⟩
  have hb : Below w1.heap.size w1 w2 := ((Below.refl _ w1).alloc (Nat.le_refl _) _).trans (hd.below _)
  have HB2 := Lib.hid (HB1.out.trans (hb.mono HB1.out.size))
  have HX2 := Lib.hid (HX1.out.below hb)
  have HL2 := Lib.hid (HL1.out.below hb)
  clear hb hd HNUM HB1 HX1 HL1 c1 c2 c3 c4
  generalize [v.queue, v.n, v.aat, v.lack].any badN = nb at *
  cases nb with
  | true =>
    have HT : Hid (rightB v letters = false) := HR.out
    clear HR
    go_wp2_with fail
    go_ret
    rw [HT.out]
    exact ⟨rfl, HB2.out⟩
  | false =>
  have c7 : w2.cell? ⟨W.heap.size, 7, none⟩ = some (.string (S v.tag)) := HX2.out 7 _ (by have := HCS.out; subst this; rfl)
  have HTG := Lib.hid (fun w => NameW.tag_any v.tag HOK.out.tag w)
  go_wp2_with fail
  refine (HTG.out _).mono ?_
  rintro e w3 ⟨rfl, hb⟩
  have HB3 := Lib.hid (HB2.out.trans (hb.mono HB2.out.size))
  have HX3 := Lib.hid (HX2.out.below hb)
  have HL3 := Lib.hid (HL2.out.below hb)
  clear hb HTG HB2 HX2 HL2 c7
  generalize (v.tag.isEmpty || plainL v.tag) = tb at *
  cases tb with
  | false =>
    have HT : Hid (rightB v letters = false) := HR.out
    clear HR
    go_wp2_with fail
    go_ret
    rw [HT.out]
    exact ⟨rfl, HB3.out⟩
  | true =>
  by_cases he : TagW.newE v.tags = 0
  case neg =>
    have hb0 : (TagW.newE v.tags != 0) = true := bne_iff_ne.2 he
    have HT : Hid (rightB v letters = false) := by show _ = _; rw [HR.out, decide_eq_false he]; rfl
    clear HR he
    go_wp2_with fail
    go_ret
    rw [HT.out]
    exact ⟨rfl, HB3.out⟩
  have hb0 : (TagW.newE v.tags != 0) = false := bne_eq_false_iff_eq.2 he
  rw [decide_eq_true he] at HR
  have cL : w3.cell? ⟨W.heap.size + 1, 0, none⟩ = some (.string (S letters)) := HL3.out 0 _ rfl
  have HHT := Lib.hid (fun w h => has_letter letters 84 (W.heap.size + 1) w h)
  clear he
  go_wp2_with fail
  refine (HHT.out _ cL).mono ?_
  rintro e w4 ⟨rfl, rfl⟩
  clear HHT cL
  generalize hasB letters 84 = ht at *
  cases ht with
  | false =>
    obtain ⟨w5, rfl⟩ : ∃ w5 : World, w5 = w4 := ⟨_, rfl⟩
    have HB5 := HB3
    have HX5 := HX3
    have HL5 := HL3
    clear HB3 HX3 HL3
    have cL2 : w5.cell? ⟨W.heap.size + 1, 0, none⟩ = some (.string (S letters)) := HL5.out 0 _ rfl
    have HHG := Lib.hid (fun w h => has_letter letters 71 (W.heap.size + 1) w h)
    go_wp2_with fail
    refine (HHG.out _ cL2).mono ?_
    rintro e w6 ⟨rfl, rfl⟩
    clear HHG cL2
    generalize hasB letters 71 = hg at *
    cases hg with
    | false =>
      obtain ⟨w9, rfl⟩ : ∃ w9 : World, w9 = w6 := ⟨_, rfl⟩
      have HB9 := HB5
      have HX9 := HX5
      clear HB5 HX5 HL5
      have c8 : w9.cell? ⟨W.heap.size, 8, none⟩ = some (.string (S v.key)) := HX9.out 8 _ (by have := HCS.out; subst this; rfl)
      have c9 : w9.cell? ⟨W.heap.size, 9, none⟩ = some (.string (S v.body)) := HX9.out 9 _ (by have := HCS.out; subst this; rfl)
      have c10 : w9.cell? ⟨W.heap.size, 10, none⟩ = some (.slice s.ka v.keys.length s.kc) := HX9.out 10 _ (by have := HCS.out; subst this; rfl)
      have c12 : w9.cell? ⟨W.heap.size, 12, none⟩ = some (.slice s.pa v.keep.length s.pc) := HX9.out 12 _ (by have := HCS.out; subst this; rfl)
      have z8 := S_size v.key
      have z9 := S_size v.body
      have d1 : decide ((v.body.length : Int) ≤ 300) = decide (v.body.length ≤ 300) := decide_eq_decide.2 (by omega)
      have d2 : decide ((v.key.length : Int) ≤ 300) = decide (v.key.length ≤ 300) := decide_eq_decide.2 (by omega)
      have d3 : decide ((v.keys.length : Int) ≤ 10) = decide (v.keys.length ≤ 10) := decide_eq_decide.2 (by omega)
      have d4 : decide ((v.keep.length : Int) ≤ 100) = decide (v.keep.length ≤ 100) := decide_eq_decide.2 (by omega)
      have HCF := Lib.hid (ContW.contains_str 40 (enters_of Tryz.func40 (by kernel_rfl) rfl) badK s.ka s.kc v.keys HOK.out.keys (fun x hx w => badk_any x (HOK.out.keysz x hx) w) w9 (row_strs (HIN.out.below HB9.out).keys))
      generalize decide (v.body.length ≤ 300) = b1 at *
      generalize decide (v.key.length ≤ 300) = b2 at *
      generalize decide (v.keys.length ≤ 10) = b3 at *
      generalize decide (v.keep.length ≤ 100) = b4 at *
      generalize v.keys.any badK = b5 at *
      rcases (show b1 = false ∨ (b1 = true ∧ b2 = false) ∨ (b1 = true ∧ b2 = true ∧ b3 = false) ∨ (b1 = true ∧ b2 = true ∧ b3 = true ∧ b4 = false) ∨ (b1 = true ∧ b2 = true ∧ b3 = true ∧ b4 = true) by cases b1 <;> cases b2 <;> cases b3 <;> cases b4 <;> simp) with rfl | ⟨rfl, rfl⟩ | ⟨rfl, rfl, rfl⟩ | ⟨rfl, rfl, rfl, rfl⟩ | ⟨rfl, rfl, rfl, rfl⟩
      · have HT : Hid (rightB v letters = false) := by show _ = _; rw [HR.out]; simp
        clear HR HCF
        go_wp2_with fail
        go_ret
        rw [HT.out]
        exact ⟨rfl, HB9.out⟩
      · have HT : Hid (rightB v letters = false) := by show _ = _; rw [HR.out]; simp
        clear HR HCF
        go_wp2_with fail
        go_ret
        rw [HT.out]
        exact ⟨rfl, HB9.out⟩
      · have HT : Hid (rightB v letters = false) := by show _ = _; rw [HR.out]; simp
        clear HR HCF
        go_wp2_with fail
        go_ret
        rw [HT.out]
        exact ⟨rfl, HB9.out⟩
      · have HT : Hid (rightB v letters = false) := by show _ = _; rw [HR.out]; simp
        clear HR HCF
        go_wp2_with fail
        go_ret
        rw [HT.out]
        exact ⟨rfl, HB9.out⟩
      · have HT : Hid (rightB v letters = !b5) := by show _ = _; rw [HR.out]; simp
        clear HR
        go_wp2_with fail
        refine HCF.out.mono ?_
        rintro e w10 ⟨rfl, hd⟩
        have HB10 := Lib.hid (HB9.out.trans (hd.below _))
        clear hd HCF HB9
        go_wp2_with fail
        go_ret
        rw [HT.out]
        exact ⟨rfl, HB10.out⟩
    | true =>
      have c6 : w6.cell? ⟨W.heap.size, 6, none⟩ = some (.string (S v.group)) := HX5.out 6 _ (by have := HCS.out; subst this; rfl)
      have HGR := Lib.hid (fun w => NameW.group_any v.group HOK.out.group w)
      go_wp2_with fail
      refine (HGR.out _).mono ?_
      rintro e w9 ⟨rfl, hb⟩
      have HB9 := Lib.hid (HB5.out.trans (hb.mono HB5.out.size))
      have HX9 := Lib.hid (HX5.out.below hb)
      clear hb HGR HB5 HX5 HL5 c6
      generalize groupL v.group = tg at *
      cases tg with
      | false =>
        have HT : Hid (rightB v letters = false) := by show _ = _; rw [HR.out]; simp
        clear HR
        go_wp2_with fail
        go_ret
        rw [HT.out]
        exact ⟨rfl, HB9.out⟩
      | true =>
        have c8 : w9.cell? ⟨W.heap.size, 8, none⟩ = some (.string (S v.key)) := HX9.out 8 _ (by have := HCS.out; subst this; rfl)
        have c9 : w9.cell? ⟨W.heap.size, 9, none⟩ = some (.string (S v.body)) := HX9.out 9 _ (by have := HCS.out; subst this; rfl)
        have c10 : w9.cell? ⟨W.heap.size, 10, none⟩ = some (.slice s.ka v.keys.length s.kc) := HX9.out 10 _ (by have := HCS.out; subst this; rfl)
        have c12 : w9.cell? ⟨W.heap.size, 12, none⟩ = some (.slice s.pa v.keep.length s.pc) := HX9.out 12 _ (by have := HCS.out; subst this; rfl)
        have z8 := S_size v.key
        have z9 := S_size v.body
        have d1 : decide ((v.body.length : Int) ≤ 300) = decide (v.body.length ≤ 300) := decide_eq_decide.2 (by omega)
        have d2 : decide ((v.key.length : Int) ≤ 300) = decide (v.key.length ≤ 300) := decide_eq_decide.2 (by omega)
        have d3 : decide ((v.keys.length : Int) ≤ 10) = decide (v.keys.length ≤ 10) := decide_eq_decide.2 (by omega)
        have d4 : decide ((v.keep.length : Int) ≤ 100) = decide (v.keep.length ≤ 100) := decide_eq_decide.2 (by omega)
        have HCF := Lib.hid (ContW.contains_str 40 (enters_of Tryz.func40 (by kernel_rfl) rfl) badK s.ka s.kc v.keys HOK.out.keys (fun x hx w => badk_any x (HOK.out.keysz x hx) w) w9 (row_strs (HIN.out.below HB9.out).keys))
        generalize decide (v.body.length ≤ 300) = b1 at *
        generalize decide (v.key.length ≤ 300) = b2 at *
        generalize decide (v.keys.length ≤ 10) = b3 at *
        generalize decide (v.keep.length ≤ 100) = b4 at *
        generalize v.keys.any badK = b5 at *
        rcases (show b1 = false ∨ (b1 = true ∧ b2 = false) ∨ (b1 = true ∧ b2 = true ∧ b3 = false) ∨ (b1 = true ∧ b2 = true ∧ b3 = true ∧ b4 = false) ∨ (b1 = true ∧ b2 = true ∧ b3 = true ∧ b4 = true) by cases b1 <;> cases b2 <;> cases b3 <;> cases b4 <;> simp) with rfl | ⟨rfl, rfl⟩ | ⟨rfl, rfl, rfl⟩ | ⟨rfl, rfl, rfl, rfl⟩ | ⟨rfl, rfl, rfl, rfl⟩
        · have HT : Hid (rightB v letters = false) := by show _ = _; rw [HR.out]; simp
          clear HR HCF
          go_wp2_with fail
          go_ret
          rw [HT.out]
          exact ⟨rfl, HB9.out⟩
        · have HT : Hid (rightB v letters = false) := by show _ = _; rw [HR.out]; simp
          clear HR HCF
          go_wp2_with fail
          go_ret
          rw [HT.out]
          exact ⟨rfl, HB9.out⟩
        · have HT : Hid (rightB v letters = false) := by show _ = _; rw [HR.out]; simp
          clear HR HCF
          go_wp2_with fail
          go_ret
          rw [HT.out]
          exact ⟨rfl, HB9.out⟩
        · have HT : Hid (rightB v letters = false) := by show _ = _; rw [HR.out]; simp
          clear HR HCF
          go_wp2_with fail
          go_ret
          rw [HT.out]
          exact ⟨rfl, HB9.out⟩
        · have HT : Hid (rightB v letters = !b5) := by show _ = _; rw [HR.out]; simp
          clear HR
          go_wp2_with fail
          refine HCF.out.mono ?_
          rintro e w10 ⟨rfl, hd⟩
          have HB10 := Lib.hid (HB9.out.trans (hd.below _))
          clear hd HCF HB9
          go_wp2_with fail
          go_ret
          rw [HT.out]
          exact ⟨rfl, HB10.out⟩
  | true =>
    have c5 : w4.cell? ⟨W.heap.size, 5, none⟩ = some (.string (S v.topic)) := HX3.out 5 _ (by have := HCS.out; subst this; rfl)
    have HTP := Lib.hid (fun w => NameW.topic_any v.topic HOK.out.topic w)
    go_wp2_with fail
    refine (HTP.out _).mono ?_
    rintro e w5 ⟨rfl, hb⟩
    have HB5 := Lib.hid (HB3.out.trans (hb.mono HB3.out.size))
    have HX5 := Lib.hid (HX3.out.below hb)
    have HL5 := Lib.hid (HL3.out.below hb)
    clear hb HTP HB3 HX3 HL3 c5
    generalize topicL v.topic = tt at *
    cases tt with
    | false =>
      have HT : Hid (rightB v letters = false) := by show _ = _; rw [HR.out]; simp
      clear HR
      go_wp2_with fail
      go_ret
      rw [HT.out]
      exact ⟨rfl, HB5.out⟩
    | true =>
      have cL2 : w5.cell? ⟨W.heap.size + 1, 0, none⟩ = some (.string (S letters)) := HL5.out 0 _ rfl
      have HHG := Lib.hid (fun w h => has_letter letters 71 (W.heap.size + 1) w h)
      go_wp2_with fail
      refine (HHG.out _ cL2).mono ?_
      rintro e w6 ⟨rfl, rfl⟩
      clear HHG cL2
      generalize hasB letters 71 = hg at *
      cases hg with
      | false =>
        obtain ⟨w9, rfl⟩ : ∃ w9 : World, w9 = w6 := ⟨_, rfl⟩
        have HB9 := HB5
        have HX9 := HX5
        clear HB5 HX5 HL5
        have c8 : w9.cell? ⟨W.heap.size, 8, none⟩ = some (.string (S v.key)) := HX9.out 8 _ (by have := HCS.out; subst this; rfl)
        have c9 : w9.cell? ⟨W.heap.size, 9, none⟩ = some (.string (S v.body)) := HX9.out 9 _ (by have := HCS.out; subst this; rfl)
        have c10 : w9.cell? ⟨W.heap.size, 10, none⟩ = some (.slice s.ka v.keys.length s.kc) := HX9.out 10 _ (by have := HCS.out; subst this; rfl)
        have c12 : w9.cell? ⟨W.heap.size, 12, none⟩ = some (.slice s.pa v.keep.length s.pc) := HX9.out 12 _ (by have := HCS.out; subst this; rfl)
        have z8 := S_size v.key
        have z9 := S_size v.body
        have d1 : decide ((v.body.length : Int) ≤ 300) = decide (v.body.length ≤ 300) := decide_eq_decide.2 (by omega)
        have d2 : decide ((v.key.length : Int) ≤ 300) = decide (v.key.length ≤ 300) := decide_eq_decide.2 (by omega)
        have d3 : decide ((v.keys.length : Int) ≤ 10) = decide (v.keys.length ≤ 10) := decide_eq_decide.2 (by omega)
        have d4 : decide ((v.keep.length : Int) ≤ 100) = decide (v.keep.length ≤ 100) := decide_eq_decide.2 (by omega)
        have HCF := Lib.hid (ContW.contains_str 40 (enters_of Tryz.func40 (by kernel_rfl) rfl) badK s.ka s.kc v.keys HOK.out.keys (fun x hx w => badk_any x (HOK.out.keysz x hx) w) w9 (row_strs (HIN.out.below HB9.out).keys))
        generalize decide (v.body.length ≤ 300) = b1 at *
        generalize decide (v.key.length ≤ 300) = b2 at *
        generalize decide (v.keys.length ≤ 10) = b3 at *
        generalize decide (v.keep.length ≤ 100) = b4 at *
        generalize v.keys.any badK = b5 at *
        rcases (show b1 = false ∨ (b1 = true ∧ b2 = false) ∨ (b1 = true ∧ b2 = true ∧ b3 = false) ∨ (b1 = true ∧ b2 = true ∧ b3 = true ∧ b4 = false) ∨ (b1 = true ∧ b2 = true ∧ b3 = true ∧ b4 = true) by cases b1 <;> cases b2 <;> cases b3 <;> cases b4 <;> simp) with rfl | ⟨rfl, rfl⟩ | ⟨rfl, rfl, rfl⟩ | ⟨rfl, rfl, rfl, rfl⟩ | ⟨rfl, rfl, rfl, rfl⟩
        · have HT : Hid (rightB v letters = false) := by show _ = _; rw [HR.out]; simp
          clear HR HCF
          go_wp2_with fail
          go_ret
          rw [HT.out]
          exact ⟨rfl, HB9.out⟩
        · have HT : Hid (rightB v letters = false) := by show _ = _; rw [HR.out]; simp
          clear HR HCF
          go_wp2_with fail
          go_ret
          rw [HT.out]
          exact ⟨rfl, HB9.out⟩
        · have HT : Hid (rightB v letters = false) := by show _ = _; rw [HR.out]; simp
          clear HR HCF
          go_wp2_with fail
          go_ret
          rw [HT.out]
          exact ⟨rfl, HB9.out⟩
        · have HT : Hid (rightB v letters = false) := by show _ = _; rw [HR.out]; simp
          clear HR HCF
          go_wp2_with fail
          go_ret
          rw [HT.out]
          exact ⟨rfl, HB9.out⟩
        · have HT : Hid (rightB v letters = !b5) := by show _ = _; rw [HR.out]; simp
          clear HR
          go_wp2_with fail
          refine HCF.out.mono ?_
          rintro e w10 ⟨rfl, hd⟩
          have HB10 := Lib.hid (HB9.out.trans (hd.below _))
          clear hd HCF HB9
          go_wp2_with fail
          go_ret
          rw [HT.out]
          exact ⟨rfl, HB10.out⟩
      | true =>
        have c6 : w6.cell? ⟨W.heap.size, 6, none⟩ = some (.string (S v.group)) := HX5.out 6 _ (by have := HCS.out; subst this; rfl)
        have HGR := Lib.hid (fun w => NameW.group_any v.group HOK.out.group w)
        go_wp2_with fail
        refine (HGR.out _).mono ?_
        rintro e w9 ⟨rfl, hb⟩
        have HB9 := Lib.hid (HB5.out.trans (hb.mono HB5.out.size))
        have HX9 := Lib.hid (HX5.out.below hb)
        clear hb HGR HB5 HX5 HL5 c6
        generalize groupL v.group = tg at *
        cases tg with
        | false =>
          have HT : Hid (rightB v letters = false) := by show _ = _; rw [HR.out]; simp
          clear HR
          go_wp2_with fail
          go_ret
          rw [HT.out]
          exact ⟨rfl, HB9.out⟩
        | true =>
          have c8 : w9.cell? ⟨W.heap.size, 8, none⟩ = some (.string (S v.key)) := HX9.out 8 _ (by have := HCS.out; subst this; rfl)
          have c9 : w9.cell? ⟨W.heap.size, 9, none⟩ = some (.string (S v.body)) := HX9.out 9 _ (by have := HCS.out; subst this; rfl)
          have c10 : w9.cell? ⟨W.heap.size, 10, none⟩ = some (.slice s.ka v.keys.length s.kc) := HX9.out 10 _ (by have := HCS.out; subst this; rfl)
          have c12 : w9.cell? ⟨W.heap.size, 12, none⟩ = some (.slice s.pa v.keep.length s.pc) := HX9.out 12 _ (by have := HCS.out; subst this; rfl)
          have z8 := S_size v.key
          have z9 := S_size v.body
          have d1 : decide ((v.body.length : Int) ≤ 300) = decide (v.body.length ≤ 300) := decide_eq_decide.2 (by omega)
          have d2 : decide ((v.key.length : Int) ≤ 300) = decide (v.key.length ≤ 300) := decide_eq_decide.2 (by omega)
          have d3 : decide ((v.keys.length : Int) ≤ 10) = decide (v.keys.length ≤ 10) := decide_eq_decide.2 (by omega)
          have d4 : decide ((v.keep.length : Int) ≤ 100) = decide (v.keep.length ≤ 100) := decide_eq_decide.2 (by omega)
          have HCF := Lib.hid (ContW.contains_str 40 (enters_of Tryz.func40 (by kernel_rfl) rfl) badK s.ka s.kc v.keys HOK.out.keys (fun x hx w => badk_any x (HOK.out.keysz x hx) w) w9 (row_strs (HIN.out.below HB9.out).keys))
          generalize decide (v.body.length ≤ 300) = b1 at *
          generalize decide (v.key.length ≤ 300) = b2 at *
          generalize decide (v.keys.length ≤ 10) = b3 at *
          generalize decide (v.keep.length ≤ 100) = b4 at *
          generalize v.keys.any badK = b5 at *
          rcases (show b1 = false ∨ (b1 = true ∧ b2 = false) ∨ (b1 = true ∧ b2 = true ∧ b3 = false) ∨ (b1 = true ∧ b2 = true ∧ b3 = true ∧ b4 = false) ∨ (b1 = true ∧ b2 = true ∧ b3 = true ∧ b4 = true) by cases b1 <;> cases b2 <;> cases b3 <;> cases b4 <;> simp) with rfl | ⟨rfl, rfl⟩ | ⟨rfl, rfl, rfl⟩ | ⟨rfl, rfl, rfl, rfl⟩ | ⟨rfl, rfl, rfl, rfl⟩
          · have HT : Hid (rightB v letters = false) := by show _ = _; rw [HR.out]; simp
            clear HR HCF
            go_wp2_with fail
            go_ret
            rw [HT.out]
            exact ⟨rfl, HB9.out⟩
          · have HT : Hid (rightB v letters = false) := by show _ = _; rw [HR.out]; simp
            clear HR HCF
            go_wp2_with fail
            go_ret
            rw [HT.out]
            exact ⟨rfl, HB9.out⟩
          · have HT : Hid (rightB v letters = false) := by show _ = _; rw [HR.out]; simp
            clear HR HCF
            go_wp2_with fail
            go_ret
            rw [HT.out]
            exact ⟨rfl, HB9.out⟩
          · have HT : Hid (rightB v letters = false) := by show _ = _; rw [HR.out]; simp
            clear HR HCF
            go_wp2_with fail
            go_ret
            rw [HT.out]
            exact ⟨rfl, HB9.out⟩
          · have HT : Hid (rightB v letters = !b5) := by show _ = _; rw [HR.out]; simp
            clear HR
            go_wp2_with fail
            refine HCF.out.mono ?_
            rintro e w10 ⟨rfl, hd⟩
            have HB10 := Lib.hid (HB9.out.trans (hd.below _))
            clear hd HCF HB9
            go_wp2_with fail
            go_ret
            rw [HT.out]
            exact ⟨rfl, HB10.out⟩
end Go.Proofs.YtadhkeboaapfcaaGreatDoor.EvW
namespace Go.Proofs.YtadhkeboaapfcaaGreatDoor.EvW
open Go.RowKit OctMath NameMath
set_option linter.unusedVariables false
set_option linter.unusedSimpArgs false

/-- which of an event's cells a letter stands for, and what stands there in an event without it -/
def slotOf (c : UInt8) : Nat × Value :=
  if c = 84 then (5, .string ⟨#[]⟩) else if c = 71 then (6, .string ⟨#[]⟩) else if c = 81 then (1, .int .i64 0) else if c = 78 then (2, .int .i64 0)
  else if c = 65 then (3, .int .i64 0) else if c = 76 then (4, .int .i64 0) else if c = 116 then (7, .string ⟨#[]⟩) else if c = 107 then (10, .slice none 0 0)
  else if c = 98 then (9, .string ⟨#[]⟩) else if c = 120 then (8, .string ⟨#[]⟩) else if c = 112 then (12, .slice none 0 0) else if c = 102 then (11, .slice none 0 0) else (13, .bool false)
def wipe (cs : Array Value) (letters : List UInt8) : Array Value := letters.foldl (fun cs c => cs.setIfInBounds (slotOf c).1 (slotOf c).2) cs
theorem wipe_snoc (cs : Array Value) (l : List UInt8) (c : UInt8) : wipe cs (l ++ [c]) = (wipe cs l).setIfInBounds (slotOf c).1 (slotOf c).2 := by simp [wipe]
theorem wipe_size (cs : Array Value) (l : List UInt8) : (wipe cs l).size = cs.size := by
  unfold wipe
  induction l generalizing cs with
  | nil => rfl
  | cons c l ih => rw [List.foldl_cons, ih, Array.size_setIfInBounds]

theorem slot_ev (c : UInt8) (v : Ev) (s : EvS) : ∃ v' s', (v.cells s).setIfInBounds (slotOf c).1 (slotOf c).2 = Ev.cells v' s' := by
  by_cases h84 : c = 84
  · subst h84; exact ⟨{ v with topic := [] }, s, rfl⟩
  by_cases h71 : c = 71
  · subst h71; exact ⟨{ v with group := [] }, s, rfl⟩
  by_cases h81 : c = 81
  · subst h81; exact ⟨{ v with queue := 0 }, s, rfl⟩
  by_cases h78 : c = 78
  · subst h78; exact ⟨{ v with n := 0 }, s, rfl⟩
  by_cases h65 : c = 65
  · subst h65; exact ⟨{ v with aat := 0 }, s, rfl⟩
  by_cases h76 : c = 76
  · subst h76; exact ⟨{ v with lack := 0 }, s, rfl⟩
  by_cases h116 : c = 116
  · subst h116; exact ⟨{ v with tag := [] }, s, rfl⟩
  by_cases h107 : c = 107
  · subst h107; exact ⟨{ v with keys := [] }, { s with ka := none, kc := 0 }, rfl⟩
  by_cases h98 : c = 98
  · subst h98; exact ⟨{ v with body := [] }, s, rfl⟩
  by_cases h120 : c = 120
  · subst h120; exact ⟨{ v with key := [] }, s, rfl⟩
  by_cases h112 : c = 112
  · subst h112; exact ⟨{ v with keep := [] }, { s with pa := none, pc := 0 }, rfl⟩
  by_cases h102 : c = 102
  · subst h102; exact ⟨{ v with tags := [] }, { s with ta := none, tc := 0 }, rfl⟩
  have hso : slotOf c = (13, .bool false) := by unfold slotOf; simp [*]
  rw [hso]
  exact ⟨{ v with sync := false }, s, rfl⟩
theorem wipe_ev (l : List UInt8) {cs : Array Value} (h : ∃ v s, cs = Ev.cells v s) : ∃ v' s', wipe cs l = Ev.cells v' s' := by
  unfold wipe
  induction l generalizing cs with
  | nil => exact h
  | cons c l ih =>
    obtain ⟨v, s, rfl⟩ := h
    rw [List.foldl_cons]
    exact ih (slot_ev c v s)
theorem fourteen (a : Array Value) (h : a.size = 14) : ∃ x0 x1 x2 x3 x4 x5 x6 x7 x8 x9 x10 x11 x12 x13, a = #[x0, x1, x2, x3, x4, x5, x6, x7, x8, x9, x10, x11, x12, x13] :=
  ⟨a[0], a[1], a[2], a[3], a[4], a[5], a[6], a[7], a[8], a[9], a[10], a[11], a[12], a[13], by
    apply Array.ext
    · simpa using h
    · intro i h1 h2
      have : i < 14 := by omega
      match i, this with
      | 0, _ => rfl | 1, _ => rfl | 2, _ => rfl | 3, _ => rfl | 4, _ => rfl | 5, _ => rfl | 6, _ => rfl | 7, _ => rfl | 8, _ => rfl | 9, _ => rfl | 10, _ => rfl | 11, _ => rfl | 12, _ => rfl | 13, _ => rfl⟩
def put14 (w : World) (B : Nat) (x0 x1 x2 x3 x4 x5 x6 x7 x8 x9 x10 x11 x12 x13 : Value) : World := ((((((((((((((w.setCell ⟨B, 0, none⟩ x0).setCell ⟨B, 1, none⟩ x1).setCell ⟨B, 2, none⟩ x2).setCell ⟨B, 3, none⟩ x3).setCell ⟨B, 4, none⟩ x4).setCell ⟨B, 5, none⟩ x5).setCell ⟨B, 6, none⟩ x6).setCell ⟨B, 7, none⟩ x7).setCell ⟨B, 8, none⟩ x8).setCell ⟨B, 9, none⟩ x9).setCell ⟨B, 10, none⟩ x10).setCell ⟨B, 11, none⟩ x11).setCell ⟨B, 12, none⟩ x12).setCell ⟨B, 13, none⟩ x13)
theorem below_set {W w : World} {N B : Nat} (h : Below N W w) (hN : N ≤ B) (j : Nat) (x : Value) : Below N W (w.setCell ⟨B, j, none⟩ x) := h.setCell (p := ⟨B, j, none⟩) hN x
theorem put14_below {W w : World} {N B : Nat} (h : Below N W w) (hN : N ≤ B) (x0 x1 x2 x3 x4 x5 x6 x7 x8 x9 x10 x11 x12 x13 : Value) : Below N W (put14 w B x0 x1 x2 x3 x4 x5 x6 x7 x8 x9 x10 x11 x12 x13) := by
  unfold put14
  iterate 14 refine below_set ?_ hN _ _
  exact h
theorem put14_heap {w : World} {B : Nat} {z : Array Value} {t : TypeId} (hz : z.size = 14) (h : w.heap[B]? = some (.cells z t (0, 0))) (x0 x1 x2 x3 x4 x5 x6 x7 x8 x9 x10 x11 x12 x13 : Value) : (put14 w B x0 x1 x2 x3 x4 x5 x6 x7 x8 x9 x10 x11 x12 x13).heap[B]? = some (.cells #[x0, x1, x2, x3, x4, x5, x6, x7, x8, x9, x10, x11, x12, x13] t (0, 0)) := by
  obtain ⟨z0, z1, z2, z3, z4, z5, z6, z7, z8, z9, z10, z11, z12, z13, rfl⟩ := fourteen z hz
  unfold put14
  have h0 := heap_setCell_same _ B 0 _ t x0 h
  simp only [List.setIfInBounds_toArray, List.set_cons_zero, List.set_cons_succ] at h0
  have h1 := heap_setCell_same _ B 1 _ t x1 h0
  simp only [List.setIfInBounds_toArray, List.set_cons_zero, List.set_cons_succ] at h1
  have h2 := heap_setCell_same _ B 2 _ t x2 h1
  simp only [List.setIfInBounds_toArray, List.set_cons_zero, List.set_cons_succ] at h2
  have h3 := heap_setCell_same _ B 3 _ t x3 h2
  simp only [List.setIfInBounds_toArray, List.set_cons_zero, List.set_cons_succ] at h3
  have h4 := heap_setCell_same _ B 4 _ t x4 h3
  simp only [List.setIfInBounds_toArray, List.set_cons_zero, List.set_cons_succ] at h4
  have h5 := heap_setCell_same _ B 5 _ t x5 h4
  simp only [List.setIfInBounds_toArray, List.set_cons_zero, List.set_cons_succ] at h5
  have h6 := heap_setCell_same _ B 6 _ t x6 h5
  simp only [List.setIfInBounds_toArray, List.set_cons_zero, List.set_cons_succ] at h6
  have h7 := heap_setCell_same _ B 7 _ t x7 h6
  simp only [List.setIfInBounds_toArray, List.set_cons_zero, List.set_cons_succ] at h7
  have h8 := heap_setCell_same _ B 8 _ t x8 h7
  simp only [List.setIfInBounds_toArray, List.set_cons_zero, List.set_cons_succ] at h8
  have h9 := heap_setCell_same _ B 9 _ t x9 h8
  simp only [List.setIfInBounds_toArray, List.set_cons_zero, List.set_cons_succ] at h9
  have h10 := heap_setCell_same _ B 10 _ t x10 h9
  simp only [List.setIfInBounds_toArray, List.set_cons_zero, List.set_cons_succ] at h10
  have h11 := heap_setCell_same _ B 11 _ t x11 h10
  simp only [List.setIfInBounds_toArray, List.set_cons_zero, List.set_cons_succ] at h11
  have h12 := heap_setCell_same _ B 12 _ t x12 h11
  simp only [List.setIfInBounds_toArray, List.set_cons_zero, List.set_cons_succ] at h12
  have h13 := heap_setCell_same _ B 13 _ t x13 h12
  simp only [List.setIfInBounds_toArray, List.set_cons_zero, List.set_cons_succ] at h13
  exact h13
set_option maxRecDepth 100000 in
set_option maxHeartbeats 3200000 in
theorem without_any (cs : Array Value) (hev0 : ∃ v s, cs = Ev.cells v s) (letters : List UInt8) (hlt : letters.length ≤ 1048576) (hasc : ∀ c ∈ letters, c.toNat < 128) (W : World) :
    Calls Tryz.prog 22 #[.agg cs, .string (S letters)] W fun e w' => e = .returned (.agg (wipe cs letters)) ∧ Below W.heap.size W w' := by
  have hsz := S_size letters
  have hcs : cs.size = 14 := by obtain ⟨v, s, rfl⟩ := hev0; rfl
  go_enter Tryz.func22, Tryz.ntmps22
  go_wp2_with fail
  go_loopg [] letters.length (fun gf wx => ∃ (k : Nat) (z : Array Value), k + gf = letters.length ∧ z.size = 14 ∧ wx.heap[W.heap.size + 2]? = some (.stringIter (S letters) k) ∧ wx.heap[W.heap.size]? = some (.cells (wipe cs (letters.take k)) 25 (0, 0)) ∧ wx.heap[W.heap.size + 1]? = some (.cells z 25 (0, 0)) ∧ Below W.heap.size W wx)
  case atStart =>
    have e1 : ∀ (Z : Obj), (((W.alloc (.cells cs 25)).alloc Z).iter (S letters) 0).heap[W.heap.size]? = some (.cells cs 25 (0, 0)) := fun Z => by
      refine (Below.heap_alloc _ _ _ (by simp; omega)).trans ((Below.heap_alloc _ _ _ (by simp)).trans ?_)
      exact World.alloc_heap_new W _
    have e2 : ∀ (Z : Obj), (((W.alloc (.cells cs 25)).alloc Z).iter (S letters) 0).heap[W.heap.size + 1]? = some Z := fun Z => by
      refine (Below.heap_alloc _ _ _ (by simp)).trans ?_
      have := World.alloc_heap_new (W.alloc (.cells cs 25)) Z
      rwa [World.size_alloc] at this
    have e3 : ∀ (Z : Obj), (((W.alloc (.cells cs 25)).alloc Z).iter (S letters) 0).heap[W.heap.size + 2]? = some (.stringIter (S letters) 0) := fun Z => by
      have := World.alloc_heap_new ((W.alloc (.cells cs 25)).alloc Z) (.stringIter (S letters) 0)
      rw [World.size_alloc, World.size_alloc] at this; exact this
    have e4 : ∀ (Z : Obj), Below W.heap.size W (((W.alloc (.cells cs 25)).alloc Z).iter (S letters) 0) := fun Z => (((Below.refl _ W).alloc (Nat.le_refl _) _).alloc (by simp) _).alloc (by simp; omega) _
    exact ⟨0, _, by omega, rfl, e3 _, e1 _, e2 _, e4 _⟩
  case round =>
    obtain ⟨k, z, hk, hz, hit, hev, hzz, hB⟩ := hrel
    by_cases hlt2 : k < letters.length
    · obtain ⟨g', rfl⟩ : ∃ g', gk = g' + 1 := ⟨gk - 1, by omega⟩
      have hnx : ∀ ty, (Instr.next (.pointer (some ⟨W.heap.size + 2, 0, none⟩)) true ty).run Tryz.prog wr = _ := fun ty => Lib.run_next_any_at wr (W.heap.size + 2) (S letters) k ty hit (by rw [hsz]; exact hlt2)
      have hasc2 : letters[k].toNat < 128 := hasc _ (List.getElem_mem hlt2)
      rw [NameMath.decode_ascii letters k hlt2 hasc2] at hnx
      simp only [] at hnx
      have hsn : wipe cs (letters.take (k + 1)) = (wipe cs (letters.take k)).setIfInBounds (slotOf letters[k]).1 (slotOf letters[k]).2 := by
        rw [List.take_succ_eq_append_getElem hlt2, wipe_snoc]
      generalize letters[k] = c at *
      have hit2 := Lib.iterAt_heap wr (W.heap.size + 2) (S letters) k (k + 1) hit
      have hev2 := (Lib.iterAt_other wr (W.heap.size + 2) W.heap.size (S letters) (k + 1) (by omega)).trans hev
      have hzz2 := (Lib.iterAt_other wr (W.heap.size + 2) (W.heap.size + 1) (S letters) (k + 1) (by omega)).trans hzz
      have hB2 := Lib.below_iterAt hB (k := W.heap.size + 2) (by omega) (S letters) (k + 1)
      have hws : (wipe cs (letters.take k)).size = 14 := by rw [wipe_size, hcs]
      generalize wipe cs (letters.take k) = ws at *
      generalize wr.iterAt (W.heap.size + 2) (S letters) (k + 1) = w2 at *
      have HST : ∀ (j : Nat) (v : Value), slotOf c = (j, v) → (w2.setCell ⟨W.heap.size, j, none⟩ v).heap[W.heap.size + 2]? = some (.stringIter (S letters) (k + 1)) ∧ (w2.setCell ⟨W.heap.size, j, none⟩ v).heap[W.heap.size]? = some (.cells (wipe cs (letters.take (k + 1))) 25 (0, 0)) ∧ (w2.setCell ⟨W.heap.size, j, none⟩ v).heap[W.heap.size + 1]? = some (.cells z 25 (0, 0)) ∧ Below W.heap.size W (w2.setCell ⟨W.heap.size, j, none⟩ v) := fun j v hs => by
        rw [hsn, hs]
        exact ⟨(heap_setCell_other w2 ⟨W.heap.size, j, none⟩ _ v (by simp)).trans hit2, heap_setCell_same w2 W.heap.size j ws _ v hev2, (heap_setCell_other w2 ⟨W.heap.size, j, none⟩ _ v (by simp)).trans hzz2, hB2.setCell (Nat.le_refl _) _⟩
      have HCE : ∀ j, (h : j < 14) → w2.cell? ⟨W.heap.size, j, none⟩ = some (ws[j]'(by omega)) := fun j h => by
        unfold World.cell?; simp [hev2, show j < ws.size by omega]
      have HFR : ∀ j, w2.frozen? ⟨W.heap.size, j, none⟩ = false := fun j => by unfold World.frozen?; simp [hev2]
      clear hit hev hzz hB hit2 hev2 hzz2 hB2 hsn
      by_cases hc84 : c = 84
      · subst hc84
        have HT := HST 5 (.string ⟨#[]⟩) rfl
        have hce := HCE 5 (by omega)
        have hfr := HFR 5
        clear HST HCE HFR hasc2
        go_wp2_with fail
        go_roundg g'
        case measure => omega
        case rel => exact ⟨k + 1, z, by omega, hz, HT⟩
      have b84 : ((c.toNat : Int) == 84) = false := beq_eq_false_iff_ne.2 (fun h => hc84 (by apply UInt8.toNat_inj.1; show c.toNat = 84; omega))
      by_cases hc71 : c = 71
      · subst hc71
        have HT := HST 6 (.string ⟨#[]⟩) rfl
        have hce := HCE 6 (by omega)
        have hfr := HFR 6
        clear HST HCE HFR hasc2
        go_wp2_with fail
        go_roundg g'
        case measure => omega
        case rel => exact ⟨k + 1, z, by omega, hz, HT⟩
      have b71 : ((c.toNat : Int) == 71) = false := beq_eq_false_iff_ne.2 (fun h => hc71 (by apply UInt8.toNat_inj.1; show c.toNat = 71; omega))
      by_cases hc81 : c = 81
      · subst hc81
        have HT := HST 1 (.int .i64 0) rfl
        have hce := HCE 1 (by omega)
        have hfr := HFR 1
        clear HST HCE HFR hasc2
        go_wp2_with fail
        go_roundg g'
        case measure => omega
        case rel => exact ⟨k + 1, z, by omega, hz, HT⟩
      have b81 : ((c.toNat : Int) == 81) = false := beq_eq_false_iff_ne.2 (fun h => hc81 (by apply UInt8.toNat_inj.1; show c.toNat = 81; omega))
      by_cases hc78 : c = 78
      · subst hc78
        have HT := HST 2 (.int .i64 0) rfl
        have hce := HCE 2 (by omega)
        have hfr := HFR 2
        clear HST HCE HFR hasc2
        go_wp2_with fail
        go_roundg g'
        case measure => omega
        case rel => exact ⟨k + 1, z, by omega, hz, HT⟩
      have b78 : ((c.toNat : Int) == 78) = false := beq_eq_false_iff_ne.2 (fun h => hc78 (by apply UInt8.toNat_inj.1; show c.toNat = 78; omega))
      by_cases hc65 : c = 65
      · subst hc65
        have HT := HST 3 (.int .i64 0) rfl
        have hce := HCE 3 (by omega)
        have hfr := HFR 3
        clear HST HCE HFR hasc2
        go_wp2_with fail
        go_roundg g'
        case measure => omega
        case rel => exact ⟨k + 1, z, by omega, hz, HT⟩
      have b65 : ((c.toNat : Int) == 65) = false := beq_eq_false_iff_ne.2 (fun h => hc65 (by apply UInt8.toNat_inj.1; show c.toNat = 65; omega))
      by_cases hc76 : c = 76
      · subst hc76
        have HT := HST 4 (.int .i64 0) rfl
        have hce := HCE 4 (by omega)
        have hfr := HFR 4
        clear HST HCE HFR hasc2
        go_wp2_with fail
        go_roundg g'
        case measure => omega
        case rel => exact ⟨k + 1, z, by omega, hz, HT⟩
      have b76 : ((c.toNat : Int) == 76) = false := beq_eq_false_iff_ne.2 (fun h => hc76 (by apply UInt8.toNat_inj.1; show c.toNat = 76; omega))
      by_cases hc116 : c = 116
      · subst hc116
        have HT := HST 7 (.string ⟨#[]⟩) rfl
        have hce := HCE 7 (by omega)
        have hfr := HFR 7
        clear HST HCE HFR hasc2
        go_wp2_with fail
        go_roundg g'
        case measure => omega
        case rel => exact ⟨k + 1, z, by omega, hz, HT⟩
      have b116 : ((c.toNat : Int) == 116) = false := beq_eq_false_iff_ne.2 (fun h => hc116 (by apply UInt8.toNat_inj.1; show c.toNat = 116; omega))
      by_cases hc107 : c = 107
      · subst hc107
        have HT := HST 10 (.slice none 0 0) rfl
        have hce := HCE 10 (by omega)
        have hfr := HFR 10
        clear HST HCE HFR hasc2
        go_wp2_with fail
        go_roundg g'
        case measure => omega
        case rel => exact ⟨k + 1, z, by omega, hz, HT⟩
      have b107 : ((c.toNat : Int) == 107) = false := beq_eq_false_iff_ne.2 (fun h => hc107 (by apply UInt8.toNat_inj.1; show c.toNat = 107; omega))
      by_cases hc98 : c = 98
      · subst hc98
        have HT := HST 9 (.string ⟨#[]⟩) rfl
        have hce := HCE 9 (by omega)
        have hfr := HFR 9
        clear HST HCE HFR hasc2
        go_wp2_with fail
        go_roundg g'
        case measure => omega
        case rel => exact ⟨k + 1, z, by omega, hz, HT⟩
      have b98 : ((c.toNat : Int) == 98) = false := beq_eq_false_iff_ne.2 (fun h => hc98 (by apply UInt8.toNat_inj.1; show c.toNat = 98; omega))
      by_cases hc120 : c = 120
      · subst hc120
        have HT := HST 8 (.string ⟨#[]⟩) rfl
        have hce := HCE 8 (by omega)
        have hfr := HFR 8
        clear HST HCE HFR hasc2
        go_wp2_with fail
        go_roundg g'
        case measure => omega
        case rel => exact ⟨k + 1, z, by omega, hz, HT⟩
      have b120 : ((c.toNat : Int) == 120) = false := beq_eq_false_iff_ne.2 (fun h => hc120 (by apply UInt8.toNat_inj.1; show c.toNat = 120; omega))
      by_cases hc112 : c = 112
      · subst hc112
        have HT := HST 12 (.slice none 0 0) rfl
        have hce := HCE 12 (by omega)
        have hfr := HFR 12
        clear HST HCE HFR hasc2
        go_wp2_with fail
        go_roundg g'
        case measure => omega
        case rel => exact ⟨k + 1, z, by omega, hz, HT⟩
      have b112 : ((c.toNat : Int) == 112) = false := beq_eq_false_iff_ne.2 (fun h => hc112 (by apply UInt8.toNat_inj.1; show c.toNat = 112; omega))
      by_cases hc102 : c = 102
      · subst hc102
        have HT := HST 11 (.slice none 0 0) rfl
        have hce := HCE 11 (by omega)
        have hfr := HFR 11
        clear HST HCE HFR hasc2
        go_wp2_with fail
        go_roundg g'
        case measure => omega
        case rel => exact ⟨k + 1, z, by omega, hz, HT⟩
      have b102 : ((c.toNat : Int) == 102) = false := beq_eq_false_iff_ne.2 (fun h => hc102 (by apply UInt8.toNat_inj.1; show c.toNat = 102; omega))
      have hso : slotOf c = (13, .bool false) := by unfold slotOf; simp [*]
      have HT := HST 13 (.bool false) hso
      have hce := HCE 13 (by omega)
      have hfr := HFR 13
      clear HST HCE HFR hasc2 hso
      go_wp2_with fail
      go_roundg g'
      case measure => omega
      case rel => exact ⟨k + 1, z, by omega, hz, HT⟩
    · have ek : k = letters.length := by omega
      subst ek
      rw [List.take_length] at hev
      have hnx : ∀ ty, (Instr.next (.pointer (some ⟨W.heap.size + 2, 0, none⟩)) true ty).run Tryz.prog wr = _ := fun ty => Lib.run_next_end_at wr (W.heap.size + 2) (S letters) letters.length ty hit (by rw [hsz]; omega)
      have hws : (wipe cs letters).size = 14 := by rw [wipe_size, hcs]
      obtain ⟨v', s', hvs⟩ := wipe_ev letters hev0
      rw [hvs] at hev hws
      have hrw : Ending.returned (.agg (wipe cs letters)) = Ending.returned (.agg (v'.cells s')) := by rw [hvs]
      have HRW := Lib.hid hrw
      clear hvs hrw hev0 hcs hasc hws
      have HB := Lib.hid hB
      have c0 : wr.cell? ⟨W.heap.size, 0, none⟩ = some (.int .i64 v'.kind) := by unfold World.cell?; rw [show wr.heap[(⟨W.heap.size, 0, none⟩ : Addr).block]? = _ from hev]; rfl
      have c1 : wr.cell? ⟨W.heap.size, 1, none⟩ = some (.int .i64 v'.queue) := by unfold World.cell?; rw [show wr.heap[(⟨W.heap.size, 1, none⟩ : Addr).block]? = _ from hev]; rfl
      have c2 : wr.cell? ⟨W.heap.size, 2, none⟩ = some (.int .i64 v'.n) := by unfold World.cell?; rw [show wr.heap[(⟨W.heap.size, 2, none⟩ : Addr).block]? = _ from hev]; rfl
      have c3 : wr.cell? ⟨W.heap.size, 3, none⟩ = some (.int .i64 v'.aat) := by unfold World.cell?; rw [show wr.heap[(⟨W.heap.size, 3, none⟩ : Addr).block]? = _ from hev]; rfl
      have c4 : wr.cell? ⟨W.heap.size, 4, none⟩ = some (.int .i64 v'.lack) := by unfold World.cell?; rw [show wr.heap[(⟨W.heap.size, 4, none⟩ : Addr).block]? = _ from hev]; rfl
      have c5 : wr.cell? ⟨W.heap.size, 5, none⟩ = some (.string (S v'.topic)) := by unfold World.cell?; rw [show wr.heap[(⟨W.heap.size, 5, none⟩ : Addr).block]? = _ from hev]; rfl
      have c6 : wr.cell? ⟨W.heap.size, 6, none⟩ = some (.string (S v'.group)) := by unfold World.cell?; rw [show wr.heap[(⟨W.heap.size, 6, none⟩ : Addr).block]? = _ from hev]; rfl
      have c7 : wr.cell? ⟨W.heap.size, 7, none⟩ = some (.string (S v'.tag)) := by unfold World.cell?; rw [show wr.heap[(⟨W.heap.size, 7, none⟩ : Addr).block]? = _ from hev]; rfl
      have c8 : wr.cell? ⟨W.heap.size, 8, none⟩ = some (.string (S v'.key)) := by unfold World.cell?; rw [show wr.heap[(⟨W.heap.size, 8, none⟩ : Addr).block]? = _ from hev]; rfl
      have c9 : wr.cell? ⟨W.heap.size, 9, none⟩ = some (.string (S v'.body)) := by unfold World.cell?; rw [show wr.heap[(⟨W.heap.size, 9, none⟩ : Addr).block]? = _ from hev]; rfl
      have c10 : wr.cell? ⟨W.heap.size, 10, none⟩ = some (.slice s'.ka v'.keys.length s'.kc) := by unfold World.cell?; rw [show wr.heap[(⟨W.heap.size, 10, none⟩ : Addr).block]? = _ from hev]; rfl
      have c11 : wr.cell? ⟨W.heap.size, 11, none⟩ = some (.slice s'.ta v'.tags.length s'.tc) := by unfold World.cell?; rw [show wr.heap[(⟨W.heap.size, 11, none⟩ : Addr).block]? = _ from hev]; rfl
      have c12 : wr.cell? ⟨W.heap.size, 12, none⟩ = some (.slice s'.pa v'.keep.length s'.pc) := by unfold World.cell?; rw [show wr.heap[(⟨W.heap.size, 12, none⟩ : Addr).block]? = _ from hev]; rfl
      have c13 : wr.cell? ⟨W.heap.size, 13, none⟩ = some (.bool v'.sync) := by unfold World.cell?; rw [show wr.heap[(⟨W.heap.size, 13, none⟩ : Addr).block]? = _ from hev]; rfl
      obtain ⟨z0, z1, z2, z3, z4, z5, z6, z7, z8, z9, z10, z11, z12, z13, rfl⟩ := fourteen z hz
      have d0 : wr.cell? ⟨W.heap.size + 1, 0, none⟩ = some z0 := by unfold World.cell?; rw [show wr.heap[(⟨W.heap.size + 1, 0, none⟩ : Addr).block]? = _ from hzz]; rfl
      have d1 : wr.cell? ⟨W.heap.size + 1, 1, none⟩ = some z1 := by unfold World.cell?; rw [show wr.heap[(⟨W.heap.size + 1, 1, none⟩ : Addr).block]? = _ from hzz]; rfl
      have d2 : wr.cell? ⟨W.heap.size + 1, 2, none⟩ = some z2 := by unfold World.cell?; rw [show wr.heap[(⟨W.heap.size + 1, 2, none⟩ : Addr).block]? = _ from hzz]; rfl
      have d3 : wr.cell? ⟨W.heap.size + 1, 3, none⟩ = some z3 := by unfold World.cell?; rw [show wr.heap[(⟨W.heap.size + 1, 3, none⟩ : Addr).block]? = _ from hzz]; rfl
      have d4 : wr.cell? ⟨W.heap.size + 1, 4, none⟩ = some z4 := by unfold World.cell?; rw [show wr.heap[(⟨W.heap.size + 1, 4, none⟩ : Addr).block]? = _ from hzz]; rfl
      have d5 : wr.cell? ⟨W.heap.size + 1, 5, none⟩ = some z5 := by unfold World.cell?; rw [show wr.heap[(⟨W.heap.size + 1, 5, none⟩ : Addr).block]? = _ from hzz]; rfl
      have d6 : wr.cell? ⟨W.heap.size + 1, 6, none⟩ = some z6 := by unfold World.cell?; rw [show wr.heap[(⟨W.heap.size + 1, 6, none⟩ : Addr).block]? = _ from hzz]; rfl
      have d7 : wr.cell? ⟨W.heap.size + 1, 7, none⟩ = some z7 := by unfold World.cell?; rw [show wr.heap[(⟨W.heap.size + 1, 7, none⟩ : Addr).block]? = _ from hzz]; rfl
      have d8 : wr.cell? ⟨W.heap.size + 1, 8, none⟩ = some z8 := by unfold World.cell?; rw [show wr.heap[(⟨W.heap.size + 1, 8, none⟩ : Addr).block]? = _ from hzz]; rfl
      have d9 : wr.cell? ⟨W.heap.size + 1, 9, none⟩ = some z9 := by unfold World.cell?; rw [show wr.heap[(⟨W.heap.size + 1, 9, none⟩ : Addr).block]? = _ from hzz]; rfl
      have d10 : wr.cell? ⟨W.heap.size + 1, 10, none⟩ = some z10 := by unfold World.cell?; rw [show wr.heap[(⟨W.heap.size + 1, 10, none⟩ : Addr).block]? = _ from hzz]; rfl
      have d11 : wr.cell? ⟨W.heap.size + 1, 11, none⟩ = some z11 := by unfold World.cell?; rw [show wr.heap[(⟨W.heap.size + 1, 11, none⟩ : Addr).block]? = _ from hzz]; rfl
      have d12 : wr.cell? ⟨W.heap.size + 1, 12, none⟩ = some z12 := by unfold World.cell?; rw [show wr.heap[(⟨W.heap.size + 1, 12, none⟩ : Addr).block]? = _ from hzz]; rfl
      have d13 : wr.cell? ⟨W.heap.size + 1, 13, none⟩ = some z13 := by unfold World.cell?; rw [show wr.heap[(⟨W.heap.size + 1, 13, none⟩ : Addr).block]? = _ from hzz]; rfl
      have hfr : ∀ j, wr.frozen? ⟨W.heap.size + 1, j, none⟩ = false := fun j => by unfold World.frozen?; rw [show wr.heap[(⟨W.heap.size + 1, j, none⟩ : Addr).block]? = _ from hzz]; rfl
      clear hev hit hB
      have hBe := put14_below (B := W.heap.size + 1) HB.out (Nat.le_succ _) (.int .i64 v'.kind) (.int .i64 v'.queue) (.int .i64 v'.n) (.int .i64 v'.aat) (.int .i64 v'.lack) (.string (S v'.topic)) (.string (S v'.group)) (.string (S v'.tag)) (.string (S v'.key)) (.string (S v'.body)) (.slice s'.ka v'.keys.length s'.kc) (.slice s'.ta v'.tags.length s'.tc) (.slice s'.pa v'.keep.length s'.pc) (.bool v'.sync)
      have hze := put14_heap hz hzz (.int .i64 v'.kind) (.int .i64 v'.queue) (.int .i64 v'.n) (.int .i64 v'.aat) (.int .i64 v'.lack) (.string (S v'.topic)) (.string (S v'.group)) (.string (S v'.tag)) (.string (S v'.key)) (.string (S v'.body)) (.slice s'.ka v'.keys.length s'.kc) (.slice s'.ta v'.tags.length s'.tc) (.slice s'.pa v'.keep.length s'.pc) (.bool v'.sync)
      have HBE := Lib.hid hBe
      have HZE := Lib.hid hze
      clear hBe hze hzz hz
      go_wp2_with fail
      clear c0 c1 c2 c3 c4 c5 c6 c7 c8 c9 c10 c11 c12 c13 d0 d1 d2 d3 d4 d5 d6 d7 d8 d9 d10 d11 d12 d13 hfr
      change bodyPost _ _ _ _ _ (put14 wr (W.heap.size + 1) (.int .i64 v'.kind) (.int .i64 v'.queue) (.int .i64 v'.n) (.int .i64 v'.aat) (.int .i64 v'.lack) (.string (S v'.topic)) (.string (S v'.group)) (.string (S v'.tag)) (.string (S v'.key)) (.string (S v'.body)) (.slice s'.ka v'.keys.length s'.kc) (.slice s'.ta v'.tags.length s'.tc) (.slice s'.pa v'.keep.length s'.pc) (.bool v'.sync))
      generalize put14 wr (W.heap.size + 1) (.int .i64 v'.kind) (.int .i64 v'.queue) (.int .i64 v'.n) (.int .i64 v'.aat) (.int .i64 v'.lack) (.string (S v'.topic)) (.string (S v'.group)) (.string (S v'.tag)) (.string (S v'.key)) (.string (S v'.body)) (.slice s'.ka v'.keys.length s'.kc) (.slice s'.ta v'.tags.length s'.tc) (.slice s'.pa v'.keep.length s'.pc) (.bool v'.sync) = w9 at *
      have hz9 := HZE.out
      have c0 : w9.cell? ⟨W.heap.size + 1, 0, none⟩ = some (.int .i64 v'.kind) := by unfold World.cell?; rw [show w9.heap[(⟨W.heap.size + 1, 0, none⟩ : Addr).block]? = _ from hz9]; rfl
      have c1 : w9.cell? ⟨W.heap.size + 1, 1, none⟩ = some (.int .i64 v'.queue) := by unfold World.cell?; rw [show w9.heap[(⟨W.heap.size + 1, 1, none⟩ : Addr).block]? = _ from hz9]; rfl
      have c2 : w9.cell? ⟨W.heap.size + 1, 2, none⟩ = some (.int .i64 v'.n) := by unfold World.cell?; rw [show w9.heap[(⟨W.heap.size + 1, 2, none⟩ : Addr).block]? = _ from hz9]; rfl
      have c3 : w9.cell? ⟨W.heap.size + 1, 3, none⟩ = some (.int .i64 v'.aat) := by unfold World.cell?; rw [show w9.heap[(⟨W.heap.size + 1, 3, none⟩ : Addr).block]? = _ from hz9]; rfl
      have c4 : w9.cell? ⟨W.heap.size + 1, 4, none⟩ = some (.int .i64 v'.lack) := by unfold World.cell?; rw [show w9.heap[(⟨W.heap.size + 1, 4, none⟩ : Addr).block]? = _ from hz9]; rfl
      have c5 : w9.cell? ⟨W.heap.size + 1, 5, none⟩ = some (.string (S v'.topic)) := by unfold World.cell?; rw [show w9.heap[(⟨W.heap.size + 1, 5, none⟩ : Addr).block]? = _ from hz9]; rfl
      have c6 : w9.cell? ⟨W.heap.size + 1, 6, none⟩ = some (.string (S v'.group)) := by unfold World.cell?; rw [show w9.heap[(⟨W.heap.size + 1, 6, none⟩ : Addr).block]? = _ from hz9]; rfl
      have c7 : w9.cell? ⟨W.heap.size + 1, 7, none⟩ = some (.string (S v'.tag)) := by unfold World.cell?; rw [show w9.heap[(⟨W.heap.size + 1, 7, none⟩ : Addr).block]? = _ from hz9]; rfl
      have c8 : w9.cell? ⟨W.heap.size + 1, 8, none⟩ = some (.string (S v'.key)) := by unfold World.cell?; rw [show w9.heap[(⟨W.heap.size + 1, 8, none⟩ : Addr).block]? = _ from hz9]; rfl
      have c9 : w9.cell? ⟨W.heap.size + 1, 9, none⟩ = some (.string (S v'.body)) := by unfold World.cell?; rw [show w9.heap[(⟨W.heap.size + 1, 9, none⟩ : Addr).block]? = _ from hz9]; rfl
      have c10 : w9.cell? ⟨W.heap.size + 1, 10, none⟩ = some (.slice s'.ka v'.keys.length s'.kc) := by unfold World.cell?; rw [show w9.heap[(⟨W.heap.size + 1, 10, none⟩ : Addr).block]? = _ from hz9]; rfl
      have c11 : w9.cell? ⟨W.heap.size + 1, 11, none⟩ = some (.slice s'.ta v'.tags.length s'.tc) := by unfold World.cell?; rw [show w9.heap[(⟨W.heap.size + 1, 11, none⟩ : Addr).block]? = _ from hz9]; rfl
      have c12 : w9.cell? ⟨W.heap.size + 1, 12, none⟩ = some (.slice s'.pa v'.keep.length s'.pc) := by unfold World.cell?; rw [show w9.heap[(⟨W.heap.size + 1, 12, none⟩ : Addr).block]? = _ from hz9]; rfl
      have c13 : w9.cell? ⟨W.heap.size + 1, 13, none⟩ = some (.bool v'.sync) := by unfold World.cell?; rw [show w9.heap[(⟨W.heap.size + 1, 13, none⟩ : Addr).block]? = _ from hz9]; rfl
      refine bodyPost_ret (v := .agg (v'.cells s')) ?_ rfl ⟨HRW.out.symm, HBE.out⟩
      clear hz9 HZE
      simp [results, Tryz.results22, go_sem, Ev.cells, c0, c1, c2, c3, c4, c5, c6, c7, c8, c9, c10, c11, c12, c13]
end Go.Proofs.YtadhkeboaapfcaaGreatDoor.EvW
namespace Go.Proofs.YtadhkeboaapfcaaGreatDoor.EvW
open Go.RowKit OctMath NameMath
set_option linter.unusedVariables false
set_option linter.unusedSimpArgs false

theorem join_any (a : Option Addr) (cap : Nat) (ts : List (List UInt8)) (sep : List UInt8) (hx : ts.length ≤ 1048576) (hcap : ts.length ≤ cap) (hlen : (Lib.join ts sep).length ≤ 140737488355328) (w : World) (hS : Strs w a (ts.map S)) :
    Calls Tryz.prog 24 #[.slice a ts.length cap, .string (S sep)] w fun e w' => e = .returned (.string (S (Lib.join ts sep))) ∧ Below w.heap.size w w' := by
  by_cases h0 : ts = []
  · subst h0
    refine (Tryz.strings_Join_none a cap (S sep) w).mono ?_
    rintro e w' ⟨rfl, rfl⟩
    exact ⟨by rfl, Below.refl _ _⟩
  · obtain ⟨b, off, rfl, hc0⟩ := hS 0 (by rw [List.length_map]; exact List.length_pos_iff.2 h0)
    have hm : (ts.map S).map (fun s : ByteArray => s.data.toList) = ts := by
      rw [List.map_map]
      conv => rhs; rw [← List.map_id ts]
      exact List.map_congr_left fun t _ => S_list t
    have hJ := Tryz.strings_Join b off cap (ts.map S) (S sep) w (fun j x hx => by
      obtain ⟨hj, rfl⟩ := List.getElem?_eq_some_iff.1 hx
      obtain ⟨b', off', h, hc⟩ := hS j hj
      cases h; exact hc) (cell_lt hc0) (by rw [List.length_map]; omega) (by rw [List.length_map]; exact hcap) (by rw [hm, S_list]; exact hlen)
    rw [hm, S_list, List.length_map] at hJ
    exact hJ

/-- a filter's text -/
def textL (ts : List (List UInt8)) : List UInt8 := if ts = [] then [42] else Lib.join ts [32, 124, 124, 32]
set_option maxHeartbeats 1600000 in
theorem text_any (base : Nat) (p : Value) (ts : List (List UInt8)) (hx : ts.length ≤ 1048576) (hlen : (Lib.join ts [32, 124, 124, 32]).length ≤ 140737488355328) (w : World) (h : TagW.FilterAt base w p ts) :
    Calls Tryz.prog 50 #[p] w fun e w' => e = .returned (.string (S (textL ts))) ∧ Below w.heap.size w w' := by
  obtain ⟨B, ad, cp, rfl, _, hc, hS, hcap⟩ := h
  have hJ := join_any ad cp ts [32, 124, 124, 32] hx hcap hlen w hS
  change Calls _ _ #[_, .string { data := #[32, 124, 124, 32] }] _ _ at hJ
  by_cases h0 : ts.length = 0
  · have hn : ts = [] := List.eq_nil_of_length_eq_zero h0
    have hb : ((ts.length : Int) == 0) = true := beq_iff_eq.2 (by omega)
    have HR : Hid (textL ts = [42]) := by show _ = _; unfold textL; rw [if_pos hn]
    clear hJ hn h0
    go_enter Tryz.func50, Tryz.ntmps50
    go_wp2_with fail
    go_ret
    rw [HR.out]
    exact ⟨rfl, Below.refl _ _⟩
  · have hb : ((ts.length : Int) == 0) = false := beq_eq_false_iff_ne.2 (by omega)
    have HR : Hid (textL ts = Lib.join ts [32, 124, 124, 32]) := by show _ = _; unfold textL; rw [if_neg (fun e => h0 (by rw [e]; rfl))]
    have HJ := Lib.hid hJ
    clear hJ h0
    go_enter Tryz.func50, Tryz.ntmps50
    go_wp2_with fail
    refine HJ.out.mono ?_
    rintro e w' ⟨rfl, hb⟩
    go_wp2_with fail
    go_ret
    rw [HR.out]
    exact ⟨rfl, hb⟩
end Go.Proofs.YtadhkeboaapfcaaGreatDoor.EvW
