/- the plain law: an event's line is the document's. -/
import Derived.Test.YtadhkeboaapfcaaGreatDoorReadBack
import Derived.Test.YtadhkeboaapfcaaGreatDoorRefM
import Derived.Test.YtadhkeboaapfcaaGreatDoorSame
namespace Go.Proofs.YtadhkeboaapfcaaGreatDoor.EvW
open Go.RowKit OctMath NameMath HexMath
set_option linter.unusedVariables false
set_option linter.unusedSimpArgs false
set_option maxRecDepth 100000

def syncL (v : Ev) : List UInt8 := if v.sync then [32, 83, 89, 78, 67] else []
def sendL (v : Ev) : List UInt8 := v.topic ++ [32] ++ Lib.itoa v.queue ++ [32] ++ (if v.tag.isEmpty then [46] else v.tag) ++ [32] ++ keysL v.keys ++ [32] ++ hexL v.body ++ syncL v
def groupT (v : Ev) : List UInt8 := v.group ++ [32] ++ v.topic ++ [32] ++ Lib.itoa v.queue ++ [32] ++ Lib.itoa v.aat
/-- each kind's line -/
def lineS (v : Ev) (k : Nat) : List UInt8 := match k with
  | 1 => [67, 82, 69, 65, 84, 69, 32] ++ v.topic ++ [32] ++ Lib.itoa v.n
  | 2 => [83, 69, 78, 68, 32] ++ sendL v
  | 3 => [76, 65, 84, 69, 82, 32] ++ Lib.itoa v.n ++ [32] ++ sendL v
  | 4 => [67, 65, 78, 67, 69, 76, 32] ++ Lib.itoa v.n
  | 5 => [80, 85, 76, 76, 32] ++ v.topic ++ [32] ++ Lib.itoa v.queue ++ [32] ++ Lib.itoa v.aat ++ [32] ++ Lib.itoa v.n ++ [32] ++ textL v.tags
  | 6 => [67, 79, 77, 77, 73, 84, 32] ++ groupT v
  | 7 => [78, 65, 67, 75, 32] ++ groupT v ++ syncL v
  | 8 => [65, 67, 75, 32] ++ groupT v
  | 9 => [75, 69, 89, 32] ++ v.topic ++ [32] ++ hexL v.key ++ [32] ++ Lib.itoa v.n
  | 10 => [83, 84, 65, 84, 85, 83, 32] ++ Lib.itoa v.n
  | 11 => [80, 73, 67, 75, 32] ++ Lib.itoa v.n
  | 12 => [80, 65, 83, 83, 32] ++ Lib.itoa v.n
  | 13 => [70, 85, 83, 69, 32] ++ Lib.itoa v.n
  | 14 => [67, 82, 65, 83, 72, 32] ++ bitsL v.keep ++ [32] ++ Lib.itoa v.lack ++ [32] ++ hexL v.body
  | 15 => [83, 69, 84, 84, 76, 69]
  | _ => []
/-- what each kind's line tells -/
def wantE (v : Ev) (k : Nat) : Ev := match k with
  | 1 => ⟨1, 0, v.n, 0, 0, v.topic, [], [], [], [], [], [], [], false⟩
  | 2 => ⟨2, v.queue, 0, 0, 0, v.topic, [], v.tag, [], v.body, v.keys, [], [], v.sync⟩
  | 3 => ⟨3, v.queue, v.n, 0, 0, v.topic, [], v.tag, [], v.body, v.keys, [], [], v.sync⟩
  | 4 => ⟨4, 0, v.n, 0, 0, [], [], [], [], [], [], [], [], false⟩
  | 5 => ⟨5, v.queue, v.n, v.aat, 0, v.topic, [], [], [], [], [], v.tags, [], false⟩
  | 6 => ⟨6, v.queue, 0, v.aat, 0, v.topic, v.group, [], [], [], [], [], [], false⟩
  | 7 => ⟨7, v.queue, 0, v.aat, 0, v.topic, v.group, [], [], [], [], [], [], v.sync⟩
  | 8 => ⟨8, v.queue, 0, v.aat, 0, v.topic, v.group, [], [], [], [], [], [], false⟩
  | 9 => ⟨9, 0, v.n, 0, 0, v.topic, [], [], v.key, [], [], [], [], false⟩
  | 10 => ⟨10, 0, v.n, 0, 0, [], [], [], [], [], [], [], [], false⟩
  | 11 => ⟨11, 0, v.n, 0, 0, [], [], [], [], [], [], [], [], false⟩
  | 12 => ⟨12, 0, v.n, 0, 0, [], [], [], [], [], [], [], [], false⟩
  | 13 => ⟨13, 0, v.n, 0, 0, [], [], [], [], [], [], [], [], false⟩
  | 14 => ⟨14, 0, 0, 0, v.lack, [], [], [], [], v.body, [], [], v.keep, false⟩
  | 15 => ⟨15, 0, 0, 0, 0, [], [], [], [], [], [], [], [], false⟩
  | _ => ev0 v.kind
def topicK (k : Nat) : Bool := decide (1 ≤ k) && decide (k ≤ 9) && !decide (k = 4)
def groupK (k : Nat) : Bool := decide (6 ≤ k) && decide (k ≤ 8)
def guardB (v : Ev) : Bool := !([v.queue, v.n, v.aat, v.lack].any badN) && (v.tag.isEmpty || plainL v.tag) && filtB v.tags && decide (v.body.length ≤ 300) && decide (v.key.length ≤ 300) && decide (v.keys.length ≤ 10) && decide (v.keep.length ≤ 100)
def condB (v : Ev) (k : Nat) : Bool := sameE v (wantE v k) && (!topicK k || topicL v.topic) && (!groupK k || groupL v.group)
/-- an event's line, as the document says -/
def lineL (v : Ev) : List UInt8 :=
  if v.kind < 1 ∨ 15 < v.kind then [] else
  if guardB v && !v.keys.any badK then (if condB v v.kind.toNat then lineS v v.kind.toNat else []) else []
theorem empty_iff (u : Ev) : emptyB u = true ↔ (u.queue = 0 ∧ u.n = 0 ∧ u.aat = 0 ∧ u.lack = 0 ∧ u.topic = [] ∧ u.group = [] ∧ u.tag = [] ∧ u.key = [] ∧ u.body = [] ∧ u.keys = [] ∧ u.tags = [] ∧ u.keep = [] ∧ u.sync = false) := by
  refine ⟨empty_parts, ?_⟩
  rintro ⟨h1, h2, h3, h4, h5, h6, h7, h8, h9, h10, h11, h12, h13⟩
  unfold emptyB
  rw [h1, h2, h3, h4, h5, h6, h7, h8, h9, h10, h11, h12, h13]
  rfl
theorem kinds (k : Nat) (h1 : 1 ≤ k) (h2 : k ≤ 15) : k = 1 ∨ k = 2 ∨ k = 3 ∨ k = 4 ∨ k = 5 ∨ k = 6 ∨ k = 7 ∨ k = 8 ∨ k = 9 ∨ k = 10 ∨ k = 11 ∨ k = 12 ∨ k = 13 ∨ k = 14 ∨ k = 15 := by omega
theorem wipe_want (v : Ev) (k : Nat) (h1 : 1 ≤ k) (h2 : k ≤ 15) (hk : v.kind = k) : emptyB (wipeV v (verbL k)) = sameE v (wantE v k) := by
  rw [Bool.eq_iff_iff, same_true]
  rcases kinds k h1 h2 with rfl | rfl | rfl | rfl | rfl | rfl | rfl | rfl | rfl | rfl | rfl | rfl | rfl | rfl | rfl
  · constructor
    · intro h
      obtain ⟨z1, z2, z3, z4, z5, z6, z7, z8, z9, z10, z11, z12, z13⟩ := (empty_iff ({ v with topic := [], n := 0 } : Ev)).1 h
      show v = ⟨1, 0, v.n, 0, 0, v.topic, [], [], [], [], [], [], [], false⟩
      cases v; simp only at *; subst hk; subst z1; subst z3; subst z4; subst z6; subst z7; subst z8; subst z9; subst z10; subst z11; subst z12; subst z13; rfl
    · intro h
      exact (empty_iff ({ v with topic := [], n := 0 } : Ev)).2 ⟨(congrArg Ev.queue h), rfl, (congrArg Ev.aat h), (congrArg Ev.lack h), rfl, (congrArg Ev.group h), (congrArg Ev.tag h), (congrArg Ev.key h), (congrArg Ev.body h), (congrArg Ev.keys h), (congrArg Ev.tags h), (congrArg Ev.keep h), (congrArg Ev.sync h)⟩
  · constructor
    · intro h
      obtain ⟨z1, z2, z3, z4, z5, z6, z7, z8, z9, z10, z11, z12, z13⟩ := (empty_iff ({ v with topic := [], queue := 0, tag := [], keys := [], body := [], sync := false } : Ev)).1 h
      show v = ⟨2, v.queue, 0, 0, 0, v.topic, [], v.tag, [], v.body, v.keys, [], [], v.sync⟩
      cases v; simp only at *; subst hk; subst z2; subst z3; subst z4; subst z6; subst z8; subst z11; subst z12; rfl
    · intro h
      exact (empty_iff ({ v with topic := [], queue := 0, tag := [], keys := [], body := [], sync := false } : Ev)).2 ⟨rfl, (congrArg Ev.n h), (congrArg Ev.aat h), (congrArg Ev.lack h), rfl, (congrArg Ev.group h), rfl, (congrArg Ev.key h), rfl, rfl, (congrArg Ev.tags h), (congrArg Ev.keep h), rfl⟩
  · constructor
    · intro h
      obtain ⟨z1, z2, z3, z4, z5, z6, z7, z8, z9, z10, z11, z12, z13⟩ := (empty_iff ({ v with n := 0, topic := [], queue := 0, tag := [], keys := [], body := [], sync := false } : Ev)).1 h
      show v = ⟨3, v.queue, v.n, 0, 0, v.topic, [], v.tag, [], v.body, v.keys, [], [], v.sync⟩
      cases v; simp only at *; subst hk; subst z3; subst z4; subst z6; subst z8; subst z11; subst z12; rfl
    · intro h
      exact (empty_iff ({ v with n := 0, topic := [], queue := 0, tag := [], keys := [], body := [], sync := false } : Ev)).2 ⟨rfl, rfl, (congrArg Ev.aat h), (congrArg Ev.lack h), rfl, (congrArg Ev.group h), rfl, (congrArg Ev.key h), rfl, rfl, (congrArg Ev.tags h), (congrArg Ev.keep h), rfl⟩
  · constructor
    · intro h
      obtain ⟨z1, z2, z3, z4, z5, z6, z7, z8, z9, z10, z11, z12, z13⟩ := (empty_iff ({ v with n := 0 } : Ev)).1 h
      show v = ⟨4, 0, v.n, 0, 0, [], [], [], [], [], [], [], [], false⟩
      cases v; simp only at *; subst hk; subst z1; subst z3; subst z4; subst z5; subst z6; subst z7; subst z8; subst z9; subst z10; subst z11; subst z12; subst z13; rfl
    · intro h
      exact (empty_iff ({ v with n := 0 } : Ev)).2 ⟨(congrArg Ev.queue h), rfl, (congrArg Ev.aat h), (congrArg Ev.lack h), (congrArg Ev.topic h), (congrArg Ev.group h), (congrArg Ev.tag h), (congrArg Ev.key h), (congrArg Ev.body h), (congrArg Ev.keys h), (congrArg Ev.tags h), (congrArg Ev.keep h), (congrArg Ev.sync h)⟩
  · constructor
    · intro h
      obtain ⟨z1, z2, z3, z4, z5, z6, z7, z8, z9, z10, z11, z12, z13⟩ := (empty_iff ({ v with topic := [], queue := 0, aat := 0, n := 0, tags := [] } : Ev)).1 h
      show v = ⟨5, v.queue, v.n, v.aat, 0, v.topic, [], [], [], [], [], v.tags, [], false⟩
      cases v; simp only at *; subst hk; subst z4; subst z6; subst z7; subst z8; subst z9; subst z10; subst z12; subst z13; rfl
    · intro h
      exact (empty_iff ({ v with topic := [], queue := 0, aat := 0, n := 0, tags := [] } : Ev)).2 ⟨rfl, rfl, rfl, (congrArg Ev.lack h), rfl, (congrArg Ev.group h), (congrArg Ev.tag h), (congrArg Ev.key h), (congrArg Ev.body h), (congrArg Ev.keys h), rfl, (congrArg Ev.keep h), (congrArg Ev.sync h)⟩
  · constructor
    · intro h
      obtain ⟨z1, z2, z3, z4, z5, z6, z7, z8, z9, z10, z11, z12, z13⟩ := (empty_iff ({ v with group := [], topic := [], queue := 0, aat := 0 } : Ev)).1 h
      show v = ⟨6, v.queue, 0, v.aat, 0, v.topic, v.group, [], [], [], [], [], [], false⟩
      cases v; simp only at *; subst hk; subst z2; subst z4; subst z7; subst z8; subst z9; subst z10; subst z11; subst z12; subst z13; rfl
    · intro h
      exact (empty_iff ({ v with group := [], topic := [], queue := 0, aat := 0 } : Ev)).2 ⟨rfl, (congrArg Ev.n h), rfl, (congrArg Ev.lack h), rfl, rfl, (congrArg Ev.tag h), (congrArg Ev.key h), (congrArg Ev.body h), (congrArg Ev.keys h), (congrArg Ev.tags h), (congrArg Ev.keep h), (congrArg Ev.sync h)⟩
  · constructor
    · intro h
      obtain ⟨z1, z2, z3, z4, z5, z6, z7, z8, z9, z10, z11, z12, z13⟩ := (empty_iff ({ v with group := [], topic := [], queue := 0, aat := 0, sync := false } : Ev)).1 h
      show v = ⟨7, v.queue, 0, v.aat, 0, v.topic, v.group, [], [], [], [], [], [], v.sync⟩
      cases v; simp only at *; subst hk; subst z2; subst z4; subst z7; subst z8; subst z9; subst z10; subst z11; subst z12; rfl
    · intro h
      exact (empty_iff ({ v with group := [], topic := [], queue := 0, aat := 0, sync := false } : Ev)).2 ⟨rfl, (congrArg Ev.n h), rfl, (congrArg Ev.lack h), rfl, rfl, (congrArg Ev.tag h), (congrArg Ev.key h), (congrArg Ev.body h), (congrArg Ev.keys h), (congrArg Ev.tags h), (congrArg Ev.keep h), rfl⟩
  · constructor
    · intro h
      obtain ⟨z1, z2, z3, z4, z5, z6, z7, z8, z9, z10, z11, z12, z13⟩ := (empty_iff ({ v with group := [], topic := [], queue := 0, aat := 0 } : Ev)).1 h
      show v = ⟨8, v.queue, 0, v.aat, 0, v.topic, v.group, [], [], [], [], [], [], false⟩
      cases v; simp only at *; subst hk; subst z2; subst z4; subst z7; subst z8; subst z9; subst z10; subst z11; subst z12; subst z13; rfl
    · intro h
      exact (empty_iff ({ v with group := [], topic := [], queue := 0, aat := 0 } : Ev)).2 ⟨rfl, (congrArg Ev.n h), rfl, (congrArg Ev.lack h), rfl, rfl, (congrArg Ev.tag h), (congrArg Ev.key h), (congrArg Ev.body h), (congrArg Ev.keys h), (congrArg Ev.tags h), (congrArg Ev.keep h), (congrArg Ev.sync h)⟩
  · constructor
    · intro h
      obtain ⟨z1, z2, z3, z4, z5, z6, z7, z8, z9, z10, z11, z12, z13⟩ := (empty_iff ({ v with topic := [], key := [], n := 0 } : Ev)).1 h
      show v = ⟨9, 0, v.n, 0, 0, v.topic, [], [], v.key, [], [], [], [], false⟩
      cases v; simp only at *; subst hk; subst z1; subst z3; subst z4; subst z6; subst z7; subst z9; subst z10; subst z11; subst z12; subst z13; rfl
    · intro h
      exact (empty_iff ({ v with topic := [], key := [], n := 0 } : Ev)).2 ⟨(congrArg Ev.queue h), rfl, (congrArg Ev.aat h), (congrArg Ev.lack h), rfl, (congrArg Ev.group h), (congrArg Ev.tag h), rfl, (congrArg Ev.body h), (congrArg Ev.keys h), (congrArg Ev.tags h), (congrArg Ev.keep h), (congrArg Ev.sync h)⟩
  · constructor
    · intro h
      obtain ⟨z1, z2, z3, z4, z5, z6, z7, z8, z9, z10, z11, z12, z13⟩ := (empty_iff ({ v with n := 0 } : Ev)).1 h
      show v = ⟨10, 0, v.n, 0, 0, [], [], [], [], [], [], [], [], false⟩
      cases v; simp only at *; subst hk; subst z1; subst z3; subst z4; subst z5; subst z6; subst z7; subst z8; subst z9; subst z10; subst z11; subst z12; subst z13; rfl
    · intro h
      exact (empty_iff ({ v with n := 0 } : Ev)).2 ⟨(congrArg Ev.queue h), rfl, (congrArg Ev.aat h), (congrArg Ev.lack h), (congrArg Ev.topic h), (congrArg Ev.group h), (congrArg Ev.tag h), (congrArg Ev.key h), (congrArg Ev.body h), (congrArg Ev.keys h), (congrArg Ev.tags h), (congrArg Ev.keep h), (congrArg Ev.sync h)⟩
  · constructor
    · intro h
      obtain ⟨z1, z2, z3, z4, z5, z6, z7, z8, z9, z10, z11, z12, z13⟩ := (empty_iff ({ v with n := 0 } : Ev)).1 h
      show v = ⟨11, 0, v.n, 0, 0, [], [], [], [], [], [], [], [], false⟩
      cases v; simp only at *; subst hk; subst z1; subst z3; subst z4; subst z5; subst z6; subst z7; subst z8; subst z9; subst z10; subst z11; subst z12; subst z13; rfl
    · intro h
      exact (empty_iff ({ v with n := 0 } : Ev)).2 ⟨(congrArg Ev.queue h), rfl, (congrArg Ev.aat h), (congrArg Ev.lack h), (congrArg Ev.topic h), (congrArg Ev.group h), (congrArg Ev.tag h), (congrArg Ev.key h), (congrArg Ev.body h), (congrArg Ev.keys h), (congrArg Ev.tags h), (congrArg Ev.keep h), (congrArg Ev.sync h)⟩
  · constructor
    · intro h
      obtain ⟨z1, z2, z3, z4, z5, z6, z7, z8, z9, z10, z11, z12, z13⟩ := (empty_iff ({ v with n := 0 } : Ev)).1 h
      show v = ⟨12, 0, v.n, 0, 0, [], [], [], [], [], [], [], [], false⟩
      cases v; simp only at *; subst hk; subst z1; subst z3; subst z4; subst z5; subst z6; subst z7; subst z8; subst z9; subst z10; subst z11; subst z12; subst z13; rfl
    · intro h
      exact (empty_iff ({ v with n := 0 } : Ev)).2 ⟨(congrArg Ev.queue h), rfl, (congrArg Ev.aat h), (congrArg Ev.lack h), (congrArg Ev.topic h), (congrArg Ev.group h), (congrArg Ev.tag h), (congrArg Ev.key h), (congrArg Ev.body h), (congrArg Ev.keys h), (congrArg Ev.tags h), (congrArg Ev.keep h), (congrArg Ev.sync h)⟩
  · constructor
    · intro h
      obtain ⟨z1, z2, z3, z4, z5, z6, z7, z8, z9, z10, z11, z12, z13⟩ := (empty_iff ({ v with n := 0 } : Ev)).1 h
      show v = ⟨13, 0, v.n, 0, 0, [], [], [], [], [], [], [], [], false⟩
      cases v; simp only at *; subst hk; subst z1; subst z3; subst z4; subst z5; subst z6; subst z7; subst z8; subst z9; subst z10; subst z11; subst z12; subst z13; rfl
    · intro h
      exact (empty_iff ({ v with n := 0 } : Ev)).2 ⟨(congrArg Ev.queue h), rfl, (congrArg Ev.aat h), (congrArg Ev.lack h), (congrArg Ev.topic h), (congrArg Ev.group h), (congrArg Ev.tag h), (congrArg Ev.key h), (congrArg Ev.body h), (congrArg Ev.keys h), (congrArg Ev.tags h), (congrArg Ev.keep h), (congrArg Ev.sync h)⟩
  · constructor
    · intro h
      obtain ⟨z1, z2, z3, z4, z5, z6, z7, z8, z9, z10, z11, z12, z13⟩ := (empty_iff ({ v with keep := [], lack := 0, body := [] } : Ev)).1 h
      show v = ⟨14, 0, 0, 0, v.lack, [], [], [], [], v.body, [], [], v.keep, false⟩
      cases v; simp only at *; subst hk; subst z1; subst z2; subst z3; subst z5; subst z6; subst z7; subst z8; subst z10; subst z11; subst z13; rfl
    · intro h
      exact (empty_iff ({ v with keep := [], lack := 0, body := [] } : Ev)).2 ⟨(congrArg Ev.queue h), (congrArg Ev.n h), (congrArg Ev.aat h), rfl, (congrArg Ev.topic h), (congrArg Ev.group h), (congrArg Ev.tag h), (congrArg Ev.key h), rfl, (congrArg Ev.keys h), (congrArg Ev.tags h), rfl, (congrArg Ev.sync h)⟩
  · constructor
    · intro h
      obtain ⟨z1, z2, z3, z4, z5, z6, z7, z8, z9, z10, z11, z12, z13⟩ := (empty_iff v).1 h
      show v = ⟨15, 0, 0, 0, 0, [], [], [], [], [], [], [], [], false⟩
      cases v; simp only at *; subst hk; subst z1; subst z2; subst z3; subst z4; subst z5; subst z6; subst z7; subst z8; subst z9; subst z10; subst z11; subst z12; subst z13; rfl
    · intro h
      exact (empty_iff v).2 ⟨(congrArg Ev.queue h), (congrArg Ev.n h), (congrArg Ev.aat h), (congrArg Ev.lack h), (congrArg Ev.topic h), (congrArg Ev.group h), (congrArg Ev.tag h), (congrArg Ev.key h), (congrArg Ev.body h), (congrArg Ev.keys h), (congrArg Ev.tags h), (congrArg Ev.keep h), (congrArg Ev.sync h)⟩
theorem has_topic (k : Nat) (h1 : 1 ≤ k) (h2 : k ≤ 15) : hasB (verbL k) 84 = topicK k ∧ hasB (verbL k) 71 = groupK k := by
  rcases kinds k h1 h2 with rfl | rfl | rfl | rfl | rfl | rfl | rfl | rfl | rfl | rfl | rfl | rfl | rfl | rfl | rfl <;> decide
theorem right_guard (v : Ev) (k : Nat) (h1 : 1 ≤ k) (h2 : k ≤ 15) (hk : v.kind = k) : (rightB v (verbL k) && emptyB (wipeV v (verbL k))) = ((guardB v && !v.keys.any badK) && condB v k) := by
  unfold rightB guardB condB
  rw [wipe_want v k h1 h2 hk, (has_topic k h1 h2).1, (has_topic k h1 h2).2, new_filt]
  generalize (!([v.queue, v.n, v.aat, v.lack].any badN)) = b1
  generalize (v.tag.isEmpty || plainL v.tag) = b2
  generalize filtB v.tags = b3
  generalize (!topicK k || topicL v.topic) = b4
  generalize (!groupK k || groupL v.group) = b5
  generalize decide (v.body.length ≤ 300) = b6
  generalize decide (v.key.length ≤ 300) = b7
  generalize decide (v.keys.length ≤ 10) = b8
  generalize decide (v.keep.length ≤ 100) = b9
  generalize (!v.keys.any badK) = b10
  generalize sameE v (wantE v k) = b11
  cases b1 <;> cases b2 <;> cases b3 <;> cases b4 <;> cases b5 <;> cases b6 <;> cases b7 <;> cases b8 <;> cases b9 <;> cases b10 <;> cases b11 <;> rfl
theorem join_nil (sep : List UInt8) : Lib.joinTail sep [] = [] := rfl
theorem line_text (v : Ev) (k : Nat) (hk : Told v k) : Lib.join (verbN k :: wordsL v k) [32] = lineS v k := by
  have hp := right_parts hk.right
  have hm := right_more hk.right
  have hg : v.tag = [] ∨ plainL v.tag = true := hp.2.2.2.2.2.2.2.2.2
  have hts : ∀ t ∈ v.tags, plainL t = true := hp.2.2.2.2.2.2.2.1
  have hT := hm.1
  have hG := hm.2.1
  have hl1 := hk.lo
  have hl2 := hk.hi
  clear hp hm hk
  rcases kinds k hl1 hl2 with rfl | rfl | rfl | rfl | rfl | rfl | rfl | rfl | rfl | rfl | rfl | rfl | rfl | rfl | rfl
  · replace hT := hT (by decide)
    have hne : ∀ w ∈ ([v.topic, Lib.itoa v.n] : List (List UInt8)), w ≠ [] := fun w hw => by
      simp only [List.mem_cons, List.not_mem_nil, or_false] at hw
      rcases hw with rfl | rfl
      · exact topic_ne hT
      · exact itoa_ne _
    have hw : wordsL v 1 = [v.topic, Lib.itoa v.n] := filter_ne _ hne
    rw [hw]
    clear hne hw hT hG hts hg
    simp [Lib.join_cons, join_tail_cons, join_nil, verbN, lineS, sendL, groupT, syncL, List.append_assoc]
  · replace hT := hT (by decide)
    have hne : ∀ w ∈ ([v.topic, Lib.itoa v.queue, (if v.tag.isEmpty then [46] else v.tag), keysL v.keys, hexL v.body] : List (List UInt8)), w ≠ [] := fun w hw => by
      simp only [List.mem_cons, List.not_mem_nil, or_false] at hw
      rcases hw with rfl | rfl | rfl | rfl | rfl
      · exact topic_ne hT
      · exact itoa_ne _
      · exact tagw_ne v.tag
      · exact keys_ne _
      · exact hexL_ne _
    cases hs : v.sync
    · have hw : wordsL v 2 = [v.topic, Lib.itoa v.queue, (if v.tag.isEmpty then [46] else v.tag), keysL v.keys, hexL v.body] := by
        show (([v.topic, Lib.itoa v.queue, (if v.tag.isEmpty then [46] else v.tag), keysL v.keys, hexL v.body] ++ [if v.sync then [83, 89, 78, 67] else []] : List (List UInt8))).filter (fun x => !x.isEmpty) = _
        rw [List.filter_append, filter_ne _ hne, hs]; rfl
      rw [hw]
      clear hne hw hT hG hts hg
      simp [Lib.join_cons, join_tail_cons, join_nil, verbN, lineS, sendL, groupT, syncL, List.append_assoc, hs]
    · have hw : wordsL v 2 = [v.topic, Lib.itoa v.queue, (if v.tag.isEmpty then [46] else v.tag), keysL v.keys, hexL v.body] ++ [[83, 89, 78, 67]] := by
        show (([v.topic, Lib.itoa v.queue, (if v.tag.isEmpty then [46] else v.tag), keysL v.keys, hexL v.body] ++ [if v.sync then [83, 89, 78, 67] else []] : List (List UInt8))).filter (fun x => !x.isEmpty) = _
        rw [List.filter_append, filter_ne _ hne, hs]; rfl
      rw [hw]
      clear hne hw hT hG hts hg
      simp [Lib.join_cons, join_tail_cons, join_nil, verbN, lineS, sendL, groupT, syncL, List.append_assoc, hs]
  · replace hT := hT (by decide)
    have hne : ∀ w ∈ ([Lib.itoa v.n, v.topic, Lib.itoa v.queue, (if v.tag.isEmpty then [46] else v.tag), keysL v.keys, hexL v.body] : List (List UInt8)), w ≠ [] := fun w hw => by
      simp only [List.mem_cons, List.not_mem_nil, or_false] at hw
      rcases hw with rfl | rfl | rfl | rfl | rfl | rfl
      · exact itoa_ne _
      · exact topic_ne hT
      · exact itoa_ne _
      · exact tagw_ne v.tag
      · exact keys_ne _
      · exact hexL_ne _
    cases hs : v.sync
    · have hw : wordsL v 3 = [Lib.itoa v.n, v.topic, Lib.itoa v.queue, (if v.tag.isEmpty then [46] else v.tag), keysL v.keys, hexL v.body] := by
        show (([Lib.itoa v.n, v.topic, Lib.itoa v.queue, (if v.tag.isEmpty then [46] else v.tag), keysL v.keys, hexL v.body] ++ [if v.sync then [83, 89, 78, 67] else []] : List (List UInt8))).filter (fun x => !x.isEmpty) = _
        rw [List.filter_append, filter_ne _ hne, hs]; rfl
      rw [hw]
      clear hne hw hT hG hts hg
      simp [Lib.join_cons, join_tail_cons, join_nil, verbN, lineS, sendL, groupT, syncL, List.append_assoc, hs]
    · have hw : wordsL v 3 = [Lib.itoa v.n, v.topic, Lib.itoa v.queue, (if v.tag.isEmpty then [46] else v.tag), keysL v.keys, hexL v.body] ++ [[83, 89, 78, 67]] := by
        show (([Lib.itoa v.n, v.topic, Lib.itoa v.queue, (if v.tag.isEmpty then [46] else v.tag), keysL v.keys, hexL v.body] ++ [if v.sync then [83, 89, 78, 67] else []] : List (List UInt8))).filter (fun x => !x.isEmpty) = _
        rw [List.filter_append, filter_ne _ hne, hs]; rfl
      rw [hw]
      clear hne hw hT hG hts hg
      simp [Lib.join_cons, join_tail_cons, join_nil, verbN, lineS, sendL, groupT, syncL, List.append_assoc, hs]
  · have hne : ∀ w ∈ ([Lib.itoa v.n] : List (List UInt8)), w ≠ [] := fun w hw => by
      simp only [List.mem_cons, List.not_mem_nil, or_false] at hw
      rcases hw with rfl
      · exact itoa_ne _
    have hw : wordsL v 4 = [Lib.itoa v.n] := filter_ne _ hne
    rw [hw]
    clear hne hw hT hG hts hg
    simp [Lib.join_cons, join_tail_cons, join_nil, verbN, lineS, sendL, groupT, syncL, List.append_assoc]
  · replace hT := hT (by decide)
    have hne : ∀ w ∈ ([v.topic, Lib.itoa v.queue, Lib.itoa v.aat, Lib.itoa v.n] : List (List UInt8)), w ≠ [] := fun w hw => by
      simp only [List.mem_cons, List.not_mem_nil, or_false] at hw
      rcases hw with rfl | rfl | rfl | rfl
      · exact topic_ne hT
      · exact itoa_ne _
      · exact itoa_ne _
      · exact itoa_ne _
    have hw : wordsL v 5 = [v.topic, Lib.itoa v.queue, Lib.itoa v.aat, Lib.itoa v.n] ++ [textL v.tags] := by
      show (([v.topic, Lib.itoa v.queue, Lib.itoa v.aat, Lib.itoa v.n] ++ [textL v.tags] : List (List UInt8))).filter (fun x => !x.isEmpty) = _
      exact filter_ne _ (fun w hw => (List.mem_append.1 hw).elim (hne w) (fun h => by rw [List.mem_singleton.1 h]; exact text_ne hts))
    rw [hw]
    clear hne hw hT hG hts hg
    simp [Lib.join_cons, join_tail_cons, join_nil, verbN, lineS, sendL, groupT, syncL, List.append_assoc]
  · replace hT := hT (by decide)
    replace hG := hG (by decide)
    have hne : ∀ w ∈ ([v.group, v.topic, Lib.itoa v.queue, Lib.itoa v.aat] : List (List UInt8)), w ≠ [] := fun w hw => by
      simp only [List.mem_cons, List.not_mem_nil, or_false] at hw
      rcases hw with rfl | rfl | rfl | rfl
      · exact plain_ne (group_plain hG)
      · exact topic_ne hT
      · exact itoa_ne _
      · exact itoa_ne _
    have hw : wordsL v 6 = [v.group, v.topic, Lib.itoa v.queue, Lib.itoa v.aat] := filter_ne _ hne
    rw [hw]
    clear hne hw hT hG hts hg
    simp [Lib.join_cons, join_tail_cons, join_nil, verbN, lineS, sendL, groupT, syncL, List.append_assoc]
  · replace hT := hT (by decide)
    replace hG := hG (by decide)
    have hne : ∀ w ∈ ([v.group, v.topic, Lib.itoa v.queue, Lib.itoa v.aat] : List (List UInt8)), w ≠ [] := fun w hw => by
      simp only [List.mem_cons, List.not_mem_nil, or_false] at hw
      rcases hw with rfl | rfl | rfl | rfl
      · exact plain_ne (group_plain hG)
      · exact topic_ne hT
      · exact itoa_ne _
      · exact itoa_ne _
    cases hs : v.sync
    · have hw : wordsL v 7 = [v.group, v.topic, Lib.itoa v.queue, Lib.itoa v.aat] := by
        show (([v.group, v.topic, Lib.itoa v.queue, Lib.itoa v.aat] ++ [if v.sync then [83, 89, 78, 67] else []] : List (List UInt8))).filter (fun x => !x.isEmpty) = _
        rw [List.filter_append, filter_ne _ hne, hs]; rfl
      rw [hw]
      clear hne hw hT hG hts hg
      simp [Lib.join_cons, join_tail_cons, join_nil, verbN, lineS, sendL, groupT, syncL, List.append_assoc, hs]
    · have hw : wordsL v 7 = [v.group, v.topic, Lib.itoa v.queue, Lib.itoa v.aat] ++ [[83, 89, 78, 67]] := by
        show (([v.group, v.topic, Lib.itoa v.queue, Lib.itoa v.aat] ++ [if v.sync then [83, 89, 78, 67] else []] : List (List UInt8))).filter (fun x => !x.isEmpty) = _
        rw [List.filter_append, filter_ne _ hne, hs]; rfl
      rw [hw]
      clear hne hw hT hG hts hg
      simp [Lib.join_cons, join_tail_cons, join_nil, verbN, lineS, sendL, groupT, syncL, List.append_assoc, hs]
  · replace hT := hT (by decide)
    replace hG := hG (by decide)
    have hne : ∀ w ∈ ([v.group, v.topic, Lib.itoa v.queue, Lib.itoa v.aat] : List (List UInt8)), w ≠ [] := fun w hw => by
      simp only [List.mem_cons, List.not_mem_nil, or_false] at hw
      rcases hw with rfl | rfl | rfl | rfl
      · exact plain_ne (group_plain hG)
      · exact topic_ne hT
      · exact itoa_ne _
      · exact itoa_ne _
    have hw : wordsL v 8 = [v.group, v.topic, Lib.itoa v.queue, Lib.itoa v.aat] := filter_ne _ hne
    rw [hw]
    clear hne hw hT hG hts hg
    simp [Lib.join_cons, join_tail_cons, join_nil, verbN, lineS, sendL, groupT, syncL, List.append_assoc]
  · replace hT := hT (by decide)
    have hne : ∀ w ∈ ([v.topic, hexL v.key, Lib.itoa v.n] : List (List UInt8)), w ≠ [] := fun w hw => by
      simp only [List.mem_cons, List.not_mem_nil, or_false] at hw
      rcases hw with rfl | rfl | rfl
      · exact topic_ne hT
      · exact hexL_ne _
      · exact itoa_ne _
    have hw : wordsL v 9 = [v.topic, hexL v.key, Lib.itoa v.n] := filter_ne _ hne
    rw [hw]
    clear hne hw hT hG hts hg
    simp [Lib.join_cons, join_tail_cons, join_nil, verbN, lineS, sendL, groupT, syncL, List.append_assoc]
  · have hne : ∀ w ∈ ([Lib.itoa v.n] : List (List UInt8)), w ≠ [] := fun w hw => by
      simp only [List.mem_cons, List.not_mem_nil, or_false] at hw
      rcases hw with rfl
      · exact itoa_ne _
    have hw : wordsL v 10 = [Lib.itoa v.n] := filter_ne _ hne
    rw [hw]
    clear hne hw hT hG hts hg
    simp [Lib.join_cons, join_tail_cons, join_nil, verbN, lineS, sendL, groupT, syncL, List.append_assoc]
  · have hne : ∀ w ∈ ([Lib.itoa v.n] : List (List UInt8)), w ≠ [] := fun w hw => by
      simp only [List.mem_cons, List.not_mem_nil, or_false] at hw
      rcases hw with rfl
      · exact itoa_ne _
    have hw : wordsL v 11 = [Lib.itoa v.n] := filter_ne _ hne
    rw [hw]
    clear hne hw hT hG hts hg
    simp [Lib.join_cons, join_tail_cons, join_nil, verbN, lineS, sendL, groupT, syncL, List.append_assoc]
  · have hne : ∀ w ∈ ([Lib.itoa v.n] : List (List UInt8)), w ≠ [] := fun w hw => by
      simp only [List.mem_cons, List.not_mem_nil, or_false] at hw
      rcases hw with rfl
      · exact itoa_ne _
    have hw : wordsL v 12 = [Lib.itoa v.n] := filter_ne _ hne
    rw [hw]
    clear hne hw hT hG hts hg
    simp [Lib.join_cons, join_tail_cons, join_nil, verbN, lineS, sendL, groupT, syncL, List.append_assoc]
  · have hne : ∀ w ∈ ([Lib.itoa v.n] : List (List UInt8)), w ≠ [] := fun w hw => by
      simp only [List.mem_cons, List.not_mem_nil, or_false] at hw
      rcases hw with rfl
      · exact itoa_ne _
    have hw : wordsL v 13 = [Lib.itoa v.n] := filter_ne _ hne
    rw [hw]
    clear hne hw hT hG hts hg
    simp [Lib.join_cons, join_tail_cons, join_nil, verbN, lineS, sendL, groupT, syncL, List.append_assoc]
  · have hne : ∀ w ∈ ([bitsL v.keep, Lib.itoa v.lack, hexL v.body] : List (List UInt8)), w ≠ [] := fun w hw => by
      simp only [List.mem_cons, List.not_mem_nil, or_false] at hw
      rcases hw with rfl | rfl | rfl
      · exact bits_ne _
      · exact itoa_ne _
      · exact hexL_ne _
    have hw : wordsL v 14 = [bitsL v.keep, Lib.itoa v.lack, hexL v.body] := filter_ne _ hne
    rw [hw]
    clear hne hw hT hG hts hg
    simp [Lib.join_cons, join_tail_cons, join_nil, verbN, lineS, sendL, groupT, syncL, List.append_assoc]
  · have hne : ∀ w ∈ ([] : List (List UInt8)), w ≠ [] := fun w hw => absurd hw (by simp)
    have hw : wordsL v 15 = [] := filter_ne _ hne
    rw [hw]
    clear hne hw hT hG hts hg
    simp [Lib.join_cons, join_tail_cons, join_nil, verbN, lineS, sendL, groupT, syncL, List.append_assoc]
theorem line_event (v : Ev) : lineL v = eventL v := by
  by_cases h1 : v.kind < 1 ∨ 15 < v.kind
  · unfold lineL eventL; rw [if_pos h1, if_pos h1]
  obtain ⟨k, hk⟩ : ∃ k : Nat, v.kind = k := ⟨v.kind.toNat, by omega⟩
  have hl1 : 1 ≤ k := by omega
  have hl2 : k ≤ 15 := by omega
  have e1 : lineL v = if guardB v && !v.keys.any badK then (if condB v k then lineS v k else []) else [] := by
    conv => lhs; unfold lineL
    rw [if_neg h1, hk, Int.toNat_natCast]
  have e2 : eventL v = if rightB v (verbL k) && emptyB (wipeV v (verbL k)) then Lib.join (verbN k :: wordsL v k) [32] else [] := by
    conv => lhs; unfold eventL
    rw [if_neg h1, hk, Int.toNat_natCast]
  have hr := right_guard v k hl1 hl2 hk
  cases hb : (rightB v (verbL k) && emptyB (wipeV v (verbL k))) with
  | false =>
    rw [hb] at hr e2
    rw [e1, e2]
    cases hg : (guardB v && !v.keys.any badK) with
    | false => rfl
    | true =>
      rw [hg] at hr
      rw [Bool.true_and] at hr
      rw [← hr]; rfl
  | true =>
    rw [hb] at hr
    have ht : Told v k := by
      simp only [Bool.and_eq_true] at hb
      exact ⟨hl1, hl2, hk, hb.1, hb.2, by rw [e2, hb.1, hb.2]; rfl⟩
    have hr' := hr.symm
    rw [Bool.and_eq_true] at hr'
    rw [e1, hr'.1, hr'.2, ht.line, line_text v k ht]; rfl
end Go.Proofs.YtadhkeboaapfcaaGreatDoor.EvW
