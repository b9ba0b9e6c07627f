/- The law's own Great: more than is played? And what follows. -/
import Derived.Test.YtjjkhbfimpgplaaGreatDoorQ09
import Derived.Test.YtjjkhbfimpgplaaGreatDoorQ04
import Derived.Test.YtjjkhbfimpgplaaGreatDoorQ05
import Derived.Deep.DeepCutAuto
import Derived.Test.YtjjkhbfimpgplaaGreatDoorQ08
import Derived.Test.YtjjkhbfimpgplaaGreatDoorQ01
import Derived.Test.YtjjkhbfimpgplaaGreatDoorQ00
namespace Go.Proofs.YtjjkhbfimpgplaaGreatDoor.SndW
open Go.RowKit Go.MapKept Go.Sort OctMath RecMath RecW DskW SegW TapeW TapeMath PendW CacheW StoW TopW NameMath
set_option linter.unusedVariables false
set_option linter.unusedSimpArgs false
set_option maxRecDepth 100000
def WantRow (w : World) (a : Option Addr) (ms : List (WantD × Option Addr × Nat)) : Prop :=
 ∀ i (h : i < ms.length), ∃ g off, a = some ⟨g, off, none⟩ ∧ (∀ (j : Nat) (v : Value), (cellsW ms[i].1 ms[i].2.1 ms[i].2.2)[j]? = some v → w.cell? ⟨g, off + i * 5 + j, none⟩ = some v) ∧ Strs w ms[i].2.1 (ms[i].1.keys.map S)
theorem WantRow.below {w w' : World} {a : Option Addr} {ms : List (WantD × Option Addr × Nat)} (h : WantRow w a ms) (hb : Below w.heap.size w w') : WantRow w' a ms := fun i hi => by
 obtain ⟨g, off, h1, h2, h3⟩ := h i hi
 exact ⟨g, off, h1, fun j v hv => by have h4 := h2 j v hv; rw [hb.cell (cell_lt h4)]; exact h4, Strs.below h3 hb⟩
def great1 (x : WantD) : Bool := decide (100 < x.topic.length) || (decide (100 < x.tag.length) || (decide (10 < x.keys.length) || decide (1000 < x.body.length)))
def greatX (x : WantD) : Bool := great1 x || x.keys.any fun t => decide (100 < t.length)
theorem want_ok {x : WantD} (hq : inI x.queue) (h : greatX x = false) : WantOk x ∧ x.topic.length ≤ 100 ∧ x.body.length ≤ 1000 ∧ x.keys.length ≤ 10 := by
 unfold greatX great1 at h
 simp only [Bool.or_eq_false_iff, decide_eq_false_iff_not, List.any_eq_false, decide_eq_true_eq] at h
 obtain ⟨⟨g1, g2, g3, g4⟩, g5⟩ := h
 exact ⟨⟨hq, by omega, by omega, by omega, by omega, fun t ht => by have := g5 t ht; omega⟩, by omega, by omega, by omega⟩
set_option maxHeartbeats 6400000 in
theorem great_any (ms : List (WantD × Option Addr × Nat)) (a0 : Option Addr) (c0 : Nat) (W : World) (h : WantRow W a0 ms) (hl : ms.length ≤ 1073741824) :
 Calls Tryz.prog 7 #[.slice a0 ms.length c0] W fun e w' => e = .returned (.bool (ms.any fun p => greatX p.1)) ∧ Below W.heap.size W w' := by
 have HH := Lib.hid h
 have HL := Lib.hid hl
 clear h
 go_enter Tryz.func7, Tryz.ntmps7
 go_wp2_with fail
 go_loopw [9] (fun i wr => ∃ k : Nat, k ≤ ms.length ∧ i = .int .i64 (k : Int) ∧ Hid (((ms.take k).any fun p => greatX p.1) = false ∧ Below W.heap.size W wr)) (fun i _ => ms.length - (intOf i).toNat)
 case atStart => exact ⟨0, Nat.zero_le _, rfl, rfl, Below.refl _ _⟩
 case round =>
  obtain ⟨k, hk, rfl, HS⟩ := hrel
  obtain ⟨wA, rfl⟩ : ∃ wA : World, wA = wr := ⟨_, rfl⟩
  by_cases hlt : k < ms.length
  ·
   obtain ⟨g, off, rfl, hcell, hkeys⟩ := HH.out k hlt
   obtain ⟨p, hp⟩ : ∃ p, p = ms[k] := ⟨_, rfl⟩
   have HANY : Hid (((ms.take (k + 1)).any fun p => greatX p.1) = greatX p.1) := by
    show _ = _
    rw [List.take_succ_eq_append_getElem hlt, List.any_append, HS.out.1, ← hp]; simp
   have HALL : Hid (greatX p.1 = true → (ms.any fun p => greatX p.1) = true) := fun hg => List.any_eq_true.2 ⟨p, by rw [hp]; exact List.getElem_mem hlt, hg⟩
   rw [← hp] at hcell hkeys
   clear hp
   obtain ⟨x, a, c⟩ := p
   have HK := Lib.hid (Strs.below hkeys HS.out.2)
   have hcw : ∀ (j : Nat) (v : Value), (cellsW x a c)[j]? = some v → wA.cell? ⟨g, off + k * 5 + j, none⟩ = some v := fun j v hv => by
    have h1 := hcell j v hv
    rw [HS.out.2.cell (cell_lt h1)]; exact h1
   have k0 : wA.cell? ⟨g, off + k * 5, none⟩ = some (.string (S x.topic)) := hcw 0 _ rfl
   have k1 : wA.cell? ⟨g, off + k * 5 + 1, none⟩ = some (.int .i64 x.queue) := hcw 1 _ rfl
   have k2 : wA.cell? ⟨g, off + k * 5 + 2, none⟩ = some (.string (S x.tag)) := hcw 2 _ rfl
   have k3 : wA.cell? ⟨g, off + k * 5 + 3, none⟩ = some (.slice a x.keys.length c) := hcw 3 _ rfl
   have k4 : wA.cell? ⟨g, off + k * 5 + 4, none⟩ = some (.string (S x.body)) := hcw 4 _ rfl
   clear hcell hkeys hcw
   have HB2 : Hid (Below W.heap.size W (wA.alloc (.cells #[.string (S x.topic), .int .i64 x.queue, .string (S x.tag), .slice a x.keys.length c, .string (S x.body)] 33))) := HS.out.2.alloc HS.out.2.size _
   by_cases h1 : 100 < x.topic.length
   ·
    have z1 : (100 : Int) < ((S x.topic).size : Int) := by rw [S_size]; omega
    have HG : Hid ((ms.any fun p => greatX p.1) = true) := HALL.out (by unfold greatX great1; simp [h1])
    clear h1
    go_wp2_with fail
    go_ret
    exact ⟨by rw [HG.out]; rfl, HB2.out⟩
   have z1 : ((S x.topic).size : Int) ≤ (100 : Int) := by rw [S_size]; omega
   by_cases h2 : 100 < x.tag.length
   ·
    have z2 : (100 : Int) < ((S x.tag).size : Int) := by rw [S_size]; omega
    have HG : Hid ((ms.any fun p => greatX p.1) = true) := HALL.out (by unfold greatX great1; simp [h2])
    clear h2
    go_wp2_with fail
    go_ret
    exact ⟨by rw [HG.out]; rfl, HB2.out⟩
   have z2 : ((S x.tag).size : Int) ≤ (100 : Int) := by rw [S_size]; omega
   by_cases h3 : 10 < x.keys.length
   ·
    have z3 : (10 : Int) < (x.keys.length : Int) := by omega
    have HG : Hid ((ms.any fun p => greatX p.1) = true) := HALL.out (by unfold greatX great1; simp [h3])
    clear h3
    go_wp2_with fail
    go_ret
    exact ⟨by rw [HG.out]; rfl, HB2.out⟩
   have z3 : (x.keys.length : Int) ≤ (10 : Int) := by omega
   by_cases h4 : 1000 < x.body.length
   ·
    have z4 : (1000 : Int) < ((S x.body).size : Int) := by rw [S_size]; omega
    have HG : Hid ((ms.any fun p => greatX p.1) = true) := HALL.out (by unfold greatX great1; simp [h4])
    clear h4
    go_wp2_with fail
    go_ret
    exact ⟨by rw [HG.out]; rfl, HB2.out⟩
   have z4 : ((S x.body).size : Int) ≤ (1000 : Int) := by rw [S_size]; omega
   have HG1 : Hid (great1 x = false) := by show _ = _; unfold great1; simp; omega
   clear h1 h2 h3 h4
   have HK2 : Hid (Strs (wA.alloc (.cells #[.string (S x.topic), .int .i64 x.queue, .string (S x.tag), .slice a x.keys.length c, .string (S x.body)] 33)) a (x.keys.map S)) := Strs.below HK.out ((Below.refl _ _).alloc (Nat.le_refl _) _)
   have hc2 := heap_alloc_new wA (.cells #[.string (S x.topic), .int .i64 x.queue, .string (S x.tag), .slice a x.keys.length c, .string (S x.body)] 33)
   go_upto_region 6 with fail
   clear k0 k1 k2 k3 k4 HK
   generalize (wA.alloc (.cells #[.string (S x.topic), .int .i64 x.queue, .string (S x.tag), .slice a x.keys.length c, .string (S x.body)] 33)) = w5 at *
   generalize wA.heap.size = g5 at *
   have k3 : w5.cell? ⟨g5, 3, none⟩ = some (.slice a x.keys.length c) := cell_at hc2 3 _ rfl
   clear hc2
   go_wp2_with fail
   obtain ⟨w6, hw6⟩ : ∃ w6 : World, w6 = w5 := ⟨_, rfl⟩
   go_loopw [38] (fun i w2 => ∃ j : Nat, j ≤ x.keys.length ∧ i = .int .i64 (j : Int) ∧ w2 = w6 ∧ Hid (∀ t ∈ x.keys.take j, t.length ≤ 100)) (fun i _ => x.keys.length - (intOf i).toNat)
   case atStart => exact ⟨0, Nat.zero_le _, rfl, hw6.symm, fun t ht => by cases ht⟩
   case round =>
    obtain ⟨j, hj, rfl, rfl, HJ⟩ := hrel
    subst hw6
    by_cases hjl : j < x.keys.length
    ·
     obtain ⟨b, o2, rfl, hcj⟩ := HK2.out j (by rw [List.length_map]; exact hjl)
     rw [List.getElem_map] at hcj
     have HTK : Hid (∀ t ∈ x.keys.take (j + 1), t ∈ x.keys.take j ∨ t = x.keys[j]) := fun t ht => by
      rw [List.take_succ_eq_append_getElem hjl] at ht
      rcases List.mem_append.1 ht with h | h
      · exact .inl h
      · exact .inr (by simpa using h)
     have HIN : Hid (x.keys[j] ∈ x.keys) := List.getElem_mem hjl
     generalize x.keys[j] = t at *
     by_cases h5 : 100 < t.length
     · have z5 : (100 : Int) < ((S t).size : Int) := by rw [S_size]; omega
       have HG : Hid ((ms.any fun p => greatX p.1) = true) := HALL.out (by unfold greatX; rw [Bool.or_eq_true]; exact .inr (List.any_eq_true.2 ⟨t, HIN.out, by simpa using h5⟩))
       clear h5
       go_wp2_with fail
       go_ret
       exact ⟨by rw [HG.out]; rfl, HB2.out⟩
     · have z5 : ((S t).size : Int) ≤ (100 : Int) := by rw [S_size]; omega
       have HJ2 : Hid (∀ t ∈ x.keys.take (j + 1), t.length ≤ 100) := fun y hy => (HTK.out y hy).elim (HJ.out y) fun e => by rw [e]; omega
       clear h5
       go_wp2_with fail
       go_roundw
       case rel => exact ⟨j + 1, by omega, by go_num, trivial, HJ2.out⟩
       case measure => simp [intOf]; omega
    ·
     have hjn : j = x.keys.length := by omega
     subst hjn
     rw [List.take_length] at HJ
     have HNG : Hid (greatX x = false) := by
      show _ = _
      unfold greatX
      rw [HG1.out, Bool.false_or, List.any_eq_false]
      intro t ht
      have := HJ.out t ht
      simp; omega
     clear HJ hjl hj
     go_wp2_with fail
     go_roundw
     case rel => exact ⟨k + 1, by omega, by go_num, by rw [HANY.out]; exact HNG.out, HB2.out⟩
     case measure => simp [intOf]; omega
  ·
   have hkn : k = ms.length := by omega
   subst hkn
   have HG : Hid ((ms.any fun p => greatX p.1) = false) := by have h1 := HS.out.1; rw [List.take_length] at h1; exact h1
   go_wp2_with fail
   go_ret
   exact ⟨by rw [HG.out]; rfl, HS.out.2⟩
end Go.Proofs.YtjjkhbfimpgplaaGreatDoor.SndW
namespace Go.Proofs.YtjjkhbfimpgplaaGreatDoor.RecW
open Go.RowKit OctMath NameMath RecMath
set_option maxRecDepth 100000
set_option linter.unusedSimpArgs false
set_option linter.unusedVariables false
set_option maxHeartbeats 1600000 in
theorem rkey_any (l : List UInt8) (hl : l.length ≤ 1099511627776) (W : World) : Calls Tryz.prog 30 #[.string (S l)] W fun e w' => e = .returned (.bool (keyL l)) ∧ Drawn W w' := by
 have hsz := S_size l
 have HE : Hid (keyL l = (decide (l ≠ []) && decide (l.length ≤ 16) && l.all keySign)) := rfl
 go_enter Tryz.func30, Tryz.ntmps30
 go_wp2_with fail
 go_loopw [3] (fun i wr => ∃ k : Nat, k ≤ l.length ∧ i = .int .i64 (k : Int) ∧ Hid ((l.take k).all keySign = true) ∧ Hid (Drawn W wr)) (fun i _ => l.length + 1 - (intOf i).toNat)
 case atStart => exact ⟨0, by omega, rfl, rfl, Drawn.refl _⟩
 case round =>
  obtain ⟨k, hk, rfl, HA, HD⟩ := hrel
  by_cases hlt : k < l.length
  ·
   have hi1 : k < (S l).size := by rw [hsz]; exact hlt
   have hx1 := fun w => NameW.index_at l k (k : Int) rfl hlt .i64 w
   have hstep : (l.take (k + 1)).all keySign = ((l.take k).all keySign && keySign l[k]) := by rw [List.take_succ_eq_append_getElem hlt, List.all_append, List.all_cons, List.all_nil, Bool.and_true]; rfl
   have hmem : keySign l[k] = false → l.all keySign = false := fun h => by rw [List.all_eq_false]; exact ⟨l[k], List.getElem_mem hlt, by rw [h]; simp⟩
   have hdg : keySign l[k] = (decide (33 ≤ l[k].toNat) && decide (l[k].toNat ≤ 126)) := rfl
   generalize l[k] = c at *
   have HST := Lib.hid hstep
   have HMEM := Lib.hid hmem
   have HDG := Lib.hid hdg
   have hc := c.toNat_lt
   clear hstep hmem hdg
   rcases (show (c.toNat < 33) ∨ (126 < c.toNat) ∨ (33 ≤ c.toNat ∧ c.toNat ≤ 126) by omega) with h | h | h
   ·
    have HS : Hid (keySign c = false) := by show _ = _; rw [HDG.out]; simp; omega
    have d33 : decide ((c.toNat : Int) < 33) = true := decide_eq_true (by omega)
    have HT : Hid (keyL l = false) := by show _ = _; rw [HE.out, HMEM.out HS.out, Bool.and_false]
    clear HMEM HST HS h HDG
    go_wp2_with fail
    go_ret
    rw [HT.out]
    exact ⟨rfl, HD.out⟩
   ·
    have HS : Hid (keySign c = false) := by show _ = _; rw [HDG.out]; simp; omega
    have d33 : decide ((c.toNat : Int) < 33) = false := decide_eq_false (by omega)
    have d126 : decide (126 < (c.toNat : Int)) = true := decide_eq_true (by omega)
    have HT : Hid (keyL l = false) := by show _ = _; rw [HE.out, HMEM.out HS.out, Bool.and_false]
    clear HMEM HST HS h HDG
    go_wp2_with fail
    go_ret
    rw [HT.out]
    exact ⟨rfl, HD.out⟩
   ·
    have HS : Hid (keySign c = true) := by show _ = _; rw [HDG.out]; simp; omega
    have d33 : decide ((c.toNat : Int) < 33) = false := decide_eq_false (by omega)
    have d126 : decide (126 < (c.toNat : Int)) = false := decide_eq_false (by omega)
    have HT : Hid ((l.take (k + 1)).all keySign = true) := by show _ = _; rw [HST.out, HA.out, HS.out]; rfl
    clear HMEM HST HS h HDG
    go_wp2_with fail
    go_roundw
    case rel => exact ⟨k + 1, by omega, by go_num, HT, HD⟩
    case measure => simp [intOf]; omega
  ·
   obtain rfl : k = l.length := by omega
   rw [List.take_length] at HA
   have HT : Hid (keyL l = (decide (l ≠ []) && decide (l.length ≤ 16))) := by show _ = _; rw [HE.out, HA.out, Bool.and_true]
   have h1 : decide (1 ≤ (l.length : Int)) = decide (l ≠ []) := by
    rw [decide_eq_decide]
    cases l with
    | nil => simp
    | cons _ _ => simp; omega
   have h2 : decide ((l.length : Int) ≤ 16) = decide (l.length ≤ 16) := decide_eq_decide.2 (by omega)
   clear HA HE
   generalize decide (l ≠ []) = b1 at *
   generalize decide (l.length ≤ 16) = b2 at *
   cases b1 <;>
   (go_wp2_with fail
    go_ret
    rw [HT.out]
    exact ⟨rfl, HD.out⟩)
theorem nodup_snoc {α : Type} {xs : List α} {x : α} (h : xs.Nodup) (hx : x ∉ xs) : (xs ++ [x]).Nodup := by
 rw [List.nodup_append]
 refine ⟨h, List.nodup_cons.2 ⟨by simp, List.nodup_nil⟩, fun a ha b hb => ?_⟩
 rw [List.mem_singleton.1 hb]
 rintro rfl
 exact hx ha
theorem nodup_snoc2 {α : Type} {xs : List α} {x : α} (h : (xs ++ [x]).Nodup) : x ∉ xs := by
 rw [List.nodup_append] at h
 exact fun hx => h.2.2 x hx x (List.mem_singleton.2 rfl) rfl
end Go.Proofs.YtjjkhbfimpgplaaGreatDoor.RecW
namespace Go.Proofs.YtjjkhbfimpgplaaGreatDoor.SndW
open Go.RowKit Go.MapKept Go.Sort OctMath RecMath RecW DskW SegW MapG TapeW TapeMath PendW CacheW StoW TopW NameMath
set_option linter.unusedVariables false
set_option linter.unusedSimpArgs false
set_option maxRecDepth 100000
def queues3 (t : List UInt8) : Nat := if t = [97] then 1 else if t = [98] then 3 else if t = [108, 111, 110, 103, 45, 116, 111, 112, 105, 99, 45, 110, 97, 109, 101, 49] then 2 else 0
theorem queues3_eq (t : List UInt8) : ((ofL t).isEmpty = true → queues3 t = queuesT made3 t) ∧ ((ofL t).isEmpty = false → queues3 t = 0) := by
 unfold queues3
 by_cases h1 : t = [97]
 · subst h1; exact ⟨fun _ => by decide, fun h => by exact absurd h (by decide)⟩
 by_cases h2 : t = [98]
 · subst h2; exact ⟨fun _ => by decide, fun h => by exact absurd h (by decide)⟩
 by_cases h3 : t = [108, 111, 110, 103, 45, 116, 111, 112, 105, 99, 45, 110, 97, 109, 101, 49]
 · subst h3; exact ⟨fun _ => by decide, fun h => by exact absurd h (by decide)⟩
 rw [if_neg h1, if_neg h2, if_neg h3]
 refine ⟨fun h => ?_, fun _ => rfl⟩
 unfold queuesT
 rw [if_pos h, find_out t made3 (fun x hx => by
  unfold made3 at hx
  simp only [List.mem_cons, List.not_mem_nil, or_false] at hx
  rcases hx with rfl | rfl | rfl
  · exact fun e => h1 e.symm
  · exact fun e => h2 e.symm
  · exact fun e => h3 e.symm)]
 rfl
def rightW (x : WantD) : Int := if queues3 x.topic = 0 then 12 else if x.queue < 0 ∨ (queues3 x.topic : Int) ≤ x.queue then 13 else if (tagL x.tag && x.keys.all keyL) = false then 11 else if 3 < x.keys.length ∨ 200 < x.body.length then 6 else if x.keys.Nodup then 0 else 10
theorem right_check (x : WantD) : rightW x = checkW made3 x := by
 obtain ⟨q1, q2⟩ := queues3_eq x.topic
 unfold rightW checkW checkT
 cases h : (ofL x.topic).isEmpty with
 | false => rw [q2 h]; rfl
 | true =>
   rw [if_neg (show ¬ (true = false) by decide), ← q1 h]
   by_cases h1 : queues3 x.topic = 0
   · simp [h1]
   · by_cases h2 : x.queue < 0 ∨ (queues3 x.topic : Int) ≤ x.queue
     · simp [h1, h2]
     · simp [h1, h2]
theorem keyedT : Keyed Tryz.prog 9 (IsKey .string) := keyedS
theorem zero_int (w : World) : (zeroValue 3).run Tryz.prog w = .ok (.int .i64 0) w := by rfl
theorem map3 (w : World) : ∃ w1 w2 w3, (Instr.mapUpdate 90 (.map (some w.heap.size)) (.string ⟨#[97]⟩) (.int .i64 1)).run Tryz.prog (w.alloc (.map #[] 0)) = .ok () w1 ∧
 (Instr.mapUpdate 90 (.map (some w.heap.size)) (.string ⟨#[98]⟩) (.int .i64 3)).run Tryz.prog w1 = .ok () w2 ∧
 (Instr.mapUpdate 90 (.map (some w.heap.size)) (.string ⟨#[108, 111, 110, 103, 45, 116, 111, 112, 105, 99, 45, 110, 97, 109, 101, 49]⟩) (.int .i64 2)).run Tryz.prog w2 = .ok () w3 ∧ Below w.heap.size w w3 ∧
 ∀ t : List UInt8, (Instr.lookup 90 (.map (some w.heap.size)) (.string (S t)) false).run Tryz.prog w3 = .ok (.int .i64 (queues3 t : Int)) w3 := by
 have hm : Tryz.prog.underlying 90 = some (.map 9 3) := Tryz.underlying90
 have hk : ∀ s : ByteArray, IsKey .string (.string s) := fun s => trivial
 have e1 : (⟨#[97]⟩ : ByteArray) = S [97] := rfl
 have e2 : (⟨#[98]⟩ : ByteArray) = S [98] := rfl
 have e3 : (⟨#[108, 111, 110, 103, 45, 116, 111, 112, 105, 99, 45, 110, 97, 109, 101, 49]⟩ : ByteArray) = S [108, 111, 110, 103, 45, 116, 111, 112, 105, 99, 45, 110, 97, 109, 101, 49] := rfl
 rw [e1, e2, e3]
 have hi : ∀ {a b : List UInt8}, Value.string (S a) = Value.string (S b) → a = b := fun h => by injection h with h; exact OctMath.S_inj h
 have p0 := PairsAt.new w
 obtain ⟨w1, r1, p1, m1⟩ := update_new hm keyedT p0 (fun p hp => by cases hp) (hk (S [97])) (fun p hp => by cases hp) (.int .i64 1)
 have k1 : ∀ p ∈ ([] ++ [(Value.string (S [97]), Value.int .i64 1)] : List (Value × Value)), IsKey .string p.1 := fun p hp => by
  rw [List.nil_append, List.mem_singleton] at hp; subst hp; exact hk _
 obtain ⟨w2, r2, p2, m2⟩ := update_new hm keyedT p1 k1 (hk (S [98])) (fun p hp e => by
  rw [List.nil_append, List.mem_singleton] at hp; subst hp; exact absurd (hi e) (by decide)) (.int .i64 3)
 have k2 : ∀ p ∈ ([] ++ [(Value.string (S [97]), Value.int .i64 1)] ++ [(Value.string (S [98]), Value.int .i64 3)] : List (Value × Value)), IsKey .string p.1 := fun p hp => by
  rcases List.mem_append.1 hp with h | h
  · exact k1 p h
  · rw [List.mem_singleton] at h; subst h; exact hk _
 obtain ⟨w3, r3, p3, m3⟩ := update_new hm keyedT p2 k2 (hk (S [108, 111, 110, 103, 45, 116, 111, 112, 105, 99, 45, 110, 97, 109, 101, 49])) (fun p hp e => by
  rcases List.mem_append.1 hp with h | h
  · rw [List.nil_append, List.mem_singleton] at h; subst h; exact absurd (hi e) (by decide)
  · rw [List.mem_singleton] at h; subst h; exact absurd (hi e) (by decide)) (.int .i64 2)
 refine ⟨w1, w2, w3, r1, r2, r3, ?_, fun t => ?_⟩
 · have hm4 : Mod (fun x => x = w.heap.size) w w3 := (((Mod.of_below ((Below.refl _ w).alloc (Nat.le_refl _) (.map #[] 0))).trans m1).trans m2).trans m3
   exact hm4.to_below _ (Nat.le_refl _) fun k e => by omega
 ·
  have k3 : ∀ p ∈ ([] ++ [(Value.string (S [97]), Value.int .i64 1)] ++ [(Value.string (S [98]), Value.int .i64 3)] ++ [(Value.string (S [108, 111, 110, 103, 45, 116, 111, 112, 105, 99, 45, 110, 97, 109, 101, 49]), Value.int .i64 2)] : List (Value × Value)), IsKey .string p.1 := fun p hp => by
   rcases List.mem_append.1 hp with h | h
   · exact k2 p h
   · rw [List.mem_singleton] at h; subst h; exact hk _
  unfold queues3
  by_cases h1 : t = [97]
  · subst h1; exact lookup_has hm keyedT p3 k3 (hk _) (by simp) false
  by_cases h2 : t = [98]
  · subst h2; exact lookup_has hm keyedT p3 k3 (hk _) (by simp) false
  by_cases h3 : t = [108, 111, 110, 103, 45, 116, 111, 112, 105, 99, 45, 110, 97, 109, 101, 49]
  · subst h3; exact lookup_has hm keyedT p3 k3 (hk _) (by simp) false
  rw [if_neg h1, if_neg h2, if_neg h3]
  exact lookup_not hm keyedT p3 k3 (hk _) (fun p hp e => by
   simp only [List.nil_append, List.cons_append, List.mem_cons, List.not_mem_nil, or_false] at hp
   rcases hp with rfl | rfl | rfl
   · exact h1 (hi e).symm
   · exact h2 (hi e).symm
   · exact h3 (hi e).symm) zero_int false
theorem nodup_take {ks : List (List UInt8)} {k : Nat} (h : k < ks.length) : decide ((ks.take (k + 1)).Nodup) = (decide ((ks.take k).Nodup) && (ks.take k).all fun y => decide (y ≠ ks[k])) := by
 have hst : ks.take (k + 1) = ks.take k ++ [ks[k]] := List.take_succ_eq_append_getElem h
 rw [hst]
 by_cases h1 : (ks.take k).Nodup
 ·
  rw [decide_eq_true h1, Bool.true_and]
  by_cases h2 : ks[k] ∈ ks.take k
  · rw [decide_eq_false (fun h3 => nodup_snoc2 h3 h2)]
    exact (List.all_eq_false.2 ⟨ks[k], h2, by simp⟩).symm
  · rw [decide_eq_true (nodup_snoc h1 h2)]
    exact (List.all_eq_true.2 fun y hy => by
     have h3 : y ≠ ks[k] := fun e => h2 (by rw [← e]; exact hy)
     simpa using h3).symm
 · rw [decide_eq_false h1, Bool.false_and]
   exact decide_eq_false fun h3 => h1 (h3.sublist (List.sublist_append_left _ _))
set_option maxHeartbeats 12800000 in
theorem right_any (x : WantD) (hx : WantOk x) (a : Option Addr) (c : Nat) (hcap : x.keys.length ≤ c) (W : World) (hS : Strs W a (x.keys.map S)) :
 Calls Tryz.prog 10 #[.agg (cellsW x a c)] W fun e w' => e = .returned (.int .i64 (rightW x)) ∧ Below W.heap.size W w' := by
 have hb1 : Below W.heap.size W (W.alloc (.cells (cellsW x a c) 33)) := (Below.refl _ W).alloc (Nat.le_refl _) _
 have hX1 : RecW.Boxed (W.alloc (.cells (cellsW x a c) 33)) W.heap.size (cellsW x a c) := RecW.Boxed.new W _ _
 obtain ⟨v1, v2, v3, r1, r2, r3, hb3, hlk⟩ := map3 (W.alloc (.cells (cellsW x a c) 33))
 have hl := hlk x.topic
 have HI3 : Hid (Below W.heap.size W v3 ∧ RecW.Boxed v3 W.heap.size (cellsW x a c) ∧ Strs v3 a (x.keys.map S)) := ⟨hb1.trans (hb3.mono hb1.size), hX1.below hb3, Strs.below (Strs.below hS hb1) hb3⟩
 have hcu : (cellsW x a c).size = 5 := rfl
 have HTG := Lib.hid (fun w => NameW.rtag_any x.tag (by have := hx.tag; omega) w)
 have HRK := Lib.hid (fun (t : List UInt8) (ht : t ∈ x.keys) w => rkey_any t (by have := hx.key t ht; omega) w)
 have HRW : Hid (rightW x = if queues3 x.topic = 0 then 12 else if x.queue < 0 ∨ (queues3 x.topic : Int) ≤ x.queue then 13 else if ((x.tag.isEmpty || plainL x.tag) && x.keys.all keyL) = false then 11 else if 3 < x.keys.length ∨ 200 < x.body.length then 6 else if x.keys.Nodup then 0 else 10) := rfl
 have hbl := S_size x.body
 have hkl := hx.keys
 have hkl2 : (x.keys.length : Int) ≤ (c : Int) := by omega
 generalize rightW x = R at *
 generalize queues3 x.topic = q3 at *
 generalize (x.tag.isEmpty || plainL x.tag) = tg at *
 have k0 : v3.cell? ⟨W.heap.size, 0, none⟩ = some (.string (S x.topic)) := HI3.out.2.1 0 _ rfl
 have k2 : v3.cell? ⟨W.heap.size, 2, none⟩ = some (.string (S x.tag)) := HI3.out.2.1 2 _ rfl
 clear hb1 hX1 hb3 hlk hS hx
 have hmk : ∀ w : World, (Instr.makeMap 90 none).run Tryz.prog w = .ok (.map (some w.heap.size)) (w.alloc (.map #[] 0)) := fun _ => rfl
 go_enter Tryz.func10, Tryz.ntmps10
 go_upto_region 1 with fail
 generalize W.alloc (.cells (cellsW x a c) 33) = w1 at *
 clear hcu
 obtain ⟨A, hA⟩ : ∃ A, W.heap.size = A := ⟨_, rfl⟩
 rw [hA] at k0 k2 ⊢
 have HI3 : Hid (Below W.heap.size W v3 ∧ RecW.Boxed v3 A (cellsW x a c) ∧ Strs v3 a (x.keys.map S)) := hA ▸ HI3.out
 clear hA
 go_wp2_with fail
 refine (HTG.out _).mono ?_
 rintro e w3 ⟨rfl, hd3⟩
 have HI4 : Hid (Below W.heap.size W w3 ∧ RecW.Boxed w3 A (cellsW x a c) ∧ Strs w3 a (x.keys.map S)) := ⟨HI3.out.1.trans ((hd3.below _).mono HI3.out.1.size), HI3.out.2.1.below (hd3.below _), Strs.below HI3.out.2.2 (hd3.below _)⟩
 clear hd3 HTG HI3 k0 k2 r1 r2 r3 hl hmk
 have k3 : w3.cell? ⟨A, 3, none⟩ = some (.slice a x.keys.length c) := HI4.out.2.1 3 _ rfl
 go_wp2_with fail
 go_loopw [21, 4, 5] (fun i t u wr => ∃ k : Nat, k ≤ x.keys.length ∧ i = .int .i64 (k : Int) ∧ t = .bool (tg && (x.keys.take k).all keyL) ∧ u = .bool (decide (x.keys.take k).Nodup) ∧ Hid (Below W.heap.size W wr ∧ RecW.Boxed wr A (cellsW x a c) ∧ Strs wr a (x.keys.map S))) (fun i _ _ _ => x.keys.length + 1 - (intOf i).toNat)
 case atStart => exact ⟨0, by omega, rfl, by simp, by simp, HI4.out⟩
 case round =>
  clear k3 HI4
  obtain ⟨k, hk, rfl, rfl, rfl, HI⟩ := hrel
  have k3 : wr.cell? ⟨A, 3, none⟩ = some (.slice a x.keys.length c) := HI.out.2.1 3 _ rfl
  by_cases hlt : k < x.keys.length
  ·
   obtain ⟨b, off, rfl, hcell⟩ := HI.out.2.2 k (by rw [List.length_map]; exact hlt)
   rw [List.getElem_map] at hcell
   have HST : Hid ((x.keys.take (k + 1)).all keyL = ((x.keys.take k).all keyL && keyL x.keys[k])) := by show _ = _; rw [List.take_succ_eq_append_getElem hlt, List.all_append]; simp
   have HND := Lib.hid (nodup_take hlt)
   have HPC := Lib.hid (HRK.out x.keys[k] (List.getElem_mem hlt))
   have HJN : Hid (∀ j, j < k → ∃ hj : j < x.keys.length, ((x.keys.take (j + 1)).all fun y => decide (y ≠ x.keys[k])) = (((x.keys.take j).all fun y => decide (y ≠ x.keys[k])) && decide (x.keys[j] ≠ x.keys[k]))) := fun j hj => ⟨by omega, by rw [List.take_succ_eq_append_getElem (by omega), List.all_append]; simp⟩
   generalize x.keys[k] = y at *
   generalize decide (x.keys.take k).Nodup = nd at *
   generalize hbb : (tg && (x.keys.take k).all keyL) = bb at *
   have HBB : Hid ((tg && (x.keys.take (k + 1)).all keyL) = (bb && keyL y)) := by show _ = _; rw [HST.out, ← hbb, Bool.and_assoc]
   have HCL := Lib.hid hcell
   clear hbb HST
   go_upto_region 7 with fail
   go_cut [4] (fun t wx => t = .bool (bb && keyL y) ∧ Hid (Drawn wr wx))
   case first =>
    cases bb with
    | false =>
      go_wp2_with fail
      go_meet
      case rel => exact ⟨rfl, Drawn.refl _⟩
    | true =>
      go_wp2_with fail
      refine (HPC.out _).mono ?_
      rintro e w5 ⟨rfl, hd⟩
      go_wp2_with fail
      go_meet
      case rel => exact ⟨by simp, hd⟩
   case rest =>
   obtain ⟨rfl, HDR⟩ := hcut
   have HI5 : Hid (Below W.heap.size W wc ∧ RecW.Boxed wc A (cellsW x (some ⟨b, off, none⟩) c) ∧ Strs wc (some ⟨b, off, none⟩) (x.keys.map S)) := ⟨HI.out.1.trans ((HDR.out.below _).mono HI.out.1.size), HI.out.2.1.below (HDR.out.below _), Strs.below HI.out.2.2 (HDR.out.below _)⟩
   have k5 : wc.cell? ⟨A, 3, none⟩ = some (.slice (some ⟨b, off, none⟩) x.keys.length c) := HI5.out.2.1 3 _ rfl
   have hkc : (k : Int) ≤ (c : Int) := by omega
   clear k3 hcell HI HCL HDR HPC
   go_wp2_with fail
   obtain ⟨w6, hw6⟩ : ∃ w6 : World, w6 = wc := ⟨_, rfl⟩
   go_loopw [36, 5] (fun i u w2 => ∃ j : Nat, j ≤ k ∧ i = .int .i64 (j : Int) ∧ u = .bool (nd && (x.keys.take j).all fun z => decide (z ≠ y)) ∧ w2 = w6) (fun i _ _ => k + 1 - (intOf i).toNat)
   case atStart => exact ⟨0, Nat.zero_le _, rfl, by simp, hw6.symm⟩
   case round =>
    obtain ⟨j, hj, rfl, rfl, rfl⟩ := hrel
    subst hw6
    by_cases hjl : j < k
    ·
     obtain ⟨hjn, HJ⟩ := HJN.out j hjl
     obtain ⟨b', off', hbo, hcj⟩ := HI5.out.2.2 j (by rw [List.length_map]; exact hjn)
     cases hbo
     rw [List.getElem_map] at hcj
     have HJ2 := Lib.hid HJ
     clear HJ
     generalize x.keys[j] = z at *
     generalize hga : (nd && (x.keys.take j).all fun z => decide (z ≠ y)) = ga at *
     have HG : Hid ((nd && (x.keys.take (j + 1)).all fun z => decide (z ≠ y)) = (ga && decide (z ≠ y))) := by show _ = _; rw [HJ2.out, ← hga, Bool.and_assoc]
     clear hga HJ2
     have htl := fun t => NameW.S_toList t
     cases ga with
     | false =>
       go_wp2_with fail
       go_roundw
       case rel => exact ⟨j + 1, by omega, by go_num, by rw [HG.out]; rfl, trivial⟩
       case measure => simp [intOf]; omega
     | true =>
       by_cases hz : z = y
       · subst hz
         have HG2 : Hid ((nd && (x.keys.take (j + 1)).all fun w => decide (w ≠ z)) = false) := by show _ = _; rw [HG.out]; simp
         clear HG
         go_wp2_with fail
         go_roundw
         case rel => exact ⟨j + 1, by omega, by go_num, by rw [HG2.out], trivial⟩
         case measure => simp [intOf]; omega
       · have hzb : ((S z).toList == (S y).toList) = false := by rw [NameW.S_toList, NameW.S_toList]; simp [hz]
         have HG2 : Hid ((nd && (x.keys.take (j + 1)).all fun w => decide (w ≠ y)) = true) := by show _ = _; rw [HG.out]; simp [hz]
         clear HG htl hz
         go_wp2_with fail
         go_roundw
         case rel => exact ⟨j + 1, by omega, by go_num, by rw [HG2.out], trivial⟩
         case measure => simp [intOf]; omega
    ·
     obtain rfl : j = k := by omega
     have HN2 : Hid ((nd && (x.keys.take j).all fun z => decide (z ≠ y)) = decide (x.keys.take (j + 1)).Nodup) := HND.out.symm
     clear HND hjl hj
     rw [HN2.out]
     go_wp2_with fail
     go_roundw
     case rel => exact ⟨j + 1, by omega, by go_num, by rw [HBB.out], rfl, HI5.out⟩
     case measure => simp [intOf]; omega
  ·
   obtain rfl : k = x.keys.length := by omega
   rw [List.take_length]
   generalize (tg && x.keys.all keyL) = nm at *
   have HDN : Hid (∀ b, decide x.keys.Nodup = b → (if x.keys.Nodup then (0 : Int) else 10) = if b = true then 0 else 10) := fun b hb => by subst hb; simp
   have HRW2 : Hid (R = if q3 = 0 then 12 else if x.queue < 0 ∨ (q3 : Int) ≤ x.queue then 13 else if nm = false then 11 else if 3 < x.keys.length ∨ 200 < x.body.length then 6 else if decide x.keys.Nodup = true then 0 else 10) := by show _ = _; rw [HRW.out, HDN.out _ rfl]
   generalize decide x.keys.Nodup = nd at *
   clear HRW HDN hlt hk HRK
   have k1 : wr.cell? ⟨A, 1, none⟩ = some (.int .i64 x.queue) := HI.out.2.1 1 _ rfl
   have k4 : wr.cell? ⟨A, 4, none⟩ = some (.string (S x.body)) := HI.out.2.1 4 _ rfl
   by_cases h0 : q3 = 0
   ·
    have HR : Hid (R = 12) := by show _ = _; rw [HRW2.out, if_pos h0]
    subst h0
    clear HRW2
    go_wp2_with fail
    go_ret
    rw [HR.out]
    exact ⟨rfl, HI.out.1⟩
   have h0i : ((q3 : Int) == 0) = false := beq_eq_false_iff_ne.2 (by omega)
   by_cases h1 : x.queue < 0
   ·
    have HR : Hid (R = 13) := by show _ = _; rw [HRW2.out, if_neg h0, if_pos (.inl h1)]
    have hd : decide (x.queue < 0) = true := decide_eq_true h1
    clear HRW2 h1 h0
    go_wp2_with fail
    go_ret
    rw [HR.out]
    exact ⟨rfl, HI.out.1⟩
   have hd : decide (x.queue < 0) = false := decide_eq_false h1
   by_cases h2 : (q3 : Int) ≤ x.queue
   ·
    have HR : Hid (R = 13) := by show _ = _; rw [HRW2.out, if_neg h0, if_pos (.inr h2)]
    have hd2 : decide ((q3 : Int) ≤ x.queue) = true := decide_eq_true h2
    clear HRW2 h1 h2 h0
    go_wp2_with fail
    go_ret
    rw [HR.out]
    exact ⟨rfl, HI.out.1⟩
   have hd2 : decide ((q3 : Int) ≤ x.queue) = false := decide_eq_false h2
   have HRW3 : Hid (R = if nm = false then 11 else if 3 < x.keys.length ∨ 200 < x.body.length then 6 else if nd = true then 0 else 10) := by show _ = _; rw [HRW2.out, if_neg h0, if_neg (by omega)]
   clear HRW2 h1 h2 h0
   cases nm with
   | false =>
     have HR : Hid (R = 11) := by show _ = _; rw [HRW3.out, if_pos rfl]
     clear HRW3
     go_wp2_with fail
     go_ret
     rw [HR.out]
     exact ⟨rfl, HI.out.1⟩
   | true =>
   by_cases h3 : 3 < x.keys.length
   ·
    have HR : Hid (R = 6) := by show _ = _; rw [HRW3.out, if_neg (by decide), if_pos (.inl h3)]
    have h3i : (3 : Int) < (x.keys.length : Int) := by omega
    clear HRW3 h3
    go_wp2_with fail
    go_ret
    rw [HR.out]
    exact ⟨rfl, HI.out.1⟩
   have h3i : (x.keys.length : Int) ≤ (3 : Int) := by omega
   by_cases h4 : 200 < x.body.length
   ·
    have HR : Hid (R = 6) := by show _ = _; rw [HRW3.out, if_neg (by decide), if_pos (.inr h4)]
    have h4i : (200 : Int) < ((S x.body).size : Int) := by omega
    clear HRW3 h3 h4 hbl
    go_wp2_with fail
    go_ret
    rw [HR.out]
    exact ⟨rfl, HI.out.1⟩
   have h4i : ((S x.body).size : Int) ≤ (200 : Int) := by omega
   have HRW4 : Hid (R = if nd = true then 0 else 10) := by show _ = _; rw [HRW3.out, if_neg (by decide), if_neg (by omega)]
   clear HRW3 h3 h4 hbl
   cases nd with
   | false =>
     go_wp2_with fail
     go_ret
     exact ⟨by rw [HRW4.out]; rfl, HI.out.1⟩
   | true =>
     go_wp2_with fail
     go_ret
     exact ⟨by rw [HRW4.out]; rfl, HI.out.1⟩
set_option maxHeartbeats 3200000 in
theorem like_any (x : WantD) (ki due now : Int) (a a2 : Option Addr) (c c2 : Nat) (hl : x.keys.length ≤ 1048576) (W : World) (hS : Strs W a (x.keys.map S)) (hS2 : Strs W a2 (x.keys.map S)) :
 Calls Tryz.prog 17 #[.agg (cellsM (recW x ki due now) a2 c2), .agg (cellsW x a c), .int .i64 ki, .int .i64 due, .int .i64 now] W fun e w' => e = .returned (.bool true) ∧ Below W.heap.size W w' := by
 have hb1 : Below W.heap.size W ((W.alloc (.cells (cellsM (recW x ki due now) a2 c2) 56)).alloc (.cells (cellsW x a c) 33)) := ((Below.refl _ W).alloc (Nat.le_refl _) _).alloc (by rw [World.size_alloc]; omega) _
 have hA1 : ((W.alloc (.cells (cellsM (recW x ki due now) a2 c2) 56)).alloc (.cells (cellsW x a c) 33)).heap[W.heap.size]? = some (.cells (cellsM (recW x ki due now) a2 c2) 56 (0, 0)) := heap_below ((Below.refl _ _).alloc (Nat.le_refl _) _) (heap_alloc_new W _)
 have hA2 : ((W.alloc (.cells (cellsM (recW x ki due now) a2 c2) 56)).alloc (.cells (cellsW x a c) 33)).heap[W.heap.size + 1]? = some (.cells (cellsW x a c) 33 (0, 0)) := by
  have := heap_alloc_new (W.alloc (.cells (cellsM (recW x ki due now) a2 c2) 56)) (.cells (cellsW x a c) 33)
  rw [World.size_alloc] at this
  exact this
 have HB1 := Lib.hid hb1
 have HSM := Lib.hid (same_true (recW x ki due now) a2 a c2 c _ (Strs.below hS2 hb1) (Strs.below hS hb1) (by show x.keys.length ≤ _; omega))
 have hcu : (cellsW x a c).size = 5 := rfl
 have hcm : (cellsM (recW x ki due now) a2 c2).size = 10 := rfl
 have HA1 := Lib.hid hA1
 have HA2 := Lib.hid hA2
 clear hb1 hA1 hA2 hS hS2
 go_enter Tryz.func17, Tryz.ntmps17
 go_upto_region 1 with fail
 generalize (W.alloc (.cells (cellsM (recW x ki due now) a2 c2) 56)).alloc (.cells (cellsW x a c) 33) = w1 at *
 clear hcu hcm
 obtain ⟨A, hA⟩ : ∃ A, W.heap.size = A := ⟨_, rfl⟩
 rw [hA] at HA1 HA2 ⊢
 clear hA
 rw [show cellsM (recW x ki due now) a2 c2 = #[.int .i64 ki, .int .i64 x.queue, .int .i64 due, .int .i64 0, .int .i64 0, .int .i64 now, .string (S x.topic), .string (S x.tag), .string (S x.body), .slice a2 x.keys.length c2] from rfl] at HSM HA1
 rw [show cellsM (recW x ki due now) a c = #[.int .i64 ki, .int .i64 x.queue, .int .i64 due, .int .i64 0, .int .i64 0, .int .i64 now, .string (S x.topic), .string (S x.tag), .string (S x.body), .slice a x.keys.length c] from rfl] at HSM
 have p0 := cell_at HA1.out 0 _ rfl
 have p1 := cell_at HA1.out 1 _ rfl
 have p2 := cell_at HA1.out 2 _ rfl
 have p3 := cell_at HA1.out 3 _ rfl
 have p4 := cell_at HA1.out 4 _ rfl
 have p5 := cell_at HA1.out 5 _ rfl
 have p6 := cell_at HA1.out 6 _ rfl
 have p7 := cell_at HA1.out 7 _ rfl
 have p8 := cell_at HA1.out 8 _ rfl
 have p9 := cell_at HA1.out 9 _ rfl
 have k0 : w1.cell? ⟨A + 1, 0, none⟩ = some (.string (S x.topic)) := cell_at HA2.out 0 _ rfl
 have k1 : w1.cell? ⟨A + 1, 1, none⟩ = some (.int .i64 x.queue) := cell_at HA2.out 1 _ rfl
 have k2 : w1.cell? ⟨A + 1, 2, none⟩ = some (.string (S x.tag)) := cell_at HA2.out 2 _ rfl
 have k3 : w1.cell? ⟨A + 1, 3, none⟩ = some (.slice a x.keys.length c) := cell_at HA2.out 3 _ rfl
 have k4 : w1.cell? ⟨A + 1, 4, none⟩ = some (.string (S x.body)) := cell_at HA2.out 4 _ rfl
 go_wp2_with fail
 refine HSM.out.mono ?_
 rintro e w2 ⟨rfl, hb⟩
 have HB2 : Hid (Below W.heap.size W w2) := HB1.out.trans (hb.mono HB1.out.size)
 clear hb HSM
 go_wp2_with fail
 go_ret
 exact ⟨rfl, HB2.out⟩
theorem made_plain : ∀ y ∈ made3, plainL y.1 = true ∧ y.2 ≤ 3 := by decide
def wantN : WantD := ⟨[110, 111, 110, 101], 0, [], [], []⟩
def wantA : WantD := ⟨[97], 0, [], [], []⟩
theorem wantN_ok : WantOk wantN := ⟨⟨by decide, by decide⟩, by decide, by decide, by decide, by decide, fun t ht => by cases ht⟩
theorem wantA_ok : WantOk wantA := ⟨⟨by decide, by decide⟩, by decide, by decide, by decide, by decide, fun t ht => by cases ht⟩
theorem wantN_c : checkW made3 wantN = 12 := by decide
theorem wantA_c : checkW made3 wantA = 0 := by decide
theorem MadeI.fits {base : Nat} {W w : World} {D : DiskD} {now used : Int} {S0 : StoD} {X : TabD} (h : MadeI base W w D now used S0 X) : S0.T.R.e = 0 ∧ S0.T.O.recs = [] ∧ S0.T.D.waits.length = 0 := ⟨e_zero h.st.sto.tape h.its h.b, recs_zero h.st.sto.tape h.its, by rw [h.wt]; rfl⟩
set_option maxHeartbeats 12800000 in
theorem awake_any (W : World) (hT : Tab W) :
 Calls Tryz.prog 6 #[] W fun e w' => e = .returned (.bool true) ∧ Below W.heap.size W w' := by
 have HTB : Hid (∀ w, Below W.heap.size W w → TabB W.heap.size w) := fun w hb => ⟨W, hT, Nat.le_refl _, hb⟩
 have HN1 := Lib.hid (DskW.new_any 10000 W.heap.size W (Nat.le_refl _))
 clear hT
 go_enter Tryz.func6, Tryz.ntmps6
 go_wp2_with fail
 refine HN1.out.mono ?_
 rintro e w3 ⟨D, rfl, hD, hb3, h11, h12, h13, h14, h15, h16, h17, h18⟩
 have hrm : D.room = 10000 := room_new h15 (by rw [h18]; rfl)
 have HM := Lib.hid (made_any 0 w3 hD ⟨h13, h14⟩ h15 h16 hb3.size (HTB.out w3 hb3) (by decide) (by omega))
 rw [show ((0 : Nat) : Int) = 0 from rfl] at HM
 have HB3 := Lib.hid hb3
 have HRM := Lib.hid hrm
 have HDF : Hid (∀ k, D.foot k → W.heap.size ≤ k) := fun k hk => hD.base_le hk
 clear hD hb3 h11 h12 h13 h14 h15 h16 h17 h18 hrm HN1
 go_wp2_with fail
 refine HM.out.mono ?_
 rintro e w4 ⟨S0, X, rfl, hmi, hxl⟩
 have HMI := Lib.hid hmi
 have HXL := Lib.hid hxl
 have HB4 : Hid (Below W.heap.size W w4) := HB3.out.trans (hmi.mod.to_below _ HB3.out.size HDF.out)
 have HS1 := Lib.hid (send_bad wantN true wantN_ok 12 (by rw [hxl]; exact wantN_c) (by decide) none 0 w4 hmi.st (by rw [hxl]; decide) (fun i hi => absurd hi (Nat.not_lt_zero _)))
 change Hid (Calls _ _ #[_, .agg #[.string ⟨#[110, 111, 110, 101]⟩, .int .i64 0, .string ⟨#[]⟩, .slice none 0 0, .string ⟨#[]⟩], _] _ _) at HS1
 clear hmi hxl HM
 go_wp2_with fail
 refine HS1.out.mono ?_
 rintro e w5 ⟨rfl, hb5⟩
 have HB5 : Hid (Below W.heap.size W w5) := HB4.out.trans (hb5.mono HB4.out.size)
 have hmi := HMI.out.below hb5
 obtain ⟨f1, f2, f3⟩ := hmi.fits
 have hc : checkW X.l wantA = 0 := by rw [HXL.out]; exact wantA_c
 have hr := checkW_zero (ki := 1) (due := 0) (now := S0.now) (by rw [HXL.out]; exact made_plain) hc (.inl ⟨rfl, rfl⟩) rfl (by rw [hmi.now]; rfl)
 obtain ⟨g1, g2⟩ := fill_nil hr (by show (1 : Int) ≠ 0; decide)
 have hrl := (rec_len hr (by show (1 : Int) ≠ 0; decide)).2
 have HS2 := Lib.hid (send_ok wantA true wantA_ok hc (by rw [HXL.out]; exact made_plain) none 0 w5 hmi.st (by rw [HXL.out]; decide) (fun i hi => absurd hi (Nat.not_lt_zero _)) hmi.q (HTB.out w5 HB5.out) HB5.out.size (by rw [hmi.now]; rfl)
  (by rw [f1, g1]; have := hmi.room; have := HRM.out; show ((0 + (recL _).length : Nat) : Int) ≤ _; omega) (by rw [f3]; decide) (by omega) (by rw [f2]; decide))
 change Hid (Calls _ _ #[_, .agg #[.string ⟨#[97]⟩, .int .i64 0, .string ⟨#[]⟩, .slice none 0 0, .string ⟨#[]⟩], _] _ _) at HS2
 have HFT : Hid (∀ k, S0.foot k → W.heap.size ≤ k) := fun k hk => (hmi.foot k hk).elim (HDF.out k) fun h => by have := HB3.out.size; omega
 generalize ((S0.T.R.e + (fillOf S0.T.R.e (recW wantA 1 0 S0.now)).length : Nat) : Int) = idn at *
 clear hb5 hmi f1 f2 f3 hc hr g1 g2 hrl HS1 HMI
 go_wp2_with fail
 refine HS2.out.mono ?_
 rintro e w6 ⟨rfl, S1, hs, hp, hm⟩
 have HB6 : Hid (Below W.heap.size W w6) := HB5.out.trans (hm.to_below _ HB5.out.size HFT.out)
 clear hs hp hm HS2
 go_wp2_with fail
 go_ret
 exact ⟨rfl, HB6.out⟩
def firstE (l : List (List UInt8 × Nat)) (ws : List WantD) : Int := ws.foldl (fun r x => if r = 0 then checkW l x else r) 0
theorem fold_stay (l : List (List UInt8 × Nat)) : ∀ (ws : List WantD) (r : Int), r ≠ 0 → ws.foldl (fun r x => if r = 0 then checkW l x else r) r = r
 | [], _, _ => rfl
 | x :: ws, r, h => by rw [List.foldl_cons, if_neg h]; exact fold_stay l ws r h
theorem firstE_take (l : List (List UInt8 × Nat)) {ws : List WantD} {k : Nat} (h : k < ws.length) : firstE l (ws.take (k + 1)) = if firstE l (ws.take k) = 0 then checkW l ws[k] else firstE l (ws.take k) := by
 rw [List.take_succ_eq_append_getElem h]; unfold firstE; rw [List.foldl_append]; rfl
theorem firstE_hit (l : List (List UInt8 × Nat)) {ws : List WantD} {k : Nat} (h : k < ws.length) (h0 : firstE l (ws.take k) = 0) (h1 : checkW l ws[k] ≠ 0) : firstE l ws = checkW l ws[k] := by
 have h2 := firstE_take l h
 rw [if_pos h0] at h2
 have h3 : firstE l ws = (ws.drop (k + 1)).foldl (fun r x => if r = 0 then checkW l x else r) (firstE l (ws.take (k + 1))) := by
  unfold firstE; rw [← List.foldl_append, List.take_append_drop]
 rw [h3, h2, fold_stay l _ _ h1]
theorem firstE_all (l : List (List UInt8 × Nat)) : ∀ (ws : List WantD), firstE l ws = 0 → ∀ x ∈ ws, checkW l x = 0
 | [], _, x, hx => by cases hx
 | y :: ws, h, x, hx => by
   unfold firstE at h
   rw [List.foldl_cons, if_pos rfl] at h
   have hy : checkW l y = 0 := by
    by_cases h0 : checkW l y = 0
    · exact h0
    · rw [fold_stay l ws _ h0] at h; exact h
   rw [hy] at h
   rcases List.mem_cons.1 hx with rfl | hx
   · exact hy
   · exact firstE_all l ws h x hx
theorem map_all (ws : List (WantD × Option Addr × Nat)) : (ws.map (·.1)).take ws.length = ws.map (·.1) := List.take_of_length_le (by simp)
structure SentI (base : Nat) (W w : World) (sb db ob most k : Nat) (nw : Int) (ws : List WantD) (S0 : StoD) (X : TabD) : Prop where
 st : StoTab base w S0 X
 quiet : Quiet S0.T.D
 now : S0.now = nw
 blk : S0.blk = sb
 dblk : S0.T.D.blk = db
 oblk : S0.T.O.blk = ob
 room : (((most - k) * 1531 : Nat) : Int) ≤ S0.T.D.room
 wl : S0.T.D.waits.length ≤ 2 * k
 e : S0.T.R.e ≤ 1531 * k
 recs : S0.T.O.recs.map (·.2) = (ws.take k).map fun x => recW x 1 0 nw
 ft : ∀ j, S0.foot j → base ≤ j
 low : Below base W w
theorem SentI.below {base : Nat} {W w w' : World} {sb db ob most k : Nat} {now : Int} {ws : List WantD} {S0 : StoD} {X : TabD} (h : SentI base W w sb db ob most k now ws S0 X) (hb : Below w.heap.size w w') (hs : base ≤ w.heap.size) : SentI base W w' sb db ob most k now ws S0 X :=
 { h with st := h.st.below hb, low := h.low.trans (hb.mono hs) }
theorem SentI.rl {base : Nat} {W w : World} {sb db ob most k : Nat} {now : Int} {ws : List WantD} {S0 : StoD} {X : TabD} (h : SentI base W w sb db ob most k now ws S0 X) : S0.T.O.recs.length ≤ k := by
 have := congrArg List.length h.recs
 rw [List.length_map, List.length_map, List.length_take] at this
 omega
theorem rec_room {e : Nat} {m : Msg} (hl : 3 ≤ roomL e) (hr : rightL m = true) (h0 : m.kind ≠ 0) : (fillOf e m).length ≤ 1024 ∧ (recL m).length ≤ 507 := by
 obtain ⟨l1, l2⟩ := rec_len hr h0
 have hf := fillOf_len e m hl
 have hroom := room_le e
 refine ⟨?_, l2⟩
 rcases hf with ⟨e, _⟩ | ⟨e, _⟩
 · rw [e]; exact Nat.zero_le _
 · omega
theorem SentI.next {base : Nat} {W w w2 : World} {sb db ob most k : Nat} {now : Int} {ws : List WantD} {S0 S1 : StoD} {X : TabD} {sy : Bool} (h : SentI base W w sb db ob most k now ws S0 X) (hk : k < most) (hkl : k < ws.length) (hr : rightL (recW ws[k] 1 0 S0.now) = true) (hs : base ≤ w.heap.size)
 (h1 : StoTab base w2 S1 X) (hp : Put w.heap.size S0 S1 (recW ws[k] 1 0 S0.now) sy) (hm : Mod S0.foot w w2) : SentI base W w2 sb db ob most (k + 1) now ws S1 X := by
 have h0 : (recW ws[k] 1 0 S0.now).kind ≠ 0 := by show (1 : Int) ≠ 0; decide
 obtain ⟨l1, l2⟩ := rec_room (loose_e h.st.sto.tape) hr h0
 obtain ⟨_, r2, r3⟩ := put_recs h.st.sto h1.sto hp
 have hsn := put_snoc h.st.sto h1.sto hp
 have hlen : (bytesL (laidOf S0.T.R.e (recW ws[k] 1 0 S0.now))).length = (fillOf S0.T.R.e (recW ws[k] 1 0 S0.now)).length + (recL (recW ws[k] 1 0 S0.now)).length := by rw [bytes_laid, List.length_append]
 refine ⟨h1, hp.quiet, by rw [hp.same]; exact h.now, by rw [hp.same]; exact h.blk, hp.dblk.trans h.dblk, hp.oblk.trans h.oblk, ?_, ?_, ?_, ?_, fun j hj => (hp.foot j hj).elim (h.ft j) fun h2 => by omega, h.low.trans (hm.to_below _ hs h.ft)⟩
 · rw [hp.room, hlen]; have := h.room; omega
 · have := hp.wl; have := h.wl; omega
 · have := h.e; omega
 · rw [hsn, List.map_append, h.recs, List.take_succ_eq_append_getElem hkl, List.map_append, h.now]; rfl
theorem SentI.fits {base : Nat} {W w : World} {sb db ob most k : Nat} {now : Int} {ws : List WantD} {S0 : StoD} {X : TabD} (h : SentI base W w sb db ob most k now ws S0 X) (hk : k < most) {m : Msg} (hr : rightL m = true) (h0 : m.kind ≠ 0) : (((fillOf S0.T.R.e m).length + (recL m).length : Nat) : Int) ≤ S0.T.D.room := by
 obtain ⟨l1, l2⟩ := rec_room (loose_e h.st.sto.tape) hr h0
 have := h.room
 omega
theorem check_nil (x : WantD) (a : Option Addr) (c : Nat) (W : World) : Calls Tryz.prog 23 #[.pointer none, .agg (cellsW x a c)] W fun e w' => e = .returned (.int .i64 1) ∧ Below W.heap.size W w' := by
 have HB0 : Hid (Below W.heap.size W (W.alloc (.cells (cellsW x a c) 33))) := (Below.refl _ W).alloc (Nat.le_refl _) _
 go_enter Tryz.func23, Tryz.ntmps23
 go_wp2_with fail
 go_ret
 exact ⟨rfl, HB0.out⟩
set_option maxHeartbeats 6400000 in
theorem all_bad {base : Nat} {S0 : StoD} {X : TabD} (ws : List (WantD × Option Addr × Nat)) (a0 : Option Addr) (c0 : Nat) (sy : Bool) (W : World) (h : StoTab base W S0 X) (hl : X.l.length ≤ 1000) (hR : WantRow W a0 ws) (hok : ∀ p ∈ ws, WantOk p.1) (hn : ws.length ≤ 1000) (r : Int) (hr : firstE X.l (ws.map (·.1)) = r) (h0 : r ≠ 0) :
 Calls Tryz.prog 11 #[.pointer (some ⟨S0.blk, 0, none⟩), .bool sy, .slice a0 ws.length c0] W fun e w' => e = .returned (.tuple #[.slice none 0 0, .int .i64 r]) ∧ Below W.heap.size W w' := by
 have HH := Lib.hid hR
 have HST := Lib.hid h
 have HOK := Lib.hid hok
 have HR := Lib.hid hr
 have H0 := Lib.hid h0
 have HXL := Lib.hid hl
 clear hR h hok hr h0
 go_enter Tryz.func11, Tryz.ntmps11
 go_wp2_with fail
 go_loopw [18] (fun i wr => ∃ k : Nat, k ≤ ws.length ∧ i = .int .i64 (k : Int) ∧ Hid (firstE X.l ((ws.map (·.1)).take k) = 0 ∧ Below W.heap.size W wr)) (fun i _ => ws.length - (intOf i).toNat)
 case atStart => exact ⟨0, Nat.zero_le _, rfl, rfl, Below.refl _ _⟩
 case round =>
  obtain ⟨k, hk, rfl, HS⟩ := hrel
  obtain ⟨wA, rfl⟩ : ∃ wA : World, wA = wr := ⟨_, rfl⟩
  by_cases hlt : k < ws.length
  ·
   obtain ⟨g, off, rfl, hcell, hkeys⟩ := (HH.out.below HS.out.2) k hlt
   have hkm : k < (ws.map (·.1)).length := by rw [List.length_map]; exact hlt
   have HT := Lib.hid (firstE_take X.l hkm)
   have HHIT := Lib.hid (firstE_hit X.l hkm HS.out.1)
   have hgm : (ws.map (·.1))[k] = ws[k].1 := List.getElem_map _
   rw [hgm, HS.out.1, if_pos rfl] at HT
   rw [hgm, HR.out] at HHIT
   have hwo := HOK.out ws[k] (List.getElem_mem hlt)
   clear hgm hkm
   generalize ws[k] = p at *
   obtain ⟨x, a, c⟩ := p
   dsimp only at *
   have k0 : wA.cell? ⟨g, off + k * 5, none⟩ = some (.string (S x.topic)) := hcell 0 _ rfl
   have k1 : wA.cell? ⟨g, off + k * 5 + 1, none⟩ = some (.int .i64 x.queue) := hcell 1 _ rfl
   have k2 : wA.cell? ⟨g, off + k * 5 + 2, none⟩ = some (.string (S x.tag)) := hcell 2 _ rfl
   have k3 : wA.cell? ⟨g, off + k * 5 + 3, none⟩ = some (.slice a x.keys.length c) := hcell 3 _ rfl
   have k4 : wA.cell? ⟨g, off + k * 5 + 4, none⟩ = some (.string (S x.body)) := hcell 4 _ rfl
   have hba : Below wA.heap.size wA (wA.alloc (.cells #[.string (S x.topic), .int .i64 x.queue, .string (S x.tag), .slice a x.keys.length c, .string (S x.body)] 33)) := (Below.refl _ wA).alloc (Nat.le_refl _) _
   have hc2 := heap_alloc_new wA (.cells #[.string (S x.topic), .int .i64 x.queue, .string (S x.tag), .slice a x.keys.length c, .string (S x.body)] 33)
   have HC := Lib.hid (scheck_any x hwo a c _ ((HST.out.below HS.out.2).below hba) HXL.out (Strs.below hkeys hba))
   rw [show cellsW x a c = #[.string (S x.topic), .int .i64 x.queue, .string (S x.tag), .slice a x.keys.length c, .string (S x.body)] from rfl] at HC
   have HB2 : Hid (Below W.heap.size W (wA.alloc (.cells #[.string (S x.topic), .int .i64 x.queue, .string (S x.tag), .slice a x.keys.length c, .string (S x.body)] 33))) := HS.out.2.alloc HS.out.2.size _
   clear hcell hkeys hba hwo
   go_upto_region 4 with fail
   clear k0 k1 k2 k3 k4
   generalize wA.alloc (.cells #[.string (S x.topic), .int .i64 x.queue, .string (S x.tag), .slice a x.keys.length c, .string (S x.body)] 33) = w2 at *
   obtain ⟨A, hA⟩ : ∃ A, wA.heap.size = A := ⟨_, rfl⟩
   rw [hA] at hc2 ⊢
   have k0 : w2.cell? ⟨A, 0, none⟩ = some (.string (S x.topic)) := cell_at hc2 0 _ rfl
   have k1 : w2.cell? ⟨A, 1, none⟩ = some (.int .i64 x.queue) := cell_at hc2 1 _ rfl
   have k2 : w2.cell? ⟨A, 2, none⟩ = some (.string (S x.tag)) := cell_at hc2 2 _ rfl
   have k3 : w2.cell? ⟨A, 3, none⟩ = some (.slice a x.keys.length c) := cell_at hc2 3 _ rfl
   have k4 : w2.cell? ⟨A, 4, none⟩ = some (.string (S x.body)) := cell_at hc2 4 _ rfl
   clear hA hc2
   generalize checkW X.l x = q at *
   go_wp2_with fail
   refine HC.out.mono ?_
   rintro e w3 ⟨rfl, hb3⟩
   have HB3 : Hid (Below W.heap.size W w3) := HB2.out.trans (hb3.mono HB2.out.size)
   clear hb3 HC k0 k1 k2 k3 k4
   by_cases hq : q = 0
   ·
    subst hq
    clear HHIT
    go_wp2_with fail
    go_roundw
    case rel => exact ⟨k + 1, by omega, by go_num, HT.out, HB3.out⟩
    case measure => simp [intOf]; omega
   ·
    have HQ := Lib.hid (HHIT.out hq)
    have hne : (q != 0) = true := bne_iff_ne.2 hq
    clear HHIT hq
    go_wp2_with fail
    go_ret2
    exact ⟨by rw [HQ.out]; rfl, HB3.out⟩
  · obtain rfl : k = ws.length := by omega
    have h1 := HS.out.1
    rw [map_all] at h1
    exact absurd (HR.out.symm.trans h1) H0.out
theorem all_nil (x : WantD) (a0 : Option Addr) (b c : Nat) (sy : Bool) (W : World) (hb : W.heap[b]? = some (.cells (cellsW x a0 c) 33 (0, 0))) :
 Calls Tryz.prog 11 #[.pointer none, .bool sy, .slice (some ⟨b, 0, none⟩) 1 1] W fun e w' => e = .returned (.tuple #[.slice none 0 0, .int .i64 1]) ∧ Below W.heap.size W w' := by
 have HC := Lib.hid (fun w => check_nil x a0 c w)
 have HB := Lib.hid hb
 have e5 : cellsW x a0 c = #[.string (S x.topic), .int .i64 x.queue, .string (S x.tag), .slice a0 x.keys.length c, .string (S x.body)] := rfl
 rw [e5] at hb HC HB
 clear e5
 go_enter Tryz.func11, Tryz.ntmps11
 go_wp2_with fail
 go_loopw [18] (fun i wr => i = .int .i64 0 ∧ wr = W) (fun i _ => 0)
 case atStart => exact ⟨rfl, rfl⟩
 case round =>
  obtain ⟨rfl, rfl⟩ := hrel
  have k0 := cell_at hb 0 _ rfl
  have k1 := cell_at hb 1 _ rfl
  have k2 := cell_at hb 2 _ rfl
  have k3 := cell_at hb 3 _ rfl
  have k4 := cell_at hb 4 _ rfl
  have HB2 : Hid (Below wr.heap.size wr (wr.alloc (.cells #[.string (S x.topic), .int .i64 x.queue, .string (S x.tag), .slice a0 x.keys.length c, .string (S x.body)] 33))) := (Below.refl _ wr).alloc (Nat.le_refl _) _
  have hc2 := heap_alloc_new wr (.cells #[.string (S x.topic), .int .i64 x.queue, .string (S x.tag), .slice a0 x.keys.length c, .string (S x.body)] 33)
  clear hb
  go_upto_region 4 with fail
  clear k0 k1 k2 k3 k4
  generalize wr.alloc (.cells #[.string (S x.topic), .int .i64 x.queue, .string (S x.tag), .slice a0 x.keys.length c, .string (S x.body)] 33) = w2 at *
  obtain ⟨A, hA⟩ : ∃ A, wr.heap.size = A := ⟨_, rfl⟩
  rw [hA] at hc2 ⊢
  have k0 : w2.cell? ⟨A, 0, none⟩ = some (.string (S x.topic)) := cell_at hc2 0 _ rfl
  have k1 : w2.cell? ⟨A, 1, none⟩ = some (.int .i64 x.queue) := cell_at hc2 1 _ rfl
  have k2 : w2.cell? ⟨A, 2, none⟩ = some (.string (S x.tag)) := cell_at hc2 2 _ rfl
  have k3 : w2.cell? ⟨A, 3, none⟩ = some (.slice a0 x.keys.length c) := cell_at hc2 3 _ rfl
  have k4 : w2.cell? ⟨A, 4, none⟩ = some (.string (S x.body)) := cell_at hc2 4 _ rfl
  clear hA hc2
  go_wp2_with fail
  refine (HC.out _).mono ?_
  rintro e w3 ⟨rfl, hb3⟩
  have HB3 : Hid (Below wr.heap.size wr w3) := HB2.out.trans (hb3.mono HB2.out.size)
  clear hb3 HC k0 k1 k2 k3 k4
  go_wp2_with fail
  go_ret2
  exact ⟨rfl, HB3.out⟩
theorem own_lt {w : World} {base n sz : Nat} {e : TypeId} {v : Value} {xs : List Value} (h : w.ownsRow base e sz v n xs) {k : Nat} (hk : v.ownBlock = some k) : k < w.heap.size := by
 rcases h.2 with ⟨e, _⟩ | ⟨g, cap, cur, e, _, hg, _⟩
 · rw [e] at hk; cases hk
 · rw [e] at hk; cases hk; exact (Array.getElem?_eq_some_iff.1 hg).1
structure AllI (base B0 : Nat) (W w : World) (sb db ob k : Nat) (now : Int) (ws : List WantD) (sy : Bool) (S0 : StoD) (X : TabD) (v : Value) : Prop where
 si : SentI base W w sb db ob 20 k now ws S0 X
 row : w.ownsRow B0 3 1 v S0.T.O.recs.length (idsL S0.T.O.recs)
 len : S0.T.O.recs.length = k
 away : ∀ j, S0.foot j → v.ownBlock ≠ some j
 wt : sy = true → k = ws.length → S0.T.D.waits = []
set_option maxHeartbeats 12800000 in
theorem all_ok {sb db ob : Nat} {now : Int} {S0 : StoD} {X : TabD} (ws : List (WantD × Option Addr × Nat)) (a0 : Option Addr) (c0 : Nat) (sy : Bool) (W0 W : World) (h : SentI W0.heap.size W0 W sb db ob 20 0 now (ws.map (·.1)) S0 X) (hrc : S0.T.O.recs = []) (hwt : S0.T.D.waits = []) (hT : ∀ w, Below W0.heap.size W0 w → TabB W0.heap.size w) (hXl : X.l = made3) (hR : WantRow W0 a0 ws) (hok : ∀ p ∈ ws, WantOk p.1) (hn : ws.length ≤ 20) (hr : ∀ p ∈ ws, checkW made3 p.1 = 0) (hnow : badNum now = false) :
 Calls Tryz.prog 11 #[.pointer (some ⟨sb, 0, none⟩), .bool sy, .slice a0 ws.length c0] W fun e w' => ∃ S1 v, e = .returned (.tuple #[v, .int .i64 0]) ∧ AllI W0.heap.size W.heap.size W0 w' sb db ob ws.length now (ws.map (·.1)) sy S1 X v := by
 have HH := Lib.hid hR
 have HI := Lib.hid h
 have HOK := Lib.hid hok
 have HR := Lib.hid hr
 have HBS : Hid (W0.heap.size ≤ W.heap.size) := h.low.size
 have HTB := Lib.hid hT
 have HXL := Lib.hid hXl
 have HNW := Lib.hid hnow
 have HRC : Hid (S0.T.O.recs = [] ∧ S0.T.D.waits = []) := ⟨hrc, hwt⟩
 have HXF : Hid (∀ j, X.foot j → j < W.heap.size) := fun j hj => h.st.tab.lt hj
 clear hR h hok hr hT hXl hnow hrc hwt
 go_enter Tryz.func11, Tryz.ntmps11
 go_wp2_with fail
 go_loopw [18] (fun i wr => ∃ k : Nat, k ≤ ws.length ∧ i = .int .i64 (k : Int) ∧ Hid (Below W.heap.size W wr)) (fun i _ => ws.length - (intOf i).toNat)
 case atStart => exact ⟨0, Nat.zero_le _, rfl, Below.refl _ _⟩
 case round =>
  obtain ⟨k, hk, rfl, HS⟩ := hrel
  obtain ⟨wA, rfl⟩ : ∃ wA : World, wA = wr := ⟨_, rfl⟩
  by_cases hlt : k < ws.length
  ·
   obtain ⟨g, off, rfl, hcell, hkeys⟩ := (HH.out.below (HI.out.low.trans (HS.out.mono HBS.out))) k hlt
   have hwo := HOK.out ws[k] (List.getElem_mem hlt)
   have hck := HR.out ws[k] (List.getElem_mem hlt)
   generalize ws[k] = p at *
   obtain ⟨x, a, c⟩ := p
   dsimp only at *
   have k0 : wA.cell? ⟨g, off + k * 5, none⟩ = some (.string (S x.topic)) := hcell 0 _ rfl
   have k1 : wA.cell? ⟨g, off + k * 5 + 1, none⟩ = some (.int .i64 x.queue) := hcell 1 _ rfl
   have k2 : wA.cell? ⟨g, off + k * 5 + 2, none⟩ = some (.string (S x.tag)) := hcell 2 _ rfl
   have k3 : wA.cell? ⟨g, off + k * 5 + 3, none⟩ = some (.slice a x.keys.length c) := hcell 3 _ rfl
   have k4 : wA.cell? ⟨g, off + k * 5 + 4, none⟩ = some (.string (S x.body)) := hcell 4 _ rfl
   have hba : Below wA.heap.size wA (wA.alloc (.cells #[.string (S x.topic), .int .i64 x.queue, .string (S x.tag), .slice a x.keys.length c, .string (S x.body)] 33)) := (Below.refl _ wA).alloc (Nat.le_refl _) _
   have hc2 := heap_alloc_new wA (.cells #[.string (S x.topic), .int .i64 x.queue, .string (S x.tag), .slice a x.keys.length c, .string (S x.body)] 33)
   have HC := Lib.hid (scheck_any x hwo a c _ ((HI.out.st.below HS.out).below hba) (by rw [HXL.out]; decide) (Strs.below hkeys hba))
   rw [show cellsW x a c = #[.string (S x.topic), .int .i64 x.queue, .string (S x.tag), .slice a x.keys.length c, .string (S x.body)] from rfl, HXL.out, hck, HI.out.blk] at HC
   have HB2 : Hid (Below W.heap.size W (wA.alloc (.cells #[.string (S x.topic), .int .i64 x.queue, .string (S x.tag), .slice a x.keys.length c, .string (S x.body)] 33))) := HS.out.alloc HS.out.size _
   clear hcell hkeys hba hwo hck
   go_upto_region 4 with fail
   clear k0 k1 k2 k3 k4
   generalize wA.alloc (.cells #[.string (S x.topic), .int .i64 x.queue, .string (S x.tag), .slice a x.keys.length c, .string (S x.body)] 33) = w2 at *
   obtain ⟨A, hA⟩ : ∃ A, wA.heap.size = A := ⟨_, rfl⟩
   rw [hA] at hc2 ⊢
   have k0 : w2.cell? ⟨A, 0, none⟩ = some (.string (S x.topic)) := cell_at hc2 0 _ rfl
   have k1 : w2.cell? ⟨A, 1, none⟩ = some (.int .i64 x.queue) := cell_at hc2 1 _ rfl
   have k2 : w2.cell? ⟨A, 2, none⟩ = some (.string (S x.tag)) := cell_at hc2 2 _ rfl
   have k3 : w2.cell? ⟨A, 3, none⟩ = some (.slice a x.keys.length c) := cell_at hc2 3 _ rfl
   have k4 : w2.cell? ⟨A, 4, none⟩ = some (.string (S x.body)) := cell_at hc2 4 _ rfl
   clear hA hc2
   go_wp2_with fail
   refine HC.out.mono ?_
   rintro e w3 ⟨rfl, hb3⟩
   have HB3 : Hid (Below W.heap.size W w3) := HB2.out.trans (hb3.mono HB2.out.size)
   clear hb3 HC k0 k1 k2 k3 k4
   go_wp2_with fail
   go_roundw
   case rel => exact ⟨k + 1, by omega, by go_num, HB3.out⟩
   case measure => simp [intOf]; omega
  ·
   obtain rfl : k = ws.length := by omega
   clear hlt hk
   have HA0 : Hid (AllI W0.heap.size W.heap.size W0 wA sb db ob 0 now (ws.map (·.1)) sy S0 X (.slice none 0 0)) :=
    ⟨HI.out.below HS.out HBS.out, by rw [HRC.out.1]; exact ⟨rfl, .inl ⟨rfl, rfl⟩⟩, by rw [HRC.out.1]; rfl, (fun j hj h => by cases h), fun _ _ => HRC.out.2⟩
   have HW0 : Hid (W.heap.size ≤ wA.heap.size) := HS.out.size
   clear HI HRC
   go_wp2_with fail
   obtain ⟨wo, hwo⟩ : ∃ wo : World, wo = wA := ⟨_, rfl⟩
   go_loopw [31, 11] (fun i v wr => ∃ k : Nat, k ≤ ws.length ∧ i = .int .i64 (k : Int) ∧ ∃ S1, Hid (AllI W0.heap.size W.heap.size W0 wr sb db ob k now (ws.map (·.1)) sy S1 X v ∧ W.heap.size ≤ wr.heap.size)) (fun i _ _ => ws.length - (intOf i).toNat)
   case atStart => exact ⟨0, Nat.zero_le _, rfl, S0, HA0.out, HW0.out⟩
   case round =>
    clear HA0 HW0 HS hwo
    obtain ⟨k, hk, rfl, S1, HA⟩ := hrel
    obtain ⟨wB, rfl⟩ : ∃ wB : World, wB = wr := ⟨_, rfl⟩
    obtain ⟨av, cv, hv⟩ := own_slice HA.out.1.row
    rw [HA.out.1.len] at hv
    subst hv
    by_cases hlt : k < ws.length
    ·
     obtain ⟨g, off, rfl, hcell, hkeys⟩ := (HH.out.below HA.out.1.si.low) k hlt
     have hkm : k < (ws.map (·.1)).length := by rw [List.length_map]; exact hlt
     have hgm : (ws.map (·.1))[k] = ws[k].1 := List.getElem_map _
     have hwo := HOK.out ws[k] (List.getElem_mem hlt)
     have hck := HR.out ws[k] (List.getElem_mem hlt)
     have HNX := Lib.hid (fun (S2 : StoD) (sy2 : Bool) (w w2 : World) (h : SentI W0.heap.size W0 w sb db ob 20 k now (ws.map (·.1)) S1 X) (hs : W0.heap.size ≤ w.heap.size) (h1 : StoTab W0.heap.size w2 S2 X) (hp : Put w.heap.size S1 S2 (recW ws[k].1 1 0 S1.now) sy2) (hm : Mod S1.foot w w2) =>
      h.next (by omega) hkm (by rw [hgm]; exact checkW_zero made_plain hck (.inl ⟨rfl, rfl⟩) rfl (by rw [h.now]; exact HNW.out)) hs h1 (by rw [hgm]; exact hp) hm)
     clear hkm hgm
     generalize ws[k] = p at *
     obtain ⟨x, a, c⟩ := p
     dsimp only at *
     have k0 : wB.cell? ⟨g, off + k * 5, none⟩ = some (.string (S x.topic)) := hcell 0 _ rfl
     have k1 : wB.cell? ⟨g, off + k * 5 + 1, none⟩ = some (.int .i64 x.queue) := hcell 1 _ rfl
     have k2 : wB.cell? ⟨g, off + k * 5 + 2, none⟩ = some (.string (S x.tag)) := hcell 2 _ rfl
     have k3 : wB.cell? ⟨g, off + k * 5 + 3, none⟩ = some (.slice a x.keys.length c) := hcell 3 _ rfl
     have k4 : wB.cell? ⟨g, off + k * 5 + 4, none⟩ = some (.string (S x.body)) := hcell 4 _ rfl
     have hba : Below wB.heap.size wB (wB.alloc (.cells #[.string (S x.topic), .int .i64 x.queue, .string (S x.tag), .slice a x.keys.length c, .string (S x.body)] 33)) := (Below.refl _ wB).alloc (Nat.le_refl _) _
     have hc2 := heap_alloc_new wB (.cells #[.string (S x.topic), .int .i64 x.queue, .string (S x.tag), .slice a x.keys.length c, .string (S x.body)] 33)
     have hsz := hba.size
     have HBA := Lib.hid hba
     have HI2 : Hid (SentI W0.heap.size W0 (wB.alloc (.cells #[.string (S x.topic), .int .i64 x.queue, .string (S x.tag), .slice a x.keys.length c, .string (S x.body)] 33)) sb db ob 20 k now (ws.map (·.1)) S1 X) := HA.out.1.si.below hba (Nat.le_trans HBS.out HA.out.2)
     have HRO : Hid ((wB.alloc (.cells #[.string (S x.topic), .int .i64 x.queue, .string (S x.tag), .slice a x.keys.length c, .string (S x.body)] 33)).ownsRow W.heap.size 3 1 (.slice av k cv) k (idsL S1.T.O.recs)) := by
      have := OctW.ownsRow_mod HA.out.1.row (Mod.of_below (M := fun _ => False) hba) (fun _ x => x.elim)
      rw [HA.out.1.len] at this; exact this
     have hr := checkW_zero (ki := 1) (due := 0) (now := S1.now) made_plain hck (.inl ⟨rfl, rfl⟩) rfl (by rw [HA.out.1.si.now]; exact HNW.out)
     have HSE := Lib.hid (fun (sy2 : Bool) => send_ok x sy2 hwo (by rw [HXL.out]; exact hck) (by rw [HXL.out]; exact made_plain) a c _ HI2.out.st (by rw [HXL.out]; decide) (Strs.below hkeys hba) HI2.out.quiet (HTB.out _ HI2.out.low) HI2.out.low.size (by rw [HI2.out.now]; exact HNW.out)
      (HI2.out.fits (by omega) hr (by show (1 : Int) ≠ 0; decide)) (by have := HI2.out.wl; omega) (by have := HI2.out.e; omega) (by have := HI2.out.rl; omega))
     rw [show cellsW x a c = #[.string (S x.topic), .int .i64 x.queue, .string (S x.tag), .slice a x.keys.length c, .string (S x.body)] from rfl, HI2.out.blk] at HSE
     clear hcell hkeys hba hwo hck hr
     have HSZ : Hid (W.heap.size ≤ wB.heap.size ∧ wB.heap.size ≤ (wB.alloc (.cells #[.string (S x.topic), .int .i64 x.queue, .string (S x.tag), .slice a x.keys.length c, .string (S x.body)] 33)).heap.size) := ⟨HA.out.2, hsz⟩
     have HAW : Hid (∀ j, S1.foot j → (Value.slice av k cv).ownBlock ≠ some j) := HA.out.1.away
     have HLE := Lib.hid HA.out.1.len
     clear hsz HA HBA
     go_upto_region 12 with fail
     clear k0 k1 k2 k3 k4
     generalize wB.alloc (.cells #[.string (S x.topic), .int .i64 x.queue, .string (S x.tag), .slice a x.keys.length c, .string (S x.body)] 33) = w2 at *
     obtain ⟨A, hA⟩ : ∃ A, wB.heap.size = A := ⟨_, rfl⟩
     rw [hA] at hc2 HSZ ⊢
     have k0 : w2.cell? ⟨A, 0, none⟩ = some (.string (S x.topic)) := cell_at hc2 0 _ rfl
     have k1 : w2.cell? ⟨A, 1, none⟩ = some (.int .i64 x.queue) := cell_at hc2 1 _ rfl
     have k2 : w2.cell? ⟨A, 2, none⟩ = some (.string (S x.tag)) := cell_at hc2 2 _ rfl
     have k3 : w2.cell? ⟨A, 3, none⟩ = some (.slice a x.keys.length c) := cell_at hc2 3 _ rfl
     have k4 : w2.cell? ⟨A, 4, none⟩ = some (.string (S x.body)) := cell_at hc2 4 _ rfl
     clear hA hc2
     rcases (show (sy = false ∨ sy = true ∧ ¬ k + 1 = ws.length) ∨ sy = true ∧ k + 1 = ws.length by cases sy with
      | false => exact .inl (.inl rfl)
      | true => by_cases h : k + 1 = ws.length
                · exact .inr ⟨rfl, h⟩
                · exact .inl (.inr ⟨rfl, h⟩)) with (rfl | ⟨rfl, hk1⟩) | ⟨rfl, hk1⟩
     case' inl.inl =>
      obtain ⟨s9, hs9⟩ : ∃ s9 : Bool, s9 = false := ⟨_, rfl⟩
      have HWT : Hid (∀ S2 : StoD, ∀ w, Put w S1 S2 (recW x 1 0 S1.now) false → s9 = true → k + 1 = ws.length → S2.T.D.waits = []) := fun _ _ _ h => by subst hs9; cases h
     case' inl.inr =>
      have hke : ((k : Int) == (ws.length : Int) - 1) = false := beq_eq_false_iff_ne.2 (by omega)
      obtain ⟨s9, hs9⟩ : ∃ s9 : Bool, s9 = true := ⟨_, rfl⟩
      have HWT : Hid (∀ S2 : StoD, ∀ w, Put w S1 S2 (recW x 1 0 S1.now) false → s9 = true → k + 1 = ws.length → S2.T.D.waits = []) := fun _ _ _ _ h => absurd h hk1
      clear hk1
     case' inr =>
      have hke : ((k : Int) == (ws.length : Int) - 1) = true := beq_iff_eq.2 (by omega)
      obtain ⟨s9, hs9⟩ : ∃ s9 : Bool, s9 = true := ⟨_, rfl⟩
      have HWT : Hid (∀ S2 : StoD, ∀ w, Put w S1 S2 (recW x 1 0 S1.now) true → s9 = true → k + 1 = ws.length → S2.T.D.waits = []) := fun _ _ hp _ _ => hp.waits.1
      clear hk1
     all_goals
      have HS9 := Lib.hid hs9
      clear hs9
      go_wp2_with fail
      refine (HSE.out _).mono ?_
      rintro e w3 ⟨rfl, S2, hs2, hp2, hm2⟩
      obtain ⟨idn, hid⟩ : ∃ idn : Nat, idn = S1.T.R.e + (fillOf S1.T.R.e (recW x 1 0 S1.now)).length := ⟨_, rfl⟩
      rw [← hid]
      have hsn := put_snoc HI2.out.st.sto hs2.sto hp2
      rw [← hid] at hsn
      have HSN := Lib.hid hsn
      have HI3 := Lib.hid (HNX.out S2 _ w2 w3 HI2.out HI2.out.low.size hs2 hp2 hm2)
      have HW3 := Lib.hid (HWT.out S2 _ hp2)
      have hav : ∀ j, S2.foot j → (Value.slice av k cv).ownBlock ≠ some j := fun j hj e => (hp2.foot j hj).elim (fun h => HAW.out j h e) fun h => by have := own_lt HRO.out e; omega
      have hro : w3.ownsRow W.heap.size 3 1 (.slice av k cv) k (idsL S1.T.O.recs) := SegW.ownsRow_mod HRO.out hm2 (fun j hj h => HAW.out j h hj)
      have hz3 : W.heap.size ≤ w3.heap.size := by have := hm2.size; have := HSZ.out; omega
      obtain ⟨v', w8, hrun, hrow, hm8, ⟨a8, c8, hv8⟩, hob⟩ := append_int hro (idn : Int) (by omega) hz3
      subst hv8
      have HRUN := Lib.hid hrun
      have hba : Below w3.heap.size w3 (w3.alloc (.cells #[.int .i64 (idn : Int)] 3)) := (Below.refl _ w3).alloc (Nat.le_refl _) _
      have HA8 : Hid (AllI W0.heap.size W.heap.size W0 w8 sb db ob (k + 1) now (ws.map (·.1)) s9 S2 X (.slice a8 (k + 1) c8) ∧ W.heap.size ≤ w8.heap.size) := by
       have hb8 : Below W0.heap.size w3 w8 := hm8.to_below _ (Nat.le_trans HBS.out hz3) (fun j hj => by have := ownBlock_of_own hro j hj; have := HBS.out; omega)
       refine ⟨⟨{ HI3.out with st := HI3.out.st.mod hm8 (fun j hj h => hav j hj h) (fun j hj h => by have h1 := HXF.out j hj; have h2 := ownBlock_of_own hro j h; omega), low := HI3.out.low.trans hb8 }, ?_, by rw [HSN.out, List.length_append, HLE.out]; rfl, fun j hj h => ?_, by rw [List.length_map]; exact HW3.out⟩, Nat.le_trans hz3 hm8.size⟩
       · rw [HSN.out, List.length_append, HLE.out]
         have e : idsL (S1.T.O.recs ++ [(idn, recW x 1 0 S1.now)]) = idsL S1.T.O.recs ++ [.int .i64 (idn : Int)] := by unfold idsL; simp
         rw [e]; exact hrow
       · rcases hob j h with h1 | h1
         · exact hav j hj h1
         · have := HI3.out.st.sto.lt hj; omega
      clear hsn hav hro hz3 hrun hrow hm8 hob hba hs2 hp2 hm2 hid HSE HNX HI2 HRO HAW HLE HSZ HWT k0 k1 k2 k3 k4 HI3 HSN HW3
      go_wp2_with (at_builtin; refine wpList_append_run _ rfl (.tmp 54) (.tmp 56) 35 35 rfl _ _ rfl rfl _ _ HRUN.out ?_)
      go_roundw
      case rel => exact ⟨k + 1, by omega, by go_num, S2, HS9.out ▸ HA8.out⟩
      case measure => simp [intOf]; omega
    · obtain rfl : k = ws.length := by omega
      go_wp2_with fail
      go_ret2
      exact ⟨S1, _, rfl, HA.out.1⟩
end Go.Proofs.YtjjkhbfimpgplaaGreatDoor.SndW
namespace Go.Proofs.YtjjkhbfimpgplaaGreatDoor.RefW
open Go.RowKit OctMath OctW
set_option linter.unusedVariables false
set_option linter.unusedSimpArgs false
set_option maxRecDepth 100000
set_option maxHeartbeats 3200000 in
theorem ints_any (a b : Option Addr) (c d : Nat) (xs ys : List Int) (hx : xs.length ≤ 1048576) (hy : ys.length ≤ 1048576) (w : World) (ha : Ints w a xs) (hb : Ints w b ys) :
 Calls Tryz.prog 13 #[.slice a xs.length c, .slice b ys.length d] w fun e w' => e = .returned (.bool (decide (xs = ys))) ∧ Below w.heap.size w w' := by
 have HA := Lib.hid ha
 have HB := Lib.hid hb
 clear ha hb
 by_cases hl : xs.length = ys.length
 ·
  have hne : ((xs.length : Int) != (ys.length : Int)) = false := by rw [hl]; simp
  have HL := Lib.hid hl
  go_enter Tryz.func13, Tryz.ntmps13
  go_wp2_with fail
  go_loopw [5] (fun i wr => ∃ k : Nat, k ≤ xs.length ∧ i = .int .i64 (k : Int) ∧ Hid (xs.take k = ys.take k) ∧ Hid (Below w.heap.size w wr)) (fun i _ => xs.length + 1 - (intOf i).toNat)
  case atStart => exact ⟨0, by omega, rfl, rfl, Below.refl _ _⟩
  case round =>
   obtain ⟨k, hk, rfl, HE, HW⟩ := hrel
   by_cases hlt : k < xs.length
   ·
    obtain ⟨g, o, rfl, h1⟩ := (HA.out.below HW.out) k hlt
    obtain ⟨g2, o2, rfl, h2⟩ := (HB.out.below HW.out) k (by omega)
    have hkl : k < ys.length := by omega
    have s1 : xs.take (k + 1) = xs.take k ++ [xs[k]] := List.take_succ_eq_append_getElem hlt
    have s2 : ys.take (k + 1) = ys.take k ++ [ys[k]] := List.take_succ_eq_append_getElem hkl
    have HS1 := Lib.hid s1
    have HS2 := Lib.hid s2
    have HX : Hid (xs = ys → xs[k] = ys[k]) := fun e => by subst e; rfl
    clear s1 s2
    generalize xs[k] = x at *
    generalize ys[k] = y at *
    go_wp2_with fail
    have HWD : Hid (Below w.heap.size w wr.drew) := HW.out.drew
    have e1 : wr.drew.cell? ⟨g, o + k, none⟩ = some (.int .i64 x) := h1
    have e2 : wr.drew.cell? ⟨g2, o2 + k, none⟩ = some (.int .i64 y) := h2
    clear h1 h2
    refine GrowM.wp_region_s (by kernel_rfl) ?_
    refine GrowM.st_grow 9 [none, none, none, none, none, none, none, none, none] (fun u v => v = u) (by kernel_rfl) (by kernel_rfl) (fun _ => rfl) (fun _ _ _ h k => k.trans h) ?_ ?_
    · intro K hK Y hY l v w w' hR h
      simp only [List.mem_cons, List.not_mem_nil, or_false] at hK
      rcases hK with rfl | rfl | rfl | rfl | rfl | rfl | rfl | rfl | rfl <;> simp only [reduceCtorEq, Option.some.injEq, Sum.inr.injEq] at hY
    simp only [List.take_succ_cons, List.take_zero, List.drop_succ_cons, List.drop_zero, Nat.reduceSub]
    iterate 9
     refine GrowN.g_det rfl ?_
     apply Exists.intro
     refine ⟨fun w hw hF => ?_, ?_⟩
     · obtain rfl := hw.symm
       clear hF
       go_simp
       first | exact rfl | exact ⟨rfl, rfl⟩
     simp only [Act.put, List.setIfInBounds_toArray, List.set_cons_zero, List.set_cons_succ]
    refine GrowN.g_nil fun wz hwz hF => ?_
    obtain rfl := hwz.symm
    clear hF
    refine GrowM.st_end rfl ?_
    by_cases hxy : x = y
    ·
     have hn : (x != y) = false := by simp [hxy]
     have HE2 : Hid (xs.take (k + 1) = ys.take (k + 1)) := by show _ = _; rw [HS1.out, HS2.out, HE.out, hxy]
     clear hxy
     go_wp2_with fail
     go_roundw
     case rel => exact ⟨k + 1, by omega, by go_num, HE2, HWD⟩
     case measure => simp [intOf]; omega
    ·
     have hn : (x != y) = true := by simp [hxy]
     have HF : Hid (decide (xs = ys) = false) := decide_eq_false fun e => hxy (HX.out e)
     clear hxy
     go_wp2_with fail
     go_ret
     rw [HF.out]
     exact ⟨rfl, HWD.out⟩
   ·
    obtain rfl : k = xs.length := by omega
    have HT : Hid (decide (xs = ys) = true) := by
     refine decide_eq_true ?_
     have := HE.out
     rw [List.take_length, HL.out, List.take_length] at this
     exact this
    go_wp2_with fail
    go_ret
    rw [HT.out]
    exact ⟨rfl, HW.out⟩
 ·
  have hne : ((xs.length : Int) != (ys.length : Int)) = true := by simp; omega
  have HF : Hid (decide (xs = ys) = false) := decide_eq_false fun e => hl (by rw [e])
  go_enter Tryz.func13, Tryz.ntmps13
  go_wp2_with fail
  go_ret
  rw [HF.out]
  exact ⟨rfl, Below.refl _ _⟩
end Go.Proofs.YtjjkhbfimpgplaaGreatDoor.RefW
namespace Go.Proofs.YtjjkhbfimpgplaaGreatDoor.SndW
open Go.RowKit Go.MapKept Go.Sort OctMath RecMath RecW DskW SegW MapG TapeW TapeMath PendW CacheW StoW TopW NameMath
set_option linter.unusedVariables false
set_option linter.unusedSimpArgs false
set_option maxRecDepth 100000
theorem place_zero (l : List (Nat × Msg)) : TapeW.placeL l 0 = 0 := by
 unfold TapeW.placeL idI
 rw [List.countP_eq_zero]
 intro i hi
 obtain ⟨y, hy, rfl⟩ := List.mem_map.1 hi
 simp
theorem ints_own {base n : Nat} {w : World} {v : Value} {l : List (Nat × Msg)} (h : w.ownsRow base 3 1 v n (idsL l)) : ∃ a c, v = .slice a n c ∧ OctW.Ints w a (l.map fun p => (p.1 : Int)) := by
 obtain ⟨a, c, hv, hr, hn⟩ := Row1.of_own h
 refine ⟨a, c, hv, fun i hi => ?_⟩
 have hi2 : i < l.length := by rw [List.length_map] at hi; exact hi
 obtain ⟨b, off, e, hc⟩ := hr i (by unfold idsL; rw [List.length_map]; exact hi2)
 refine ⟨b, off, e, ?_⟩
 rw [hc]
 simp [idsL]
theorem tids_any {base : Nat} {T : TapeD} (w : World) (h : TapeAt base w T) (hl : T.O.recs.length ≤ 1000000) :
 Calls Tryz.prog 14 #[.pointer (some ⟨T.O.blk, 0, none⟩), .int .i64 0] w fun e w' => ∃ a c, e = .returned (.slice a T.O.recs.length c) ∧ OctW.Ints w' a (T.O.recs.map fun p => (p.1 : Int)) ∧ Below w.heap.size w w' :=
 (ids_any 0 w h.own (by rw [h.recs]; exact (recs_sorted h.fits).2) (by omega) (place_zero _)).mono fun e w' ⟨v, he, ho, hb⟩ => by
  obtain ⟨a, c, hv, hi⟩ := ints_own ho
  exact ⟨a, c, by rw [he, hv], hi, hb⟩
def wantZ : WantD := ⟨[], 0, [], [], []⟩
set_option maxHeartbeats 25600000 in
theorem sendall_any (ws : List (WantD × Option Addr × Nat)) (sy : Bool) (a0 : Option Addr) (c0 : Nat) (W : World) (hT : Tab W) (hR : WantRow W a0 ws) (hI : ∀ p ∈ ws, inI p.1.queue) (hcap : ∀ p ∈ ws, p.1.keys.length ≤ p.2.2) (hl : ws.length ≤ 9223372036854775807) :
 Calls Tryz.prog 3 #[.slice a0 ws.length c0, .bool sy] W fun e w' => e = .returned (.bool true) ∧ Below W.heap.size W w' := by
 have HAW := Lib.hid (awake_any W hT)
 have HTB : Hid (∀ w, Below W.heap.size W w → TabB W.heap.size w) := fun w hb => ⟨W, hT, Nat.le_refl _, hb⟩
 have HH := Lib.hid hR
 have HI := Lib.hid hI
 have HCP := Lib.hid hcap
 clear hT hR hI hcap
 go_enter Tryz.func3, Tryz.ntmps3
 go_wp2_with fail
 refine HAW.out.mono ?_
 rintro e w1 ⟨rfl, hb1⟩
 have HB1 := Lib.hid hb1
 clear hb1 HAW
 by_cases h20 : 20 < ws.length
 ·
  have h20' : (20 : Int) < (ws.length : Int) := by omega
  go_wp2_with fail
  go_ret
  exact ⟨rfl, HB1.out⟩
 have h20' : (ws.length : Int) ≤ (20 : Int) := by omega
 have HGR := Lib.hid (great_any ws a0 c0 w1 (HH.out.below HB1.out) (by omega))
 go_wp2_with fail
 refine HGR.out.mono ?_
 rintro e w2 ⟨rfl, hb2⟩
 have HB2 := Lib.hid (HB1.out.trans (hb2.mono HB1.out.size))
 clear hb2 HGR HB1
 obtain ⟨gr, hgr⟩ : ∃ gr, gr = ws.any fun p => greatX p.1 := ⟨_, rfl⟩
 rw [← hgr]
 cases gr with
 | true =>
   clear hgr
   go_wp2_with fail
   go_ret
   exact ⟨rfl, HB2.out⟩
 | false =>
 have HNG : Hid (∀ p ∈ ws, WantOk p.1 ∧ p.1.topic.length ≤ 100 ∧ p.1.body.length ≤ 1000 ∧ p.1.keys.length ≤ 10) := fun p hp => want_ok (HI.out p hp) (by
  have := List.any_eq_false.1 hgr.symm p hp
  simpa using this)
 clear hgr
 have HN1 := Lib.hid (DskW.new_any 1048576 W.heap.size w2 HB2.out.size)
 go_wp2_with fail
 refine HN1.out.mono ?_
 rintro e w3 ⟨D, rfl, hD, hb3, h11, h12, h13, h14, h15, h16, h17, h18⟩
 have hrm : D.room = 1048576 := room_new h15 (by rw [h18]; rfl)
 have HB3 : Hid (Below W.heap.size W w3) := HB2.out.trans (hb3.mono HB2.out.size)
 have HM := Lib.hid (made_any 7 w3 hD ⟨h13, h14⟩ h15 h16 HB3.out.size (HTB.out w3 HB3.out) (by decide) (by omega))
 rw [show ((7 : Nat) : Int) = 7 from rfl] at HM
 have HRM := Lib.hid hrm
 have HDF : Hid (∀ k, D.foot k → W.heap.size ≤ k) := fun k hk => hD.base_le hk
 clear hD hb3 h11 h12 h13 h14 h15 h16 h17 h18 hrm HN1 HB2
 go_wp2_with fail
 refine HM.out.mono ?_
 rintro e w4 ⟨S0, X, rfl, hmi, hxl⟩
 have HXL := Lib.hid hxl
 have HB4 : Hid (Below W.heap.size W w4) := HB3.out.trans (hmi.mod.to_below _ HB3.out.size HDF.out)
 have hft : ∀ k, S0.foot k → W.heap.size ≤ k := fun k hk => (hmi.foot k hk).elim (HDF.out k) fun h => by have := HB3.out.size; omega
 obtain ⟨f1, f2, f3⟩ := hmi.fits
 have HS4 : Hid (SentI W.heap.size W w4 S0.blk D.blk S0.T.O.blk 20 0 7 (ws.map (·.1)) S0 X ∧ S0.T.O.recs = [] ∧ S0.T.D.waits = [] ∧ S0.T.R.e = 0) :=
  ⟨⟨hmi.st, hmi.q, hmi.now, rfl, hmi.db, rfl, by have := hmi.room; have := HRM.out; omega, by rw [f3]; exact Nat.zero_le _, by rw [f1]; exact Nat.zero_le _, by rw [f2]; rfl, hft, HB4.out⟩, f2, hmi.wt, f1⟩
 clear hmi hxl HM hft f1 f2 f3 HRM HDF HB3
 generalize S0.blk = sb at *
 generalize S0.T.O.blk = ob at *
 generalize D.blk = db at *
 go_wp2_with fail
 go_loopw [38, 8] (fun i r wr => ∃ k : Nat, k ≤ ws.length ∧ i = .int .i64 (k : Int) ∧ r = .int .i64 (firstE made3 ((ws.map (·.1)).take k)) ∧ Hid (Below w4.heap.size w4 wr)) (fun i _ _ => ws.length - (intOf i).toNat)
 case atStart => exact ⟨0, Nat.zero_le _, rfl, rfl, Below.refl _ _⟩
 case round =>
  obtain ⟨k, hk, rfl, rfl, HS⟩ := hrel
  obtain ⟨wA, rfl⟩ : ∃ wA : World, wA = wr := ⟨_, rfl⟩
  have HBA : Hid (Below W.heap.size W wA) := HB4.out.trans (HS.out.mono HB4.out.size)
  by_cases hlt : k < ws.length
  ·
   obtain ⟨g, off, rfl, hcell, hkeys⟩ := (HH.out.below HBA.out) k hlt
   have hkm : k < (ws.map (·.1)).length := by rw [List.length_map]; exact hlt
   have HFT := Lib.hid (firstE_take made3 hkm)
   have hgm : (ws.map (·.1))[k] = ws[k].1 := List.getElem_map _
   rw [hgm] at HFT
   have hwo := (HNG.out ws[k] (List.getElem_mem hlt)).1
   have hcp := HCP.out ws[k] (List.getElem_mem hlt)
   clear hgm hkm
   generalize ws[k] = p at *
   obtain ⟨x, a, c⟩ := p
   dsimp only at *
   have k0 : wA.cell? ⟨g, off + k * 5, none⟩ = some (.string (S x.topic)) := hcell 0 _ rfl
   have k1 : wA.cell? ⟨g, off + k * 5 + 1, none⟩ = some (.int .i64 x.queue) := hcell 1 _ rfl
   have k2 : wA.cell? ⟨g, off + k * 5 + 2, none⟩ = some (.string (S x.tag)) := hcell 2 _ rfl
   have k3 : wA.cell? ⟨g, off + k * 5 + 3, none⟩ = some (.slice a x.keys.length c) := hcell 3 _ rfl
   have k4 : wA.cell? ⟨g, off + k * 5 + 4, none⟩ = some (.string (S x.body)) := hcell 4 _ rfl
   have hba : Below wA.heap.size wA (wA.alloc (.cells #[.string (S x.topic), .int .i64 x.queue, .string (S x.tag), .slice a x.keys.length c, .string (S x.body)] 33)) := (Below.refl _ wA).alloc (Nat.le_refl _) _
   have hc2 := heap_alloc_new wA (.cells #[.string (S x.topic), .int .i64 x.queue, .string (S x.tag), .slice a x.keys.length c, .string (S x.body)] 33)
   have HC := Lib.hid (right_any x hwo a c hcp _ (Strs.below hkeys hba))
   rw [show cellsW x a c = #[.string (S x.topic), .int .i64 x.queue, .string (S x.tag), .slice a x.keys.length c, .string (S x.body)] from rfl, right_check] at HC
   have HB2 : Hid (Below w4.heap.size w4 (wA.alloc (.cells #[.string (S x.topic), .int .i64 x.queue, .string (S x.tag), .slice a x.keys.length c, .string (S x.body)] 33))) := HS.out.alloc HS.out.size _
   clear hcell hkeys hba hwo hcp
   go_upto_region 13 with fail
   clear k0 k1 k2 k3 k4
   generalize wA.alloc (.cells #[.string (S x.topic), .int .i64 x.queue, .string (S x.tag), .slice a x.keys.length c, .string (S x.body)] 33) = w5 at *
   obtain ⟨A, hA⟩ : ∃ A, wA.heap.size = A := ⟨_, rfl⟩
   rw [hA] at hc2 ⊢
   have k0 : w5.cell? ⟨A, 0, none⟩ = some (.string (S x.topic)) := cell_at hc2 0 _ rfl
   have k1 : w5.cell? ⟨A, 1, none⟩ = some (.int .i64 x.queue) := cell_at hc2 1 _ rfl
   have k2 : w5.cell? ⟨A, 2, none⟩ = some (.string (S x.tag)) := cell_at hc2 2 _ rfl
   have k3 : w5.cell? ⟨A, 3, none⟩ = some (.slice a x.keys.length c) := cell_at hc2 3 _ rfl
   have k4 : w5.cell? ⟨A, 4, none⟩ = some (.string (S x.body)) := cell_at hc2 4 _ rfl
   clear hA hc2
   generalize firstE made3 ((ws.map (·.1)).take k) = fk at *
   generalize checkW made3 x = q at *
   by_cases hq : fk = 0
   ·
    rw [if_pos hq] at HFT
    subst hq
    go_wp2_with fail
    refine HC.out.mono ?_
    rintro e w6 ⟨rfl, hb6⟩
    have HB6 : Hid (Below w4.heap.size w4 w6) := HB2.out.trans (hb6.mono HB2.out.size)
    clear hb6 HC k0 k1 k2 k3 k4
    go_wp2_with fail
    go_roundw
    case rel => exact ⟨k + 1, by omega, by go_num, by rw [HFT.out], HB6.out⟩
    case measure => simp [intOf]; omega
   ·
    rw [if_neg hq] at HFT
    have hne : (fk == 0) = false := beq_eq_false_iff_ne.2 hq
    clear hq HC
    go_wp2_with fail
    go_roundw
    case rel => exact ⟨k + 1, by omega, by go_num, by rw [HFT.out], HB2.out⟩
    case measure => simp [intOf]; omega
  ·
   obtain rfl : k = ws.length := by omega
   have hfe : firstE made3 ((ws.map (·.1)).take ws.length) = firstE made3 (ws.map (·.1)) := by rw [map_all]
   rw [hfe]
   have HSA : Hid (SentI W.heap.size W wA sb db ob 20 0 7 (ws.map (·.1)) S0 X) := HS4.out.1.below HS.out HB4.out.size
   have HNL : Hid (∀ w, Calls Tryz.prog 11 #[.pointer none, .bool sy, .slice (some ⟨w.heap.size, 0, none⟩) 1 1] (w.alloc (.cells #[.string ⟨#[]⟩, .int .i64 0, .string ⟨#[]⟩, .slice none 0 0, .string ⟨#[]⟩] 33)) fun e w' => e = .returned (.tuple #[.slice none 0 0, .int .i64 1]) ∧ Below w.heap.size w w') := fun w =>
    (all_nil wantZ none w.heap.size 0 sy _ (heap_alloc_new w _)).mono fun e w' ⟨he, hb⟩ => ⟨he, ((Below.refl _ w).alloc (Nat.le_refl _) _).trans (hb.mono (by rw [World.size_alloc]; omega))⟩
   obtain ⟨fe, hfe2⟩ : ∃ fe, fe = firstE made3 (ws.map (·.1)) := ⟨_, rfl⟩
   rw [← hfe2]
   clear hfe hlt hk
   by_cases h0 : fe = 0
   case neg =>
    have HBD := Lib.hid (all_bad ws a0 c0 sy wA HSA.out.st (by rw [HXL.out]; decide) (HH.out.below HBA.out) (fun p hp => (HNG.out p hp).1) (by omega) fe (by rw [HXL.out]; exact hfe2.symm) h0)
    rw [HSA.out.blk] at HBD
    have hne : (fe != 0) = true := bne_iff_ne.2 h0
    have HE0 : Hid (S0.T.R.e = 0) := HS4.out.2.2.2
    clear h0 hfe2 HS4
    go_wp2_with fail
    refine HBD.out.mono ?_
    rintro e w5 ⟨rfl, hb5⟩
    have HS5 := Lib.hid (HSA.out.below hb5 HBA.out.size)
    clear hb5 HBD HSA
    go_wp2_with fail
    refine (HNL.out w5).mono ?_
    rintro e w6 ⟨rfl, hb6⟩
    have HS6 := Lib.hid (HS5.out.below hb6 HS5.out.low.size)
    clear hb6 HNL HS5
    have c0' : w6.cell? ⟨sb, 0, none⟩ = some (.pointer (some ⟨ob, 0, none⟩)) := by
     rw [← HS6.out.blk, ← HS6.out.oblk]; exact HS6.out.st.sto.cell 0 _ rfl
    have HEN := Lib.hid (TapeW.end_any w6 HS6.out.st.sto.tape)
    rw [HS6.out.oblk, HE0.out] at HEN
    go_wp2_with fail
    refine HEN.out.mono ?_
    rintro e w7 ⟨rfl, he⟩
    obtain rfl := he.symm
    clear HEN c0'
    go_wp2_with fail
    go_ret
    exact ⟨rfl, HS6.out.low⟩
   case pos =>
    subst h0
    have HCK : Hid (∀ p ∈ ws, checkW made3 p.1 = 0) := fun p hp => firstE_all made3 _ hfe2.symm p.1 (List.mem_map.2 ⟨p, hp, rfl⟩)
    have HAO := Lib.hid (all_ok ws a0 c0 sy W wA HSA.out HS4.out.2.1 HS4.out.2.2.1 HTB.out HXL.out HH.out (fun p hp => (HNG.out p hp).1) (by omega) HCK.out rfl)
    clear hfe2 HS4 HSA
    go_wp2_with fail
    refine HAO.out.mono ?_
    rintro e w5 ⟨S1, v, rfl, ha⟩
    have HA5 := Lib.hid ha
    clear ha HAO
    go_wp2_with fail
    refine (HNL.out w5).mono ?_
    rintro e w6 ⟨rfl, hb6⟩
    have HS6 := Lib.hid (HA5.out.si.below hb6 HA5.out.si.low.size)
    obtain ⟨av, cv, hv, hvi⟩ := ints_own (OctW.ownsRow_mod HA5.out.row (Mod.of_below (M := fun _ => False) hb6) (fun _ x => x.elim))
    subst hv
    have HVI := Lib.hid hvi
    have HLE := Lib.hid HA5.out.len
    have HWT : Hid (sy = true → S1.T.D.waits = []) := fun h => HA5.out.wt h (by rw [List.length_map])
    have c0' : w6.cell? ⟨sb, 0, none⟩ = some (.pointer (some ⟨ob, 0, none⟩)) := by
     rw [← HS6.out.blk, ← HS6.out.oblk]; exact HS6.out.st.sto.cell 0 _ rfl
    have HID := Lib.hid (tids_any w6 HS6.out.st.sto.tape (by have := HS6.out.rl; omega))
    rw [HS6.out.oblk] at HID
    clear hb6 HNL HA5 hvi
    go_wp2_with fail
    refine HID.out.mono ?_
    rintro e w7 ⟨a7, c7, rfl, hi7, hb7⟩
    have HS7 := Lib.hid (HS6.out.below hb7 HS6.out.low.size)
    have HIN := Lib.hid (RefW.ints_any av a7 cv c7 (S1.T.O.recs.map fun p => (p.1 : Int)) (S1.T.O.recs.map fun p => (p.1 : Int)) (by rw [List.length_map, HLE.out]; omega) (by rw [List.length_map, HLE.out]; omega) w7 (HVI.out.below hb7) hi7)
    rw [List.length_map, decide_eq_true rfl] at HIN
    have HV7 := Lib.hid (HVI.out.below hb7)
    clear hi7 hb7 HID HVI HS6 c0'
    go_wp2_with fail
    refine HIN.out.mono ?_
    rintro e w8 ⟨rfl, hb8⟩
    have HS8 := Lib.hid (HS7.out.below hb8 HS7.out.low.size)
    have HV8 := Lib.hid (HV7.out.below hb8)
    have HWA := Lib.hid (DskW.waits_any w8 HS8.out.st.sto.tape.whole.dsk)
    rw [HS8.out.dblk] at HWA
    clear hb8 HIN HS7 HV7
    obtain ⟨N, hN⟩ : ∃ N, S1.T.O.recs.length = N := ⟨_, rfl⟩
    rw [hN]
    have HRC : Hid (∀ (k : Nat) (hk : k < N) (hw : k < ws.length), ∃ id, (id, recW ws[k].1 1 0 7) ∈ S1.T.O.recs ∧ ∃ h2 : k < (S1.T.O.recs.map fun p => (p.1 : Int)).length, (S1.T.O.recs.map fun p => (p.1 : Int))[k] = (id : Int)) := fun k hk hw => by
     have h1 : k < S1.T.O.recs.length := by omega
     have h2 : (S1.T.O.recs[k]).2 = recW ws[k].1 1 0 7 := by
      have h3 : (S1.T.O.recs.map (·.2))[k]? = (((ws.map (·.1)).take ws.length).map fun x => recW x 1 0 7)[k]? := by rw [HS8.out.recs]
      have h4 : ((ws.map (·.1)).take ws.length).length = ws.length := by rw [List.length_take, List.length_map]; omega
      rw [List.getElem?_eq_getElem (by rw [List.length_map]; exact h1), List.getElem?_eq_getElem (by rw [List.length_map, h4]; exact hw), List.getElem_map, List.getElem_map, List.getElem_take, List.getElem_map] at h3
      exact Option.some.inj h3
     exact ⟨(S1.T.O.recs[k]).1, by rw [← h2]; exact List.getElem_mem h1, by rw [List.length_map]; exact h1, List.getElem_map _⟩
    have HNE : Hid (N = ws.length) := hN.symm.trans HLE.out
    clear HLE hN
    cases sy
    case' false => go_upto_region 24 with fail
    case' true =>
     rw [HWT.out rfl] at HWA
     go_wp2_with fail
     refine HWA.out.mono ?_
     rintro e w ⟨rfl, he⟩
     obtain rfl := he.symm
     go_upto_region 24 with fail
    all_goals
     clear HWA HWT
     go_wp2_with fail
     go_loopw [99] (fun i wr => ∃ k : Nat, k ≤ N ∧ i = .int .i64 (k : Int) ∧ Hid (Below w8.heap.size w8 wr)) (fun i _ => N - (intOf i).toNat)
     case atStart => exact ⟨0, Nat.zero_le _, rfl, Below.refl _ _⟩
     case round =>
      obtain ⟨k, hk, rfl, HS⟩ := hrel
      obtain ⟨wB, rfl⟩ : ∃ wB : World, wB = wr := ⟨_, rfl⟩
      have HSB := Lib.hid (HS8.out.below HS.out HS8.out.low.size)
      by_cases hlt : k < N
      ·
       have hkw : k < ws.length := by rw [← HNE.out]; exact hlt
       obtain ⟨id, hmem, h2, hidk⟩ := HRC.out k hlt hkw
       obtain ⟨b, off, rfl, hcv⟩ := (HV8.out.below HS.out) k h2
       rw [hidk] at hcv
       have hcp := (HNG.out ws[k] (List.getElem_mem hkw)).1.keys
       have HWR := Lib.hid (fun w (hb : Below W.heap.size W w) => (HH.out.below hb) k hkw)
       generalize ws[k] = p at *
       obtain ⟨x, a, c⟩ := p
       dsimp only at *
       have HRD := Lib.hid (TapeW.tread_any id _ wB HSB.out.st.sto.tape HSB.out.quiet.up (HTB.out wB HSB.out.low) HSB.out.low.size hmem)
       rw [HSB.out.oblk] at HRD
       have c0' : wB.cell? ⟨sb, 0, none⟩ = some (.pointer (some ⟨ob, 0, none⟩)) := by
        rw [← HSB.out.blk, ← HSB.out.oblk]; exact HSB.out.st.sto.cell 0 _ rfl
       have HKL := Lib.hid hcp
       have HLB := Lib.hid HSB.out.low
       clear hmem hidk hcp h2 HSB
       go_wp2_with fail
       refine HRD.out.mono ?_
       rintro e w9 ⟨a2, c2, rfl, hs9, hb9, _⟩
       rw [show cellsM (recW x 1 0 7) a2 c2 = #[.int .i64 1, .int .i64 x.queue, .int .i64 0, .int .i64 0, .int .i64 0, .int .i64 7, .string (S x.topic), .string (S x.tag), .string (S x.body), .slice a2 x.keys.length c2] from rfl]
       have HL9 : Hid (Below W.heap.size W w9) := HLB.out.trans (hb9.mono HLB.out.size)
       have hba : Below w9.heap.size w9 (w9.alloc (.cells #[.int .i64 1, .int .i64 x.queue, .int .i64 0, .int .i64 0, .int .i64 0, .int .i64 7, .string (S x.topic), .string (S x.tag), .string (S x.body), .slice a2 x.keys.length c2] 56)) := (Below.refl _ w9).alloc (Nat.le_refl _) _
       have HL10 : Hid (Below W.heap.size W (w9.alloc (.cells #[.int .i64 1, .int .i64 x.queue, .int .i64 0, .int .i64 0, .int .i64 0, .int .i64 7, .string (S x.topic), .string (S x.tag), .string (S x.body), .slice a2 x.keys.length c2] 56))) := HL9.out.trans (hba.mono HL9.out.size)
       have HS10 : Hid (Below w8.heap.size w8 (w9.alloc (.cells #[.int .i64 1, .int .i64 x.queue, .int .i64 0, .int .i64 0, .int .i64 0, .int .i64 7, .string (S x.topic), .string (S x.tag), .string (S x.body), .slice a2 x.keys.length c2] 56))) := HS.out.trans ((hb9.trans (hba.mono hb9.size)).mono HS.out.size)
       obtain ⟨g, off2, hrow, hcell, hkeys⟩ := HWR.out _ HL10.out
       have hs10 := Strs.below hs9 hba
       have HLI := Lib.hid (fun w (hb : Below (w9.alloc (.cells #[.int .i64 1, .int .i64 x.queue, .int .i64 0, .int .i64 0, .int .i64 0, .int .i64 7, .string (S x.topic), .string (S x.tag), .string (S x.body), .slice a2 x.keys.length c2] 56)).heap.size (w9.alloc (.cells #[.int .i64 1, .int .i64 x.queue, .int .i64 0, .int .i64 0, .int .i64 0, .int .i64 7, .string (S x.topic), .string (S x.tag), .string (S x.body), .slice a2 x.keys.length c2] 56)) w) => like_any x 1 0 7 a a2 c c2 HKL.out w (Strs.below hkeys hb) (Strs.below hs10 hb))
       rw [show cellsM (recW x 1 0 7) a2 c2 = #[.int .i64 1, .int .i64 x.queue, .int .i64 0, .int .i64 0, .int .i64 0, .int .i64 7, .string (S x.topic), .string (S x.tag), .string (S x.body), .slice a2 x.keys.length c2] from rfl, show cellsW x a c = #[.string (S x.topic), .int .i64 x.queue, .string (S x.tag), .slice a x.keys.length c, .string (S x.body)] from rfl] at HLI
       have hc10 := heap_alloc_new w9 (.cells #[.int .i64 1, .int .i64 x.queue, .int .i64 0, .int .i64 0, .int .i64 0, .int .i64 7, .string (S x.topic), .string (S x.tag), .string (S x.body), .slice a2 x.keys.length c2] 56)
       have HCW := Lib.hid hcell
       have HROW := Lib.hid hrow
       clear hs9 hs10 hb9 hba hrow hcell hkeys HRD c0' HWR HKL HLB HL9 hcv
       go_upto_region 28 with fail
       generalize w9.alloc (.cells #[.int .i64 1, .int .i64 x.queue, .int .i64 0, .int .i64 0, .int .i64 0, .int .i64 7, .string (S x.topic), .string (S x.tag), .string (S x.body), .slice a2 x.keys.length c2] 56) = w10 at *
       obtain ⟨A4, hA4⟩ : ∃ A4, w9.heap.size = A4 := ⟨_, rfl⟩
       rw [hA4] at hc10 ⊢
       obtain hrow := HROW.out
       subst hrow
       have HKR : Hid (∀ w, RecW.ExtR w10.drew w → RecW.Boxed w A4 #[.int .i64 1, .int .i64 x.queue, .int .i64 0, .int .i64 0, .int .i64 0, .int .i64 7, .string (S x.topic), .string (S x.tag), .string (S x.body), .slice a2 x.keys.length c2] ∧ w.cell? ⟨g, off2 + k * 5, none⟩ = some (.string (S x.topic)) ∧ w.cell? ⟨g, off2 + k * 5 + 1, none⟩ = some (.int .i64 x.queue) ∧ w.cell? ⟨g, off2 + k * 5 + 2, none⟩ = some (.string (S x.tag)) ∧
        w.cell? ⟨g, off2 + k * 5 + 3, none⟩ = some (.slice a x.keys.length c) ∧ w.cell? ⟨g, off2 + k * 5 + 4, none⟩ = some (.string (S x.body)) ∧ Below w10.heap.size w10 w) := fun w hw => by
        have hb : Below w10.heap.size w10 w := ((Below.refl _ w10).drew).trans hw
        have hcw : ∀ j v, (cellsW x a c)[j]? = some v → w.cell? ⟨g, off2 + k * 5 + j, none⟩ = some v := fun j v hv => by
         have h1 := HCW.out j v hv
         rw [hb.cell (cell_lt h1)]; exact h1
        exact ⟨fun j v hv => cell_at (heap_below hb hc10) j v hv, hcw 0 _ rfl, hcw 1 _ rfl, hcw 2 _ rfl, hcw 3 _ rfl, hcw 4 _ rfl, hb⟩
       clear hA4 hc10 HCW HROW
       refine GrowN.wp_region_n 8 [none, none, none, none, none, none, none, none] RecW.ExtR (by kernel_rfl) (by kernel_rfl) (by kernel_rfl) RecW.ExtR.refl (fun _ _ _ => RecW.ExtR.trans) ?_ ?_
       · intro K hK Y hY l v w w' hR h
         simp only [List.mem_cons, List.not_mem_nil, or_false] at hK
         rcases hK with rfl | rfl | rfl | rfl | rfl | rfl | rfl | rfl <;> simp only [reduceCtorEq, Option.some.injEq, Sum.inr.injEq] at hY
       simp only [List.take_succ_cons, List.take_zero, List.drop_succ_cons, List.drop_zero]
       iterate 8
        refine GrowN.g_det rfl ?_
        apply Exists.intro
        refine ⟨fun w hw hF => ?_, ?_⟩
        ·
         clear hF
         obtain ⟨hp, k0, k1, k2, k3, k4, _⟩ := HKR.out w hw
         have p0 := hp 0 _ rfl
         have p1 := hp 1 _ rfl
         have p2 := hp 2 _ rfl
         have p3 := hp 3 _ rfl
         have p4 := hp 4 _ rfl
         have p5 := hp 5 _ rfl
         have p6 := hp 6 _ rfl
         have p7 := hp 7 _ rfl
         have p8 := hp 8 _ rfl
         have p9 := hp 9 _ rfl
         clear hp
         go_simp
         exact ⟨rfl, RecW.ExtR.refl _⟩
        simp only [Act.put, List.setIfInBounds_toArray, List.set_cons_zero, List.set_cons_succ]
       refine GrowN.g_nil fun w11' hw11 hF => ?_
       clear hF
       obtain ⟨_, _, _, _, _, _, hb11'⟩ := HKR.out w11' hw11
       have HLI := HLI.out w11' hb11'
       have HS10 : Hid (Below w8.heap.size w8 w11') := HS10.out.trans (hb11'.mono HS10.out.size)
       have HLI := Lib.hid HLI
       clear hw11 hb11' HKR
       go_wp2_with fail
       refine HLI.out.mono ?_
       rintro e w11 ⟨rfl, hb11⟩
       have HS11 : Hid (Below w8.heap.size w8 w11) := HS10.out.trans (hb11.mono HS10.out.size)
       clear hb11 HLI
       go_wp2_with fail
       go_roundw
       case rel => exact ⟨k + 1, by omega, by go_num, HS11.out⟩
       case measure => simp [intOf]; omega
      · obtain rfl : k = N := by omega
        go_wp2_with fail
        go_ret
        exact ⟨rfl, HSB.out.low⟩
end Go.Proofs.YtjjkhbfimpgplaaGreatDoor.SndW
