/- The statement CrcApart: a table that is used doesn't change: sums asked for in any order are the same, up to 40 texts of 300 bytes. No condition. -/
import Derived.Test.YtfndekonkcdboaaCrcE
import Derived.Test.YtfndekonkcdboaaLaw
namespace Go.Proofs.Ytfndekonkcdboaa.crcApart
open Go.ChangeShapes Go.WideShapes Go.ChangeAt Go.RowKit CrcW CrcMath
set_option maxRecDepth 100000
set_option linter.unusedSimpArgs false
set_option linter.unusedVariables false

/-- a text's sum, as the number that Sum hands back -/
def num (s : ByteArray) : Int := ((sum s.data.toList).toNat : Int)
theorem info_int : (Try.prog.info? 3).map (fun i => (i.zero, i.size, i.bytes)) = some (some (.int .i64 0), 1, 8) := by kernel_rfl

theorem flat_one (s : ByteArray) : flat [s] = s.data.toList := by unfold flat; simp
theorem sum_one (B : Nat) (b cap : Nat) (s : ByteArray) (hs : s.size ≤ 300) (w : World) (hc : w.cell? ⟨b, 0, none⟩ = some (.string s)) (hT : Tabs w B) :
    Calls Try.prog 12 #[.pointer (some ⟨B, 0, none⟩), .slice (some ⟨b, 0, none⟩) 1 cap] w fun e w' => e = .returned (.int .i64 (num s)) ∧ Drawn w w' := by
  have := tsum_some B b 0 cap [s] (by simp [maxLen]) (by simp [maxLen]; omega) w (fun i hi => by
    have : i = 0 := by simpa using hi
    subst this; exact hc) hT
  rw [flat_one] at this
  exact this

/-- a slice of one text in new memory -/
def OneText (x : ByteArray) (v : Value) (w : World) : Prop := ∃ b, v = .slice (some ⟨b, 0, none⟩) 1 1 ∧ w.cell? ⟨b, 0, none⟩ = some (.string x)
/-- tables in new memory -/
def ATable (v : Value) (w : World) : Prop := ∃ B, v = .pointer (some ⟨B, 0, none⟩) ∧ B < w.heap.size ∧ Tabs w B
theorem OneText.ext {x : ByteArray} {v : Value} {w w' : World} (h : OneText x v w) (he : Ext w w') : OneText x v w' := by
  obtain ⟨b, rfl, hc⟩ := h
  exact ⟨b, rfl, by rw [Below.cell he (cell_lt hc)]; exact hc⟩
theorem ATable.ext {v : Value} {w w' : World} (h : ATable v w) (he : Ext w w') : ATable v w' := by
  obtain ⟨B, rfl, hB, hT⟩ := h
  exact ⟨B, rfl, Nat.lt_of_lt_of_le hB he.size, hT.ext hB he⟩

set_option maxHeartbeats 4000000 in
theorem law (a : Option Addr) (cap : Nat) (ss : List ByteArray) (W : World) (hs : Strs W a ss) (hz : ∀ i (h : i < ss.length), ss[i].size ≤ 140737488351232) (hn : ss.length ≤ 8796093021952) :
    Calls Try.prog 6 #[.slice a ss.length cap] W fun e w' => e = .returned (.bool true) ∧ Below W.heap.size W w' := by
  have HS := Lib.hid hs; clear hs
  have HZ := Lib.hid hz; clear hz
  obtain ⟨i0, hi0, hz0, hz1, hz2⟩ := info_parts info_int
  go_enter Try.func6, Try.ntmps6
  go_wp2_with fail
  refine (awake_any _).mono ?_
  rintro e w1 ⟨rfl, hb1⟩
  have HB1 := Lib.hid hb1; clear hb1
  have HS1 : Hid (Strs w1 a ss) := HS.out.below HB1.out
  by_cases h40 : 40 < ss.length
  · go_wp2_with fail
    go_ret
    exact ⟨rfl, HB1.out⟩
  go_wp2_with fail
  refine (new_any _).mono ?_
  rintro e w2 ⟨B, rfl, hl⟩
  have HS2 : Hid (Strs w2 a ss) := HS1.out.below hl.below
  have HB2 : Hid (Below W.heap.size W w2) := HB1.out.trans (hl.below.mono HB1.out.size)
  have HT2 := Lib.hid hl.tabs
  have HL2 := Lib.hid hl.size
  clear hl HB1 HS1
  go_wp2_with fail
  go_loopw [4, 17] (fun v i wr => ∃ k : Nat, k ≤ ss.length ∧ i = .int .i64 k ∧ wr.ownsRow w2.heap.size 3 1 v k ((ss.take k).map fun s => .int .i64 (num s)) ∧ Below w2.heap.size w2 wr ∧ Hid (∀ j (h : j < k) (h2 : j < ss.length), ss[j].size ≤ 300)) (fun _ i _ => ss.length - (intOf i).toNat)
  case atStart => exact ⟨0, by omega, rfl, ⟨rfl, .inl ⟨rfl, rfl⟩⟩, Below.refl _ _, fun j h => by omega⟩
  case round =>
    obtain ⟨k, hk, rfl, hown, hb, HJ⟩ := hrel
    by_cases hlt : k < ss.length
    · obtain ⟨b, off, rfl, hc⟩ := HS2.out k hlt
      have hcr : wr.cell? ⟨b, off + k, none⟩ = some (.string ss[k]) := by rw [hb.cell (cell_lt hc)]; exact hc
      clear hc
      generalize hx : ss[k] = x at *
      have HX := Lib.hid hx; clear hx
      have hxz : x.size ≤ 140737488351232 := by rw [← HX.out]; exact HZ.out k hlt
      have HO := Lib.hid hown; clear hown
      have HB := Lib.hid hb; clear hb
      by_cases h300 : 300 < x.size
      · go_wp2_with fail
        go_ret
        exact ⟨rfl, HB2.out.trans (HB.out.mono HB2.out.size)⟩
      · go_wp2_with fail
        refine (sum_one B wr.heap.size 1 x (by omega) _ (by rw [World.cell?_alloc_new]; rfl) ?_).mono ?_
        · exact HT2.out.ext HL2.out ((HB.out.alloc HB.out.size _))
        rintro e w3 ⟨rfl, hd3⟩
        have HO3 : Hid (w3.ownsRow w2.heap.size 3 1 u4 k ((ss.take k).map fun s => .int .i64 (num s))) := by
          have h := HO.out.alloc (.cells #[.string x] 9)
          obtain ⟨m, rfl⟩ := hd3
          exact h
        have HB3 : Hid (Below w2.heap.size w2 w3) := (HB.out.alloc HB.out.size _).trans (hd3.below _)
        clear hd3 HO HB
        have HC3 : Hid (w3.heap.size = w3.heap.size) := rfl
        go_wp2_with (at_builtin; refine wpList_append_own _ rfl (.tmp 24) (.tmp 29) 33 rfl w2.heap.size 3 i0 (.int .i64 0) 1 8 Try.underlying33 hi0 hz0 hz1 hz2 rfl (by decide) _ k ((ss.take k).map fun s => .int .i64 (num s)) rfl (HO3.out.alloc _) ⟨w3.heap.size, 0, none⟩ 1 1 [.int .i64 (num x)] rfl rfl ?c1 ?c2 ?c3 ?c4 ?c5 ?_)
        case c1 => exact cell_one_new _ _ _
        case c2 => intro u hu; simp at hu; subst hu; rfl
        case c3 => unfold maxLen; omega
        case c4 => omega
        case c5 => have := HB3.out.size; simp; omega
        intro v' w4 hown' hgrow _
        have HO4 := Lib.hid hown'
        have HB4 : Hid (Below w2.heap.size w2 w4) := (HB3.out.alloc HB3.out.size _).grown hgrow (by have := HB3.out.size; simp; omega) (fun g hg => by
          rcases HO3.out.2 with ⟨h, _⟩ | ⟨g', c', cur, h, hge, _⟩
          · rw [h] at hg; cases hg
          · rw [h] at hg; simp [Value.ownBlock] at hg; omega)
        clear hown' hgrow HO3 HB3 HC3
        go_wp2_with fail
        go_roundw
        case rel =>
          refine ⟨k + 1, by omega, by go_num, ?_, HB4.out, fun j h h2 => ?_⟩
          · have := HO4.out
            rw [List.take_succ_eq_append_getElem hlt, List.map_append, HX.out, List.map_take]
            exact this
          · by_cases e : j = k
            · subst e; rw [HX.out]; omega
            · exact HJ.out j (by omega) h2
        case measure => simp [intOf]; omega
    · have ek : k = ss.length := by omega
      subst ek
      rw [List.take_length] at hown
      clear hlt hk
      have HB := Lib.hid hb; clear hb
      obtain ⟨hol, hov⟩ := hown
      rcases hov with ⟨rfl, h0⟩ | ⟨g, cap', cur, rfl, hg, hheap, hcap, hcapm, hcsz, hcur⟩
      · have hss : ss = [] := List.eq_nil_of_length_eq_zero h0
        subst hss
        clear hol h0
        simp only [List.length_nil]
        go_wp2_with fail
        go_loopw [34] (fun i wo => i = .int .i64 0 ∧ wo = wr) (fun _ _ => 0)
        case atStart => exact ⟨rfl, rfl⟩
        case round =>
          obtain ⟨rfl, rfl⟩ := hrel
          go_wp2_with fail
          go_ret
          exact ⟨rfl, HB2.out.trans (HB.out.mono HB2.out.size)⟩
      have hgc : ∀ j (h : j < ss.length), wr.cell? ⟨g, j, none⟩ = some (.int .i64 (num ss[j])) := by
        intro j h
        unfold World.cell?
        rw [hheap]
        have : cur[j]? = (cur.toList.take (ss.length * 1))[j]? := by
          rw [List.getElem?_take, if_pos (by omega)]; simp
        simp only [Option.isSome_none, Bool.false_eq_true, if_false]
        rw [this, hcur]
        simp [h]
      have HG := Lib.hid hgc; clear hgc hheap hcur hol hcsz
      obtain ⟨wo, rfl⟩ : ∃ wo : World, wo = wr := ⟨_, rfl⟩
      go_wp2_with fail
      go_loopw [34] (fun i wr => ∃ k : Nat, k ≤ ss.length ∧ i = .int .i64 k ∧ Below wo.heap.size wo wr) (fun i _ => ss.length - (intOf i).toNat)
      case atStart => exact ⟨0, by omega, rfl, Below.refl _ _⟩
      case round =>
        obtain ⟨k, hk, rfl, hb⟩ := hrel
        by_cases hlt : k < ss.length
        · obtain ⟨m, hm⟩ : ∃ m : Nat, (ss.length : Int) - 1 - (k : Int) = (m : Int) := ⟨ss.length - 1 - k, by omega⟩
          have hml : m < ss.length := by omega
          obtain ⟨b, off, rfl, hc⟩ := HS2.out m hml
          have hg1 := HG.out m hml
          have hx3 := HJ.out m hml hml
          generalize ss[m] = x at hc hg1 hx3
          have hin : ∀ w, Ext wr.drew w → Below wo.heap.size wo w := fun w h => hb.drew.trans (h.mono hb.size)
          have hcx : ∀ w, Ext wr.drew w → w.cell? ⟨b, off + m, none⟩ = some (.string x) := fun w h => by
            have h2 : Below w2.heap.size w2 w := HB.out.trans ((hin w h).mono HB.out.size)
            rw [h2.cell (cell_lt hc)]; exact hc
          have hcg : ∀ w, Ext wr.drew w → w.cell? ⟨g, m, none⟩ = some (.int .i64 (num x)) := fun w h => by
            rw [(hin w h).cell (cell_lt hg1)]; exact hg1
          have HTo : Hid (∀ w, Ext wr.drew w → Tabs w B) := fun w h => HT2.out.ext HL2.out (HB.out.trans ((hin w h).mono HB.out.size))
          have HLo : Hid (∀ w, Ext wr.drew w → B < w.heap.size) := fun w h => Nat.lt_of_lt_of_le HL2.out (HB.out.trans ((hin w h).mono HB.out.size)).size
          have HIN := Lib.hid hin
          have HBo := Lib.hid hb
          clear hc hg1 hin hb
          go_wp2_with fail
          refine Grow.wp_region_g 41 [none, none, none, none, none, some (.inr (OneText x)), some (.inl (.int .i64 (num x))), none, none, none, none, none, none, some (.inr ATable), none, none, none, none, some (.inr (OneText x)), some (.inl (.int .i64 (num x))), none, none, none, none, none, none, none, none, none, none, none, none, some (.inl (.string ⟨(sealed x.data.toList).toArray⟩)), some (.inr ATable), none, none, none, none, some (.inl (.string ⟨(sealed x.data.toList).toArray⟩)), none, none] Ext (by kernel_rfl) (by kernel_rfl) (by kernel_rfl) Ext.refl (fun _ _ _ => Ext.trans) ?_ ?_
          · intro K hK Y hY v w w' hR h
            subst hY
            simp only [List.mem_cons, reduceCtorEq, Option.some.injEq, Sum.inr.injEq, List.not_mem_nil, false_or, or_false] at hK
            rcases hK with rfl | rfl | rfl | rfl
            · exact OneText.ext h hR
            · exact ATable.ext h hR
            · exact OneText.ext h hR
            · exact ATable.ext h hR
          simp only [List.take_succ_cons, List.take_zero, List.drop_succ_cons, List.drop_zero]
          iterate 5 (
            refine Grow.g_det rfl ?_
            apply Exists.intro
            refine ⟨fun w hw hF => ?_, ?_⟩
            · clear hF
              go_simp
              exact ⟨rfl, Ext.refl _⟩
            simp only [Act.put, List.setIfInBounds_toArray, List.set_cons_zero, List.set_cons_succ])
          refine Grow.g_new rfl (fun w2 hw hF => ?_) (fun v5 => ?_)
          · clear hF
            go_simp
            exact ⟨⟨_, rfl, by rw [World.cell?_alloc_new]; rfl⟩, (Below.refl _ _).alloc (Nat.le_refl _) _⟩
          simp only [Act.put, List.setIfInBounds_toArray, List.set_cons_zero, List.set_cons_succ, Grow.addF]
          refine Grow.g_con rfl (fun w2 hw hF => ?_) ?_
          · obtain ⟨b', rfl, hbc⟩ := hF _ (List.Mem.head _) (by simp [Oper.looksAt, Op.operands, Call.operands])
            clear hF
            go_simp
            exact (sum_one B b' 1 x hx3 w2 hbc (HTo.out w2 hw)).mono fun e w3 ⟨he, hd⟩ => ⟨_, he, rfl, hd.below _⟩
          simp only [Act.put, List.setIfInBounds_toArray, List.set_cons_zero, List.set_cons_succ]
          iterate 6 (
            refine Grow.g_det rfl ?_
            apply Exists.intro
            refine ⟨fun w hw hF => ?_, ?_⟩
            · clear hF
              go_simp
              exact ⟨rfl, Ext.refl _⟩
            simp only [Act.put, List.setIfInBounds_toArray, List.set_cons_zero, List.set_cons_succ])
          refine Grow.g_new rfl (fun w2 hw hF => ?_) (fun v13 => ?_)
          · clear hF
            go_simp
            exact (new_any w2).mono fun e w3 ⟨B', he, hl⟩ => ⟨_, he, ⟨B', rfl, hl.size, hl.tabs⟩, hl.below⟩
          simp only [Act.put, List.setIfInBounds_toArray, List.set_cons_zero, List.set_cons_succ, Grow.addF]
          iterate 4 (
            refine Grow.g_det rfl ?_
            apply Exists.intro
            refine ⟨fun w hw hF => ?_, ?_⟩
            · clear hF
              go_simp
              exact ⟨rfl, Ext.refl _⟩
            simp only [Act.put, List.setIfInBounds_toArray, List.set_cons_zero, List.set_cons_succ])
          refine Grow.g_new rfl (fun w2 hw hF => ?_) (fun v18 => ?_)
          · clear hF
            go_simp
            exact ⟨⟨_, rfl, by rw [World.cell?_alloc_new]; rfl⟩, (Below.refl _ _).alloc (Nat.le_refl _) _⟩
          simp only [Act.put, List.setIfInBounds_toArray, List.set_cons_zero, List.set_cons_succ, Grow.addF]
          refine Grow.g_con rfl (fun w2 hw hF => ?_) ?_
          · obtain ⟨b', rfl, hbc⟩ := hF _ (List.Mem.head _) (by simp [Oper.looksAt, Op.operands, Call.operands])
            obtain ⟨B', rfl, hBz, hT'⟩ := hF _ (List.Mem.tail _ (List.Mem.head _)) (by simp [Oper.looksAt, Op.operands, Call.operands])
            clear hF
            go_simp
            exact (sum_one B' b' 1 x hx3 w2 hbc hT').mono fun e w3 ⟨he, hd⟩ => ⟨_, he, rfl, hd.below _⟩
          simp only [Act.put, List.setIfInBounds_toArray, List.set_cons_zero, List.set_cons_succ]
          iterate 12 (
            refine Grow.g_det rfl ?_
            apply Exists.intro
            refine ⟨fun w hw hF => ?_, ?_⟩
            · clear hF
              go_simp
              exact ⟨rfl, Ext.refl _⟩
            simp only [Act.put, List.setIfInBounds_toArray, List.set_cons_zero, List.set_cons_succ])
          refine Grow.g_con rfl (fun w2 hw hF => ?_) ?_
          · clear hF
            go_simp
            exact (seal_any B x (by omega) w2 (HLo.out w2 hw) (HTo.out w2 hw)).mono fun e w3 ⟨he, hd⟩ => ⟨_, he, rfl, hd⟩
          simp only [Act.put, List.setIfInBounds_toArray, List.set_cons_zero, List.set_cons_succ]
          refine Grow.g_new rfl (fun w2 hw hF => ?_) (fun v33 => ?_)
          · clear hF
            go_simp
            exact (new_any w2).mono fun e w3 ⟨B', he, hl⟩ => ⟨_, he, ⟨B', rfl, hl.size, hl.tabs⟩, hl.below⟩
          simp only [Act.put, List.setIfInBounds_toArray, List.set_cons_zero, List.set_cons_succ, Grow.addF]
          iterate 4 (
            refine Grow.g_det rfl ?_
            apply Exists.intro
            refine ⟨fun w hw hF => ?_, ?_⟩
            · clear hF
              go_simp
              exact ⟨rfl, Ext.refl _⟩
            simp only [Act.put, List.setIfInBounds_toArray, List.set_cons_zero, List.set_cons_succ])
          refine Grow.g_con rfl (fun w2 hw hF => ?_) ?_
          · obtain ⟨B', rfl, hBz, hT'⟩ := hF _ (List.Mem.head _) (by simp [Oper.looksAt, Op.operands, Call.operands])
            clear hF
            go_simp
            exact (seal_any B' x (by omega) w2 hBz hT').mono fun e w3 ⟨he, hd⟩ => ⟨_, he, rfl, hd⟩
          simp only [Act.put, List.setIfInBounds_toArray, List.set_cons_zero, List.set_cons_succ]
          iterate 2 (
            refine Grow.g_det rfl ?_
            apply Exists.intro
            refine ⟨fun w hw hF => ?_, ?_⟩
            · clear hF
              go_simp
              exact ⟨rfl, Ext.refl _⟩
            simp only [Act.put, List.setIfInBounds_toArray, List.set_cons_zero, List.set_cons_succ])
          refine Grow.g_nil fun w9 hw9 hF => ?_
          clear hF
          refine wpList_nil ?_
          have HB9 : Hid (Below wo.heap.size wo w9) := HIN.out w9 hw9
          clear hw9
          go_wp2_with fail
          go_roundw
          case rel => exact ⟨k + 1, by omega, by go_num, HB9.out⟩
          case measure => simp [intOf]; omega
        · have HBo := Lib.hid hb; clear hb
          go_wp2_with fail
          go_ret
          exact ⟨rfl, HB2.out.trans ((HB.out.trans (HBo.out.mono HB.out.size)).mono HB2.out.size)⟩

theorem lifted (os : Os) (started : os.Started) (H : Type) (enc : TypeId × Value → H) :
    ReturnsInHanded {} Try.checked os 6 .any (Rows.crcApartSpec.pre6 enc Try.prog Try.f6 Rows.crcApartRow.domain false) (Rows.crcApartSpec.post enc Try.prog Try.f6 false true false false) := by
  refine returnsInHanded_of_change_sized (C := Try.checked) own started (by kernel_rfl) Try.func6
    (ChangeSpec.witness6 (enc := enc) (C := Try.checked) false ⟨#[], #[.slice none 0 0], []⟩ 8 (by kernel_rfl) (by kernel_rfl) (by kernel_rfl) (by kernel_rfl)) ?_
  intro W base args ds gs before hval0 hW hcnd0 hsz0 hholds
  have hval : ∀ (j : Nat) t v, Try.f6.params[j]? = some t → args[j]? = some v → Value.okWide Try.prog W .any base t v := hval0
  have hsz : (DataW.weightsEach Try.prog (Try.f6.params.toList ++ Rows.crcApartSpec.plain.varTypes Try.prog) (ds ++ gs)).all (· ≤ reachBytes) = true := hsz0
  have hW' := hW
  obtain ⟨p, q, hA0, hV, rfl, hfz, hnd⟩ := hW
  have hA : DataW.TrodAll enc Try.prog W 0 (fun _ => true) true Try.f6.params.toList args.toList ds p := hA0
  rw [Try.params6] at hA hval hsz
  obtain ⟨v0, d0, rfl, rfl, h0⟩ := trodAll_one hA
  obtain ⟨rfl, rfl⟩ := trodVars_none hV
  obtain ⟨a, ss, cap, rfl, hs, hz, hn⟩ := open_strs Try.underlying22 Try.underlying9 (by kernel_rfl) (by kernel_rfl) (hval 0 22 v0 rfl rfl) h0
    (fun n hn => by simpa using List.all_eq_true.1 hsz n (DataW.weights_mem_each (j := 0) (t := 22) rfl rfl n hn))
  clear hA0 hval0
  refine (law a cap ss W hs hz hn).mono fun e W' ⟨he, hb⟩ => ?_
  subst he
  refine ⟨_, rfl, law_post hW' ?_ (tb := 4) (by kernel_rfl) Try.underlying4 rfl ⟨rfl, rfl, rfl⟩ hb⟩
  rw [Try.params6]
  intro t ht
  have : t = 22 := by simpa using ht
  subst this
  exact ⟨by kernel_rfl, of_decide_eq_true (by kernel_rfl)⟩

theorem proved : Rows.CrcApartSaid :=
  OpenClaim.holds_of_wide 6 Try.f6 rfl rfl rfl rfl rfl rfl rfl ⟨rfl, rfl, rfl, rfl, rfl⟩ rfl rfl rfl rfl rfl (by kernel_rfl) Try.func6 (by kernel_rfl)
    (of_decide_eq_true (by kernel_rfl)) (by unfold Func.isWrapper; rw [if_neg (of_decide_eq_false (by kernel_rfl))]; exact ⟨rfl, rfl⟩)
    (fun os started H enc _ => lifted os started H enc)
end Go.Proofs.Ytfndekonkcdboaa.crcApart
