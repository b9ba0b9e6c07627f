/- reveillelaw30.great: is an event more than is played? -/
import Derived.Test.YtadhkeboaapfcaaGreatDoorEvM
import Derived.Test.YtadhkeboaapfcaaGreatDoorLow
import Derived.Deep.DeepCutAuto
namespace Go.Proofs.YtadhkeboaapfcaaGreatDoor.EvW
open Go.RowKit OctMath NameMath
set_option linter.unusedVariables false
set_option linter.unusedSimpArgs false
set_option maxRecDepth 100000

section
variable {P : Program} {w : World}
theorem row_alloc {base n : Nat} {e : TypeId} {u : Value} {xs : List Value} (h : w.ownsRow base e 1 u n xs) (o : Obj) : (w.drew.alloc o).ownsRow base e 1 u n xs := by
  refine ⟨h.1, ?_⟩
  rcases h.2 with h | ⟨g, cap, cur, hv, hb, hg, rest⟩
  · exact .inl h
  · exact .inr ⟨g, cap, cur, hv, hb, (Below.heap_alloc w.drew o g (Array.getElem?_eq_some_iff.1 hg).1).trans hg, rest⟩
/-- append onto an own row: every row that has as much as that one keeps it -/
theorem run_append_keep (base : Nat) (t ty e : TypeId) (i : TypeInfo) (z : Value) (bytes : Nat) (ht : P.underlying t = some (.slice e)) (hi : P.info? e = some i) (hz : i.zero = some z)
    (hsize : i.size = 1) (hby : i.bytes = bytes) (hzs : z.cells.size = 1) (v : Value) (n : Nat) (xs : List Value) (hown : w.ownsRow base e 1 v n xs)
    (a : Option Addr) (c : Nat) (news : List Value) (hr : Row1 w a news) (h1 : ∀ u ∈ news, u.oneCell' = true)
    (h63 : n + news.length ≤ maxLen) (hbytes : (n + news.length) * bytes ≤ 140737488355328) (hbase : base ≤ w.heap.size) :
    ∃ v' w', (Builtin.append_ #[t, t] ty #[v, .slice a news.length c]).run P w = .ok v' w' ∧ w'.ownsRow base e 1 v' (n + news.length) (xs ++ news) ∧ w.grownBy w' v.ownBlock ∧ (∀ u k ys, k ≤ n → w.ownsRow base e 1 u k ys → w'.ownsRow base e 1 u k ys) ∧ (∀ u, w.ownsRow base e 1 u (n + news.length) (xs ++ news) → w'.ownsRow base e 1 u (n + news.length) (xs ++ news)) := by
  cases a with
  | none =>
    have : news = [] := by
      cases news with
      | nil => rfl
      | cons x l => obtain ⟨b, off, h, _⟩ := hr 0 (by simp); cases h
    subst this
    exact ⟨v, w, run_append_none base t ty e i ht hi v n xs hown c, by simpa using hown, World.grownBy.refl w _, fun u k ys _ h => h, fun u h => h⟩
  | some ad =>
    have hcells : ∀ j u, news[j]? = some u → w.cell? (ad.add j) = some u := by
      intro j u hu
      obtain ⟨hj, hju⟩ := List.getElem?_eq_some_iff.1 hu
      obtain ⟨b, off, h, hc⟩ := hr j hj
      cases h
      rw [hju] at hc
      unfold Addr.add
      split
      · rename_i e; subst e; exact hc
      · exact hc
    obtain ⟨v', w', hrun, h2, h3, _⟩ := run_append_own (P := P) (w := w) base t ty e i z 1 bytes ht hi hz hsize hby hzs (by omega) v n xs hown ad news.length c news (by omega) hcells h1 h63 hbytes hbase
    refine ⟨v', w', hrun, h2, h3, ?_⟩
    have hsmall : n + news.length ≤ 9223372036854775807 := by simp only [maxLen] at h63; omega
    subst hby
    rcases hown.2 with ⟨rfl, rfl⟩ | ⟨g, cap, cur, rfl, hbg, hg, hnc, hcm, hcs, htake⟩
    · have all : ∀ u k ys, w.ownsRow base e 1 u k ys → w'.ownsRow base e 1 u k ys := by
       intro u k ys hu
       refine ⟨hu.1, ?_⟩
       rcases hu.2 with h | ⟨g, cap, cur, hv, hb, hg, rest⟩
       · exact .inl h
       · refine .inr ⟨g, cap, cur, hv, hb, (h3.block g (Array.getElem?_eq_some_iff.1 hg).1 (by simp [Value.ownBlock])).trans hg, rest⟩
      exact ⟨fun u k ys _ h => all u k ys h, fun u h => all u _ _ h⟩
    · by_cases hroom : n + news.length ≤ cap
      · have hfit : n * i.size + news.length ≤ cur.size := by rw [hsize, hcs]; omega
        have hr2 := run_append_room (P := P) w t ty e i ht hi g n cap cur hg ad news.length c news (by rw [hsize]; omega) hcells h1 hroom hfit
        rw [hrun] at hr2
        obtain ⟨rfl, rfl⟩ := Result.ok.inj hr2
        have gen : ∀ u k ys, (∀ cur0 : List Value, cur0 = cur.toList.take n ++ news ++ cur.toList.drop (n + news.length) → cur.toList.take (k * 1) = ys → cur0.take (k * 1) = ys) → w.ownsRow base e 1 u k ys → (w.setRow g (cur.toList.take (n * i.size) ++ news ++ cur.toList.drop (n * i.size + news.length)).toArray).ownsRow base e 1 u k ys := by
          intro u k ys hk hu
          refine ⟨hu.1, ?_⟩
          rcases hu.2 with h | ⟨g', cap', cur', hv, hb, hg', h4, h5, h6, h7⟩
          · exact .inl h
          · by_cases hgg : g' = g
            · subst hgg
              rw [hg] at hg'
              cases hg'
              refine .inr ⟨g', cap', _, hv, hb, setRow_heap w g' cur _ e _ hg, h4, h5, ?_, ?_⟩
              · rw [hsize]
                simp only [List.size_toArray, List.length_append, List.length_take, List.length_drop, Array.length_toList]
                omega
              · exact hk _ (by rw [hsize, Nat.mul_one]) h7
            · exact .inr ⟨g', cap', cur', hv, hb, (setRow_other w g g' _ hgg).trans hg', h4, h5, h6, h7⟩
        have hcl : n + news.length ≤ cur.toList.length := by
          have : cur.toList.length = cur.size := Array.length_toList
          omega
        refine ⟨fun u k ys hk hu => gen u k ys (fun cur0 hc0 hy => ?_) hu, fun u hu => gen u _ _ (fun cur0 hc0 hy => ?_) hu⟩
        · rw [hc0, Nat.mul_one, List.append_assoc, List.take_append_of_le_length (by rw [List.length_take]; omega), List.take_take, Nat.min_eq_left hk, ← hy, Nat.mul_one]
        · have hl : (cur.toList.take n ++ news).length = n + news.length := by rw [List.length_append, List.length_take]; omega
          rw [hc0, Nat.mul_one, ← hl, List.take_left, ← htake, Nat.mul_one]
      · have holds : ∀ j u, xs[j]? = some u → w.cell? ((⟨g, 0, none⟩ : Addr).add j) = some u := hown.cells (g := g) rfl
        have hr2 := run_append_grow (P := P) w t ty e i z ht hi hz ⟨g, 0, none⟩ n cap xs (by rw [hsize]; exact hown.1) holds ad news.length c news (by rw [hsize]; omega) hcells (by omega) (by omega) (growslice_fits (by omega) hbytes)
        rw [hrun] at hr2
        obtain ⟨rfl, rfl⟩ := Result.ok.inj hr2
        exact ⟨fun u k ys _ hu => row_alloc hu _, fun u hu => row_alloc hu _⟩
end
/-- not more than is played -/
structure Small (v : Ev) : Prop where
  topic : v.topic.length ≤ 100
  group : v.group.length ≤ 100
  tag : v.tag.length ≤ 100
  key : v.key.length ≤ 1000
  body : v.body.length ≤ 1000
  keys : v.keys.length ≤ 20
  tags : v.tags.length ≤ 10
  keep : v.keep.length ≤ 200
  texts : ∀ t ∈ v.keys ++ v.tags, t.length ≤ 1000
theorem Small.ok {v : Ev} (h : Small v) : EvOk v := by
  refine ⟨?_, ?_, ?_, ?_, ?_, ?_, ?_, ?_, fun t ht => ?_, fun t ht => ?_⟩
  · have := h.topic; omega
  · have := h.group; omega
  · have := h.tag; omega
  · have := h.key; omega
  · have := h.body; omega
  · have := h.keys; omega
  · have := h.tags; omega
  · have := h.keep; omega
  · have := h.texts t (List.mem_append_left _ ht); omega
  · have := h.texts t (List.mem_append_right _ ht); omega
/-- below B all stays; rows as long as n, and the rows of xs, too -/
structure Keeps (B n m : Nat) (xs : List Value) (w w' : World) : Prop where
  below : Below B w w'
  short : ∀ u k ys, k ≤ n → w.ownsRow B 9 1 u k ys → w'.ownsRow B 9 1 u k ys
  full : ∀ u, w.ownsRow B 9 1 u m xs → w'.ownsRow B 9 1 u m xs
theorem Keeps.refl {B n m : Nat} {xs : List Value} (w : World) : Keeps B n m xs w w := ⟨Below.refl _ _, fun _ _ _ _ h => h, fun _ h => h⟩
theorem Keeps.trans {B n m : Nat} {xs : List Value} {a b c : World} (h : Keeps B n m xs a b) (k : Keeps B n m xs b c) : Keeps B n m xs a c :=
  ⟨h.below.trans k.below, fun u j ys hj hu => k.short u j ys hj (h.short u j ys hj hu), fun u hu => k.full u (h.full u hu)⟩
theorem Keeps.ext {B n m : Nat} {xs : List Value} {w w' : World} (h : LinW.Ext w w') (hB : B ≤ w.heap.size) : Keeps B n m xs w w' :=
  ⟨Below.mono h hB, fun u k ys _ hu => LinW.own_ext hu h, fun u hu => LinW.own_ext hu h⟩
theorem Below.size' {B : Nat} {w1 w : World} (h : Below B w1.drew w) (hs : w1.heap.size = B) : B ≤ w.heap.size := by
  have := Below.size h
  simp only [World.drew] at this
  omega
theorem row1_below' {B : Nat} {w1 w : World} {a : Option Addr} {vs : List Value} (h : Row1 w1 a vs) (hb : Below B w1.drew w) (hs : w1.heap.size = B) : Row1 w a vs := by
  subst hs
  exact h.below (Below.trans (Below.drew (Below.refl _ _)) hb)
set_option maxHeartbeats 6400000 in
theorem great_any (v : Ev) (s : EvS) (W : World) (hin : EvIn W v s) :
    Calls Tryz.prog 8 #[.agg (v.cells s)] W fun e w' => ((e = .returned (.bool false) ∧ Small v) ∨ e = .returned (.bool true)) ∧ Below W.heap.size W w' := by
  obtain ⟨i0, hi0, hz0, hz1, hz2⟩ := info_parts (show (Tryz.prog.info? 9).map (fun i => (i.zero, i.size, i.bytes)) = some (some (.string ⟨#[]⟩), 1, 16) by kernel_rfl)
  have HI0 := Lib.hid hi0
  have HZ0 := Lib.hid hz0
  have HZ1 := Lib.hid hz1
  have HZ2 := Lib.hid hz2
  clear hi0 hz0 hz1 hz2
  have HB0 : Hid (Below W.heap.size W (W.alloc (.cells (v.cells s) 25))) := (Below.refl _ W).alloc (Nat.le_refl _) _
  have HIN := Lib.hid (hin.below HB0.out)
  have HX0 : Hid (Boxed (W.alloc (.cells (v.cells s) 25)) W.heap.size (v.cells s)) := Boxed.new W _ _
  have hcv : (v.cells s).size = 14 := rfl
  have hs0 : (W.alloc (.cells (v.cells s) 25)).heap.size = W.heap.size + 1 := World.size_alloc _ _
  clear hin
  go_enter Tryz.func8, Tryz.ntmps8
  go_upto_region 1 with fail
  generalize (W.alloc (.cells (v.cells s) 25)) = w1 at *
  clear hcv
  have c5 : w1.cell? ⟨W.heap.size, 5, none⟩ = some (.string (S v.topic)) := HX0.out 5 _ rfl
  have c6 : w1.cell? ⟨W.heap.size, 6, none⟩ = some (.string (S v.group)) := HX0.out 6 _ rfl
  have c7 : w1.cell? ⟨W.heap.size, 7, none⟩ = some (.string (S v.tag)) := HX0.out 7 _ rfl
  have c8 : w1.cell? ⟨W.heap.size, 8, none⟩ = some (.string (S v.key)) := HX0.out 8 _ rfl
  have c9 : w1.cell? ⟨W.heap.size, 9, none⟩ = some (.string (S v.body)) := HX0.out 9 _ rfl
  have c10 : w1.cell? ⟨W.heap.size, 10, none⟩ = some (.slice s.ka v.keys.length s.kc) := HX0.out 10 _ rfl
  have c11 : w1.cell? ⟨W.heap.size, 11, none⟩ = some (.slice s.ta v.tags.length s.tc) := HX0.out 11 _ rfl
  have c12 : w1.cell? ⟨W.heap.size, 12, none⟩ = some (.slice s.pa v.keep.length s.pc) := HX0.out 12 _ rfl
  have hsz := S_size
  by_cases h5 : 100 < v.topic.length
  · go_wp2_with fail
    go_ret
    exact ⟨.inr rfl, HB0.out⟩
  by_cases h6 : 100 < v.group.length
  · go_wp2_with fail
    go_ret
    exact ⟨.inr rfl, HB0.out⟩
  by_cases h7 : 100 < v.tag.length
  · go_wp2_with fail
    go_ret
    exact ⟨.inr rfl, HB0.out⟩
  by_cases h8 : 1000 < v.key.length
  · go_wp2_with fail
    go_ret
    exact ⟨.inr rfl, HB0.out⟩
  by_cases h9 : 1000 < v.body.length
  · go_wp2_with fail
    go_ret
    exact ⟨.inr rfl, HB0.out⟩
  by_cases h10 : 20 < v.keys.length
  · go_wp2_with fail
    go_ret
    exact ⟨.inr rfl, HB0.out⟩
  by_cases h11 : 10 < v.tags.length
  · go_wp2_with fail
    go_ret
    exact ⟨.inr rfl, HB0.out⟩
  by_cases h12 : 200 < v.keep.length
  · go_wp2_with fail
    go_ret
    exact ⟨.inr rfl, HB0.out⟩
  go_wp2_with fail
  have hrK : Row1 w1 s.ka ((v.keys.map S).map Value.string) := Row1.of_strs HIN.out.keys
  have hrT : Row1 w1 s.ta ((v.tags.map S).map Value.string) := Row1.of_strs HIN.out.tags
  have HRK := Lib.hid hrK
  have HRT := Lib.hid hrT
  clear hrK hrT c5 c6 c7 c8 c9 c12
  have C10 := Lib.hid c10
  have C11 := Lib.hid c11
  clear c10 c11
  have hkl : ((v.keys.map S).map Value.string).length = v.keys.length := by rw [List.length_map, List.length_map]
  have htl : ((v.tags.map S).map Value.string).length = v.tags.length := by rw [List.length_map, List.length_map]
  have HMP : Hid ((v.keys.map S).map Value.string ++ (v.tags.map S).map Value.string = ((v.keys ++ v.tags).map S).map Value.string) := by show _ = _; simp
  have HL1 : Hid (∀ u ∈ (v.keys.map S).map Value.string, u.oneCell' = true) := by intro u hu; obtain ⟨x, _, rfl⟩ := List.mem_map.1 hu; rfl
  have HL2 : Hid (∀ u ∈ (v.tags.map S).map Value.string, u.oneCell' = true) := by intro u hu; obtain ⟨x, _, rfl⟩ := List.mem_map.1 hu; rfl
  generalize (v.keys.map S).map Value.string = kv at *
  generalize (v.tags.map S).map Value.string = tv at *
  have HSB : Hid (∃ B, w1.heap.size = B ∧ W.heap.size < B) := ⟨_, rfl, by omega⟩
  clear hs0
  obtain ⟨B, hSB, hWB⟩ := HSB.out
  have HSZ := Lib.hid hSB
  clear hSB HSB
  refine Grow.wp_region_g 9 [some (.inr fun u w => ∃ g, u = .slice (some ⟨g, 0, none⟩) 0 0 ∧ w.ownsRow B 9 1 u 0 []), none, none,
    some (.inr fun u w => w.ownsRow B 9 1 u kv.length kv), none, none,
    some (.inr fun u w => w.ownsRow B 9 1 u (kv.length + tv.length) (kv ++ tv)),
    some (.inl (.int .i64 ((kv.length + tv.length : Nat) : Int))), none] (Keeps B kv.length (kv.length + tv.length) (kv ++ tv)) (by kernel_rfl) (by kernel_rfl) (by kernel_rfl) Keeps.refl (fun _ _ _ => Keeps.trans) ?_ ?_
  · intro K hK Y hY u w w' hR h
    simp only [List.mem_cons, List.not_mem_nil, or_false] at hK
    rcases hK with rfl | rfl | rfl | rfl | rfl | rfl | rfl | rfl | rfl <;> simp only [reduceCtorEq, Option.some.injEq, Sum.inr.injEq] at hY
    · subst hY; obtain ⟨g, rfl, ho⟩ := h; exact ⟨g, rfl, hR.short _ _ _ (Nat.zero_le _) ho⟩
    · subst hY; exact hR.short _ _ _ (Nat.le_refl _) h
    · subst hY; exact hR.full _ h
  simp only [List.take_succ_cons, List.take_zero, List.drop_succ_cons, List.drop_zero]
  refine Grow.g_new rfl (fun w2 hw hF => ?_) (fun v0 => ?_)
  · clear hF
    have hwz : B ≤ w2.heap.size := Below.size' hw.below HSZ.out
    go_simp
    exact ⟨ownsRow_empty _ _ _ hwz, Keeps.ext ((Below.refl _ _).alloc (Nat.le_refl _) _) hwz⟩
  simp only [Act.put, List.setIfInBounds_toArray, List.set_cons_zero, List.set_cons_succ, Grow.addF]
  refine Grow.g_det rfl ?_
  apply Exists.intro
  refine ⟨fun w hw hF => ?_, ?_⟩
  · clear hF
    go_simp
    exact ⟨rfl, Keeps.refl _⟩
  simp only [Act.put, List.setIfInBounds_toArray, List.set_cons_zero, List.set_cons_succ, Grow.addF]
  refine Grow.g_det rfl ?_
  apply Exists.intro
  refine ⟨fun w hw hF => ?_, ?_⟩
  · clear hF
    have hc : w.cell? ⟨W.heap.size, 10, none⟩ = some (.slice s.ka v.keys.length s.kc) := (Below.cell hw.below (p := ⟨W.heap.size, 10, none⟩) (by show W.heap.size < B; exact hWB)).trans C10.out
    go_simp
    exact ⟨rfl, Keeps.refl _⟩
  simp only [Act.put, List.setIfInBounds_toArray, List.set_cons_zero, List.set_cons_succ, Grow.addF]
  refine Grow.g_new rfl (fun w2 hw hF => ?_) (fun v3 => ?_)
  · obtain ⟨g, rfl, hown⟩ := hF _ (List.Mem.head _) (by simp [Oper.looksAt, Op.operands, Call.operands])
    clear hF
    have hwz : B ≤ w2.heap.size := Below.size' hw.below HSZ.out
    obtain ⟨v', w3, hrun, hown3, hb3⟩ := run_append_empty (P := Tryz.prog) (w := w2) B 22 22 9 i0 (.string ⟨#[]⟩) 16 Tryz.underlying22 HI0.out HZ0.out HZ1.out HZ2.out rfl _ hown s.ka s.kc kv (row1_below' HRK.out hw.below HSZ.out) HL1.out (by unfold maxLen; omega) (by omega) hwz
    rw [hkl] at hrun
    unfold Grow.growAt
    simp [execOp, resolve, invoke, builtin, Act.eval, hrun, Result.andThen, Grow.growUpon]
    exact ⟨hown3, Keeps.ext hb3 hwz⟩
  simp only [Act.put, List.setIfInBounds_toArray, List.set_cons_zero, List.set_cons_succ, Grow.addF]
  refine Grow.g_det rfl ?_
  apply Exists.intro
  refine ⟨fun w hw hF => ?_, ?_⟩
  · clear hF
    go_simp
    exact ⟨rfl, Keeps.refl _⟩
  simp only [Act.put, List.setIfInBounds_toArray, List.set_cons_zero, List.set_cons_succ, Grow.addF]
  refine Grow.g_det rfl ?_
  apply Exists.intro
  refine ⟨fun w hw hF => ?_, ?_⟩
  · clear hF
    have hc : w.cell? ⟨W.heap.size, 11, none⟩ = some (.slice s.ta v.tags.length s.tc) := (Below.cell hw.below (p := ⟨W.heap.size, 11, none⟩) (by show W.heap.size < B; exact hWB)).trans C11.out
    go_simp
    exact ⟨rfl, Keeps.refl _⟩
  simp only [Act.put, List.setIfInBounds_toArray, List.set_cons_zero, List.set_cons_succ, Grow.addF]
  refine Grow.g_new rfl (fun w2 hw hF => ?_) (fun v6 => ?_)
  · have hown := hF _ (List.Mem.head _) (by simp [Oper.looksAt, Op.operands, Call.operands])
    clear hF
    simp only at hown
    have hwz : B ≤ w2.heap.size := Below.size' hw.below HSZ.out
    obtain ⟨v', w3, hrun, hown3, hg3, hk1, hk2⟩ := run_append_keep (P := Tryz.prog) (w := w2) B 22 22 9 i0 (.string ⟨#[]⟩) 16 Tryz.underlying22 HI0.out HZ0.out HZ1.out HZ2.out rfl _ _ _ hown s.ta s.tc tv (row1_below' HRT.out hw.below HSZ.out) HL2.out (by unfold maxLen; omega) (by omega) hwz
    rw [htl] at hrun
    unfold Grow.growAt
    simp [execOp, resolve, invoke, builtin, Act.eval, hrun, Result.andThen, Grow.growUpon]
    exact ⟨hown3, (Below.refl _ _).grown hg3 hwz (ownBlock_of_own hown), hk1, hk2⟩
  simp only [Act.put, List.setIfInBounds_toArray, List.set_cons_zero, List.set_cons_succ, Grow.addF]
  refine Grow.g_con rfl (fun w2 hw hF => ?_) ?_
  · have hown := hF _ (List.Mem.head _) (by simp [Oper.looksAt, Op.operands, Call.operands])
    clear hF
    simp only at hown
    obtain ⟨a, c, rfl, _, _⟩ := Row1.of_own hown
    go_simp
    exact Keeps.refl _
  simp only [Act.put, List.setIfInBounds_toArray, List.set_cons_zero, List.set_cons_succ, Grow.addF]
  refine Grow.g_det rfl ?_
  apply Exists.intro
  refine ⟨fun w hw hF => ?_, ?_⟩
  · clear hF
    go_simp
    exact ⟨rfl, Keeps.refl _⟩
  simp only [Act.put, List.setIfInBounds_toArray, List.set_cons_zero, List.set_cons_succ, Grow.addF]
  refine Grow.g_nil fun w3 hw3 hF => ?_
  have hown := hF _ (List.Mem.head _)
  clear hF
  simp only at hown
  obtain ⟨a, cp, rfl, hr, _⟩ := Row1.of_own hown
  rw [HMP.out] at hr
  have HRW := Lib.hid hr
  have hln : kv.length + tv.length = (v.keys ++ v.tags).length := by rw [List.length_append, hkl, htl]
  have HB3 : Hid (Below W.heap.size W w3) := (HB0.out.drew).trans (Below.mono hw3.below (Nat.le_of_lt hWB))
  have HSM : Hid ((∀ t ∈ v.keys ++ v.tags, t.length ≤ 1000) → Small v) := fun h => ⟨by omega, by omega, by omega, by omega, by omega, by omega, by omega, by omega, h⟩
  rw [hln]
  clear hown hr hw3 HRK HRT HL1 HL2 HMP HB0 HIN HX0 C10 C11 HI0 HZ0 HZ1 HZ2 HSZ
  have hts : (v.keys ++ v.tags).length ≤ 30 := by rw [List.length_append]; omega
  generalize v.keys ++ v.tags = ts at *
  go_wp2_with fail
  go_loopw [59] (fun i wr => ∃ k : Nat, k ≤ ts.length ∧ i = .int .i64 (k : Int) ∧ Hid (∀ t ∈ ts.take k, t.length ≤ 1000) ∧ Hid (Drawn w3 wr)) (fun i _ => ts.length + 1 - (intOf i).toNat)
  case atStart => exact ⟨0, by omega, rfl, fun t ht => by simp at ht, Drawn.refl _⟩
  case round =>
    obtain ⟨k, hk, rfl, HT, HD⟩ := hrel
    by_cases hlt : k < ts.length
    · obtain ⟨b, off, rfl, hcell⟩ := HRW.out k (by rw [List.length_map, List.length_map]; exact hlt)
      rw [← HD.out.cell, List.getElem_map, List.getElem_map] at hcell
      have hst : Hid (ts[k].length ≤ 1000 → ∀ t ∈ ts.take (k + 1), t.length ≤ 1000) := fun h t ht => by
        rw [List.take_succ_eq_append_getElem hlt] at ht
        rcases List.mem_append.1 ht with ht | ht
        · exact HT.out t ht
        · rw [List.mem_singleton.1 ht]; exact h
      generalize ts[k] = x at *
      by_cases hx : 1000 < x.length
      · go_wp2_with fail
        go_ret
        exact ⟨.inr rfl, HB3.out.trans (HD.out.below _)⟩
      · have HT2 := Lib.hid (hst.out (by omega))
        clear hst HT
        go_wp2_with fail
        go_roundw
        case rel => exact ⟨k + 1, by omega, by go_num, HT2, HD⟩
        case measure => simp [intOf]; omega
    · have ek : k = ts.length := by omega
      subst ek
      rw [List.take_length] at HT
      go_wp2_with fail
      go_ret
      exact ⟨.inl ⟨rfl, HSM.out HT.out⟩, HB3.out.trans (HD.out.below _)⟩
end Go.Proofs.YtadhkeboaapfcaaGreatDoor.EvW
