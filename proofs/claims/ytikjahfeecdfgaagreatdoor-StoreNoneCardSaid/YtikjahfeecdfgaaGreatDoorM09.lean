/- The store reads its tape again. reveillelaw06.Great: what is too great for the laws. reveilleref06.Same: of a message and itself. The next position of a queue that is there. The store is opened. The store, opened on new disks. The store, opened anew over a tape of one message: it is dispatched. The store awakes: the document's example. -/
import Derived.Test.YtikjahfeecdfgaaGreatDoorM08
import Derived.Test.YtikjahfeecdfgaaGreatDoorM06
import Derived.LaidEqlPtr
namespace Go.Proofs.YtikjahfeecdfgaaGreatDoor.StoW
open Go.RowKit Go.MapKept OctMath RecMath RecW TapeMath DskW SegW MapG TapeW PendW
set_option linter.unusedVariables false
set_option linter.unusedSimpArgs false
set_option maxRecDepth 100000
def notesP (l : List (Nat × Msg)) (all : List (Int × Int × Int)) : List (Int × Int × Int) := l.foldl (fun a p => noteP a (p.1 : Int) p.2) all
theorem heap_mod {M : Nat → Prop} {u v : World} (h : Mod M u v) {b : Nat} {o : Obj} (hb : u.heap[b]? = some o) (hM : ¬ M b) : v.heap[b]? = some o :=
  (h.block b (Array.getElem?_eq_some_iff.1 hb).1 hM).trans hb
theorem heap_below {u v : World} (h : Below u.heap.size u v) {b : Nat} {o : Obj} (hb : u.heap[b]? = some o) : v.heap[b]? = some o :=
  (h.block b (Array.getElem?_eq_some_iff.1 hb).1).trans hb
def OnceG (B s0 : Nat) (o : Nat → Obj) (n : Obj) (u v : World) : Prop := Mod (fun k => k = B) u v ∧ (v.heap[B]? = u.heap[B]? ∨ ∃ b, v.heap[B]? = some (o b) ∧ v.heap[b]? = some n ∧ s0 ≤ b)
theorem OnceG.refl (B s0 : Nat) (o : Nat → Obj) (n : Obj) (w : World) : OnceG B s0 o n w w := ⟨Mod.refl _ _, .inl rfl⟩
theorem OnceG.keep {B s0 : Nat} {o : Nat → Obj} {n : Obj} (hB : B < s0) {u v : World} (h : OnceG B s0 o n u v) {b : Nat} (hb : s0 ≤ b) (hn : u.heap[b]? = some n) : v.heap[b]? = some n := heap_mod h.1 hn (by omega)
theorem OnceG.trans {B s0 : Nat} {o : Nat → Obj} {n : Obj} (hB : B < s0) {u v w : World} (h : OnceG B s0 o n u v) (k : OnceG B s0 o n v w) : OnceG B s0 o n u w :=
  ⟨h.1.trans k.1, k.2.elim (fun e => h.2.elim (fun e2 => .inl (e.trans e2)) fun ⟨b, h1, h2, h3⟩ => .inr ⟨b, e.trans h1, k.keep hB h3 h2, h3⟩) .inr⟩
theorem OnceG.below {B s0 : Nat} {o : Nat → Obj} {n : Obj} {u v : World} (h : Below u.heap.size u v) (hB : B < u.heap.size) : OnceG B s0 o n u v := ⟨Mod.of_below h, .inl (h.block B hB)⟩
def YT (s0 : Nat) (n : Obj) (v : Value) (w : World) : Prop := ∃ b, v = .tuple #[.pointer (some ⟨b, 0, none⟩), .int .i64 0] ∧ w.heap[b]? = some n ∧ s0 ≤ b
def YP (s0 : Nat) (n : Obj) (v : Value) (w : World) : Prop := ∃ b, v = .pointer (some ⟨b, 0, none⟩) ∧ w.heap[b]? = some n ∧ s0 ≤ b
def YS (B s0 : Nat) (o : Nat → Obj) (n : Obj) (w : World) : Prop := ∃ b, w.heap[B]? = some (o b) ∧ w.heap[b]? = some n ∧ s0 ≤ b
theorem notesP_take {l : List (Nat × Msg)} {k : Nat} (h : k < l.length) (all : List (Int × Int × Int)) : notesP (l.take (k + 1)) all = noteP (notesP (l.take k) all) (l[k].1 : Int) l[k].2 := by
  unfold notesP
  rw [List.take_succ_eq_append_getElem h, List.foldl_append]; rfl
set_option maxHeartbeats 12800000 in
theorem replay_any {base B cb kb tb : Nat} {T : TapeD} {P : PendD} (v3 v4 now : Value) (W : World) (hB : W.heap[B]? = some (.cells #[.pointer (some ⟨T.O.blk, 0, none⟩), .pointer (some ⟨cb, 0, none⟩), .pointer (some ⟨kb, 0, none⟩), v3, v4, .pointer (some ⟨tb, 0, none⟩), .pointer (some ⟨P.blk, 0, none⟩), .pointer none, .pointer none, .pointer none, .pointer (some ⟨T.D.blk, 0, none⟩), now] 51 (0, 0))) (h : TapeAt base W T) (hP : PendAt base W P) (haw : (∀ k, T.foot k → k ≠ B ∧ ¬ P.foot k) ∧ ∀ k, P.foot k → k ≠ B)
    (hT : TabB base W) (hbase : base ≤ W.heap.size) (hq : Quiet T.D) (hn : T.D.find TopW.baseN = none) (hl : T.O.recs.length ≤ 1000000) (hk2 : ∀ p ∈ T.O.recs, p.2.kind ≠ 2)
    (hBb : base ≤ B) {M : Nat → Prop} {Post : World → World → Prop} (hMb : ∀ k, M k → base ≤ k) (hM : ∀ k, M k → k < W.heap.size ∧ k ≠ B ∧ ¬ T.foot k ∧ ¬ P.foot k)
    (hall : ∀ (w : World) (b7 : Nat), Mod (fun k => k = B ∨ P.foot k) W w → W.heap.size ≤ b7 → w.heap[b7]? = some (.cells #[.pointer (some ⟨T.O.blk, 0, none⟩), .pointer (some ⟨cb, 0, none⟩), .pointer (some ⟨kb, 0, none⟩), .int .i64 (T.R.b : Int)] 174 (0, 0)) →
      Calls Tryz.prog 75 #[.pointer (some ⟨b7, 0, none⟩)] w fun e w' => ∃ n : Int, e = .returned (.tuple #[.int .i64 n, .int .i64 0]) ∧ Post w w' ∧ Mod (fun k => M k ∨ k = b7) w w')
    (hstab : ∀ w0 w1 w2 b8 b9, Post w0 w1 → W.heap.size ≤ b8 → b8 < w0.heap.size → W.heap.size ≤ b9 → b9 < w0.heap.size → Mod (fun k => k = b8 ∨ k = b9) w1 w2 → Post w0 w2) :
    Calls Tryz.prog 31 #[.pointer (some ⟨B, 0, none⟩)] W fun e w' => e = .returned (.int .i64 0) ∧ ∃ b7 b8 b9 w0, w'.heap[B]? = some (.cells #[.pointer (some ⟨T.O.blk, 0, none⟩), .pointer (some ⟨cb, 0, none⟩), .pointer (some ⟨kb, 0, none⟩), v3, v4, .pointer (some ⟨tb, 0, none⟩), .pointer (some ⟨P.blk, 0, none⟩), .pointer (some ⟨b7, 0, none⟩), .pointer (some ⟨b8, 0, none⟩), .pointer (some ⟨b9, 0, none⟩), .pointer (some ⟨T.D.blk, 0, none⟩), now] 51 (0, 0)) ∧ TapeAt base w' T ∧ PendAt base w' { P with all := notesP T.O.recs P.all } ∧
      Post w0 w' ∧ Mod (fun k => k = B ∨ P.foot k ∨ M k) W w' := by
  have HLD := Lib.hid (TopW.loaded_none W h.whole.dsk hq.up hn)
  have hss : (T.O.recs.map (·.1)).Pairwise (· < ·) := by rw [h.recs]; exact (recs_sorted h.fits).2
  have hp0 : TapeW.placeL T.O.recs 0 = 0 := by
    unfold TapeW.placeL idI
    rw [List.countP_eq_zero]
    intro i hi
    obtain ⟨y, hy, rfl⟩ := List.mem_map.1 hi
    simp
  have HID : Hid (∀ w, Below W.heap.size W w → Calls Tryz.prog 17 #[.pointer (some ⟨T.O.blk, 0, none⟩), .int .i64 0] w fun e w' => ∃ v, e = .returned v ∧ w'.ownsRow w.heap.size 3 1 v T.O.recs.length (idsL T.O.recs) ∧ Below w.heap.size w w') := fun w hb => ids_any 0 w (h.own.below hb) hss (by omega) hp0
  have c10 := cell_at hB 10 _ rfl
  have HB := Lib.hid hB
  have HH := Lib.hid h
  have HP := Lib.hid hP
  have HAW := Lib.hid haw
  have HTB := Lib.hid hT
  have HBS := Lib.hid hbase
  have HQ := Lib.hid hq
  have HL := Lib.hid hl
  have HK2 := Lib.hid hk2
  have HM := Lib.hid hM
  have HALL := Lib.hid hall
  have HMB := Lib.hid hMb
  have HBB := Lib.hid hBb
  have HSTAB := Lib.hid hstab
  have hBl := (Array.getElem?_eq_some_iff.1 hB).1
  clear hMb hBb hB h hP haw hT hbase hq hn hl hk2 hM hall hstab hss hp0
  go_enter Tryz.func31, Tryz.ntmps31
  go_wp2_with fail
  refine HLD.out.mono ?_
  rintro e w2 ⟨rfl, hb⟩
  have HB2 : Hid (Below W.heap.size W (w2.alloc (.cells #[.int .i64 0, .slice none 0 0] 108))) := hb.alloc hb.size _
  clear hb HLD c10
  go_wp2_with fail
  generalize w2.alloc (.cells #[.int .i64 0, .slice none 0 0] 108) = w3 at *
  obtain ⟨wo, hwo⟩ : ∃ wo : World, wo = w3 := ⟨_, rfl⟩
  go_loopw [30] (fun i wr => wr = wo ∧ i = .int .i64 0) (fun _ _ => 0)
  case atStart => exact ⟨hwo.symm, rfl⟩
  case round =>
    obtain ⟨rfl, rfl⟩ := hrel
    subst hwo
    obtain ⟨wA, rfl⟩ : ∃ wA : World, wA = wr := ⟨_, rfl⟩
    have c0 : wA.cell? ⟨B, 0, none⟩ = some (.pointer (some ⟨T.O.blk, 0, none⟩)) := cell_at ((HB2.out.block B hBl).trans HB.out) 0 _ rfl
    have HI := Lib.hid (HID.out wA HB2.out)
    clear HID
    go_wp2_with fail
    refine HI.out.mono ?_
    rintro e w4 ⟨idv, rfl, hrow, hb4⟩
    obtain ⟨ia, ic, hiv⟩ := own_slice hrow
    have HROW := Lib.hid hrow
    have HB4 : Hid (Below W.heap.size W w4) := HB2.out.trans (hb4.mono HB2.out.size)
    have HIV := Lib.hid hiv
    rw [hiv]
    clear hrow hb4 HI c0 hiv
    go_wp2_with fail
    generalize w2.heap.size = g2 at *
    go_loopw [55] (fun i wl => ∃ k : Nat, k ≤ T.O.recs.length ∧ i = .int .i64 (k : Int) ∧ Hid (PendAt base wl { P with all := notesP (T.O.recs.take k) P.all } ∧ Mod P.foot w4 wl)) (fun i _ => T.O.recs.length - (intOf i).toNat)
    case atStart => exact ⟨0, Nat.zero_le _, rfl, HP.out.below HB4.out, Mod.refl _ _⟩
    case round =>
      obtain ⟨k, hk, rfl, HS⟩ := hrel
      have hl := HL.out
      have hmw : Mod P.foot W wr := (Mod.of_below (M := P.foot) HB4.out).trans HS.out.2
      have HMW := Lib.hid hmw
      have hTr : TapeAt base wr T := HH.out.mod hmw (fun j hj => (HAW.out.1 j hj).2)
      have HTR := Lib.hid hTr
      have hBr : wr.heap[B]? = _ := (hmw.block B hBl (fun h2 => HAW.out.2 B h2 rfl)).trans HB.out
      have HBR := Lib.hid hBr
      have c0 : wr.cell? ⟨B, 0, none⟩ = some (.pointer (some ⟨T.O.blk, 0, none⟩)) := cell_at hBr 0 _ rfl
      clear hBr hmw
      by_cases hlt : k < T.O.recs.length
      · obtain ⟨g, cap, hgv, hgc, hcell⟩ := own_cell (SegW.ownsRow_mod HROW.out HS.out.2 (fun j hj h2 => by have h3 := ownBlock_of_own HROW.out j hj; have h4 := HP.out.lt h2; have := HB2.out.size; omega)) k hlt (.int .i64 (T.O.recs[k].1 : Int)) (by unfold idsL; rw [List.getElem?_map, List.getElem?_eq_getElem hlt]; rfl)
        rw [HIV.out] at hgv
        injection hgv with e1 e2 e3
        subst e1 e3
        obtain ⟨⟨id, m⟩, hid⟩ : ∃ p, p = T.O.recs[k] := ⟨_, rfl⟩
        have hmem : (id, m) ∈ T.O.recs := by rw [hid]; exact List.getElem_mem hlt
        rw [← hid] at hcell
        have hid1 : T.O.recs[k].1 = id := by rw [← hid]
        have hid2 : T.O.recs[k].2 = m := by rw [← hid]
        have HTK : Hid (notesP (T.O.recs.take (k + 1)) P.all = noteP (notesP (T.O.recs.take k) P.all) (id : Int) m) := by
          show _ = _
          rw [notesP_take hlt, hid1, hid2]
        have HRD := Lib.hid (tread_any id m wr hTr HQ.out.up (HTB.out.mod HMW.out (fun j hj => hj.elim (fun e => e ▸ HP.out.low.1) fun e => e ▸ HP.out.low.2)) (Nat.le_trans HBS.out HMW.out.size) hmem)
        have hcell' : wr.cell? ⟨g, k, none⟩ = some (.int .i64 (id : Int)) := hcell
        clear hid hcell hid1 hid2 hmem hTr
        generalize notesP (T.O.recs.take k) P.all = al at *
        generalize hnl : T.O.recs.length = nl at *
        go_wp2_with fail
        refine HRD.out.mono ?_
        rintro e w5 ⟨a, c, rfl, hst, hb5, _⟩
        rw [show cellsM m a c = #[.int .i64 m.kind, .int .i64 m.queue, .int .i64 m.due, .int .i64 m.retry, .int .i64 m.ref, .int .i64 m.born, .string (S m.topic), .string (S m.tag), .string (S m.body), .slice a m.keys.length c] from rfl]
        have HB5 := Lib.hid hb5
        clear HRD hb5 hst c0 hcell'
        go_wp2_with fail
        have hb6 : Below wr.heap.size wr (w5.alloc (.cells #[.int .i64 m.kind, .int .i64 m.queue, .int .i64 m.due, .int .i64 m.retry, .int .i64 m.ref, .int .i64 m.born, .string (S m.topic), .string (S m.tag), .string (S m.body), .slice a m.keys.length c] 34)) := HB5.out.alloc HB5.out.size _
        have HX6 : Hid (RecW.Boxed (w5.alloc (.cells #[.int .i64 m.kind, .int .i64 m.queue, .int .i64 m.due, .int .i64 m.retry, .int .i64 m.ref, .int .i64 m.born, .string (S m.topic), .string (S m.tag), .string (S m.body), .slice a m.keys.length c] 34)) w5.heap.size #[.int .i64 m.kind, .int .i64 m.queue, .int .i64 m.due, .int .i64 m.retry, .int .i64 m.ref, .int .i64 m.born, .string (S m.topic), .string (S m.tag), .string (S m.body), .slice a m.keys.length c]) := RecW.Boxed.new w5 _ _
        generalize w5.alloc (.cells #[.int .i64 m.kind, .int .i64 m.queue, .int .i64 m.due, .int .i64 m.retry, .int .i64 m.ref, .int .i64 m.born, .string (S m.topic), .string (S m.tag), .string (S m.body), .slice a m.keys.length c] 34) = w6 at *
        generalize w5.heap.size = A at *
        have HB6 := Lib.hid hb6
        have d6 : w6.cell? ⟨B, 6, none⟩ = some (.pointer (some ⟨P.blk, 0, none⟩)) := by
          rw [hb6.cell (Array.getElem?_eq_some_iff.1 HBR.out).1]; exact cell_at HBR.out 6 _ rfl
        have HNT := Lib.hid (note_any (id : Int) m a c w6.drew ((HS.out.1.below hb6).below ((Below.refl _ w6).drew)))
        rw [show cellsM m a c = #[.int .i64 m.kind, .int .i64 m.queue, .int .i64 m.due, .int .i64 m.retry, .int .i64 m.ref, .int .i64 m.born, .string (S m.topic), .string (S m.tag), .string (S m.body), .slice a m.keys.length c] from rfl] at HNT
        have k0 : w6.cell? ⟨A, 0, none⟩ = some (.int .i64 m.kind) := HX6.out 0 _ rfl
        have k1 : w6.cell? ⟨A, 1, none⟩ = some (.int .i64 m.queue) := HX6.out 1 _ rfl
        have k2 : w6.cell? ⟨A, 2, none⟩ = some (.int .i64 m.due) := HX6.out 2 _ rfl
        have k3 : w6.cell? ⟨A, 3, none⟩ = some (.int .i64 m.retry) := HX6.out 3 _ rfl
        have k4 : w6.cell? ⟨A, 4, none⟩ = some (.int .i64 m.ref) := HX6.out 4 _ rfl
        have k5 : w6.cell? ⟨A, 5, none⟩ = some (.int .i64 m.born) := HX6.out 5 _ rfl
        have k6 : w6.cell? ⟨A, 6, none⟩ = some (.string (S m.topic)) := HX6.out 6 _ rfl
        have k7 : w6.cell? ⟨A, 7, none⟩ = some (.string (S m.tag)) := HX6.out 7 _ rfl
        have k8 : w6.cell? ⟨A, 8, none⟩ = some (.string (S m.body)) := HX6.out 8 _ rfl
        have k9 : w6.cell? ⟨A, 9, none⟩ = some (.slice a m.keys.length c) := HX6.out 9 _ rfl
        clear hb6
        refine GrowM.wp_region_s (by kernel_rfl) ?_
        refine GrowM.st_grow 6 [none, none, none, none, none, none] (fun u v => v = u) (by kernel_rfl) (by kernel_rfl) (fun _ => rfl) (fun _ _ _ h k => k.trans h) ?_ ?_
        · intro K hK Y hY l v w w' hR h
          simp only [List.mem_cons, List.not_mem_nil, or_false] at hK
          rcases hK with rfl | rfl | rfl | rfl | rfl | rfl <;> simp only [reduceCtorEq, Option.some.injEq, Sum.inr.injEq] at hY
        simp only [List.take_succ_cons, List.take_zero, List.drop_succ_cons, List.drop_zero, Nat.reduceSub]
        iterate 6
          refine GrowN.g_det rfl ?_
          apply Exists.intro
          refine ⟨fun w hw hF => ?_, ?_⟩
          · obtain rfl := hw.symm
            clear hF
            go_simp
            first | exact rfl | exact ⟨rfl, rfl⟩
          simp only [Act.put, List.setIfInBounds_toArray, List.set_cons_zero, List.set_cons_succ]
        refine GrowN.g_nil fun wz hwz hF => ?_
        obtain rfl := hwz.symm
        clear hF
        refine GrowM.st_call (fun v w' => PendAt base w' { P with all := noteP al (id : Int) m } ∧ Mod (fun k => k = P.mB) w6.drew w') (by kernel_rfl) rfl rfl ?_ ?_
        · go_simp
          refine HNT.out.mono ?_
          rintro e w' ⟨v, rfl, hb⟩
          first | exact ⟨⟨_, rfl⟩, hb⟩ | exact ⟨_, hb⟩
        rintro v w7 hb
        simp only [Act.put, List.setIfInBounds_toArray, List.set_cons_zero, List.set_cons_succ]
        refine GrowM.st_end rfl ?_
        have HP7 := Lib.hid hb
        clear hb HNT k0 k1 k2 k3 k4 k5 k6 k7 k8 k9 d6
        go_wp2_with fail
        go_roundw
        case rel =>
          refine ⟨k + 1, by omega, by go_num, ?_, ?_⟩
          · rw [HTK.out]; exact HP7.out.1
          · exact (HS.out.2.trans (Mod.of_below (M := P.foot) (HB6.out.drew))).trans (HP7.out.2.mono fun j _ e => .inr e)
        case measure => simp [intOf]; omega
      · have hkn : k = T.O.recs.length := by omega
        subst hkn
        rw [List.take_length] at HS
        have HM0 : Hid (Mod (fun k => k = B ∨ P.foot k) W wr) := HMW.out.mono fun k _ e => .inr e
        have HPW : Hid (PendAt base wr { P with all := notesP T.O.recs P.all }) := HS.out.1
        clear HS HROW HIV c0
        have hBl19 : B < wr.heap.size := (Array.getElem?_eq_some_iff.1 HBR.out).1
        have HCC : Hid (∀ w, OnceG B wr.heap.size (fun b => .cells #[.pointer (some ⟨T.O.blk, 0, none⟩), .pointer (some ⟨cb, 0, none⟩), .pointer (some ⟨kb, 0, none⟩), v3, v4, .pointer (some ⟨tb, 0, none⟩), .pointer (some ⟨P.blk, 0, none⟩), .pointer (some ⟨b, 0, none⟩), .pointer none, .pointer none, .pointer (some ⟨T.D.blk, 0, none⟩), now] 51 (0, 0)) (.cells #[.pointer (some ⟨T.O.blk, 0, none⟩), .pointer (some ⟨cb, 0, none⟩), .pointer (some ⟨kb, 0, none⟩), .int .i64 (T.R.b : Int)] 174 (0, 0)) wr.drew w → w.cell? ⟨B, 0, none⟩ = some (.pointer (some ⟨T.O.blk, 0, none⟩)) ∧ w.cell? ⟨B, 1, none⟩ = some (.pointer (some ⟨cb, 0, none⟩)) ∧ w.cell? ⟨B, 2, none⟩ = some (.pointer (some ⟨kb, 0, none⟩))) := fun w hw => by
          rcases hw.2 with e | ⟨b, e, _⟩
          · have hb := e.trans (show wr.drew.heap[B]? = _ from HBR.out)
            exact ⟨cell_at hb 0 _ rfl, cell_at hb 1 _ rfl, cell_at hb 2 _ rfl⟩
          · exact ⟨cell_at e 0 _ rfl, cell_at e 1 _ rfl, cell_at e 2 _ rfl⟩
        have HNEW : Hid (∀ w, OnceG B wr.heap.size (fun b => .cells #[.pointer (some ⟨T.O.blk, 0, none⟩), .pointer (some ⟨cb, 0, none⟩), .pointer (some ⟨kb, 0, none⟩), v3, v4, .pointer (some ⟨tb, 0, none⟩), .pointer (some ⟨P.blk, 0, none⟩), .pointer (some ⟨b, 0, none⟩), .pointer none, .pointer none, .pointer (some ⟨T.D.blk, 0, none⟩), now] 51 (0, 0)) (.cells #[.pointer (some ⟨T.O.blk, 0, none⟩), .pointer (some ⟨cb, 0, none⟩), .pointer (some ⟨kb, 0, none⟩), .int .i64 (T.R.b : Int)] 174 (0, 0)) wr.drew w → Calls Tryz.prog 72 #[.pointer (some ⟨T.O.blk, 0, none⟩), .pointer (some ⟨cb, 0, none⟩), .pointer (some ⟨kb, 0, none⟩)] w fun e w' => ∃ b, e = .returned (.tuple #[.pointer (some ⟨b, 0, none⟩), .int .i64 0]) ∧ w'.heap[b]? = some (.cells #[.pointer (some ⟨T.O.blk, 0, none⟩), .pointer (some ⟨cb, 0, none⟩), .pointer (some ⟨kb, 0, none⟩), .int .i64 (T.R.b : Int)] 174 (0, 0)) ∧ wr.heap.size ≤ b ∧ OnceG B wr.heap.size (fun b => .cells #[.pointer (some ⟨T.O.blk, 0, none⟩), .pointer (some ⟨cb, 0, none⟩), .pointer (some ⟨kb, 0, none⟩), v3, v4, .pointer (some ⟨tb, 0, none⟩), .pointer (some ⟨P.blk, 0, none⟩), .pointer (some ⟨b, 0, none⟩), .pointer none, .pointer none, .pointer (some ⟨T.D.blk, 0, none⟩), now] 51 (0, 0)) (.cells #[.pointer (some ⟨T.O.blk, 0, none⟩), .pointer (some ⟨cb, 0, none⟩), .pointer (some ⟨kb, 0, none⟩), .int .i64 (T.R.b : Int)] 174 (0, 0)) w w') := fun w hw =>
          (dispnew_any cb kb w ((HTR.out.below ((Below.refl _ wr).drew)).mod hw.1 (fun j hj => (HAW.out.1 j hj).1))).mono fun e w' ⟨b, h1, h2⟩ => ⟨b, h1, h2.cells, Nat.le_trans hw.1.size h2.new, OnceG.below h2.below (Nat.lt_of_lt_of_le hBl19 hw.1.size)⟩
        go_upto_region 19 with fail
        refine GrowN.wp_region_n 20 [none, none, none, none, none, none, none, none, none, none, none, none, none, some (.inr (fun _ => YT wr.heap.size (.cells #[.pointer (some ⟨T.O.blk, 0, none⟩), .pointer (some ⟨cb, 0, none⟩), .pointer (some ⟨kb, 0, none⟩), .int .i64 (T.R.b : Int)] 174 (0, 0)))), some (.inr (fun _ => YT wr.heap.size (.cells #[.pointer (some ⟨T.O.blk, 0, none⟩), .pointer (some ⟨cb, 0, none⟩), .pointer (some ⟨kb, 0, none⟩), .int .i64 (T.R.b : Int)] 174 (0, 0)))), some (.inr (fun _ => YP wr.heap.size (.cells #[.pointer (some ⟨T.O.blk, 0, none⟩), .pointer (some ⟨cb, 0, none⟩), .pointer (some ⟨kb, 0, none⟩), .int .i64 (T.R.b : Int)] 174 (0, 0)))), some (.inl (.int .i64 0)), none, none, some (.inr (fun _ _ => YS B wr.heap.size (fun b => .cells #[.pointer (some ⟨T.O.blk, 0, none⟩), .pointer (some ⟨cb, 0, none⟩), .pointer (some ⟨kb, 0, none⟩), v3, v4, .pointer (some ⟨tb, 0, none⟩), .pointer (some ⟨P.blk, 0, none⟩), .pointer (some ⟨b, 0, none⟩), .pointer none, .pointer none, .pointer (some ⟨T.D.blk, 0, none⟩), now] 51 (0, 0)) (.cells #[.pointer (some ⟨T.O.blk, 0, none⟩), .pointer (some ⟨cb, 0, none⟩), .pointer (some ⟨kb, 0, none⟩), .int .i64 (T.R.b : Int)] 174 (0, 0))))] (OnceG B wr.heap.size (fun b => .cells #[.pointer (some ⟨T.O.blk, 0, none⟩), .pointer (some ⟨cb, 0, none⟩), .pointer (some ⟨kb, 0, none⟩), v3, v4, .pointer (some ⟨tb, 0, none⟩), .pointer (some ⟨P.blk, 0, none⟩), .pointer (some ⟨b, 0, none⟩), .pointer none, .pointer none, .pointer (some ⟨T.D.blk, 0, none⟩), now] 51 (0, 0)) (.cells #[.pointer (some ⟨T.O.blk, 0, none⟩), .pointer (some ⟨cb, 0, none⟩), .pointer (some ⟨kb, 0, none⟩), .int .i64 (T.R.b : Int)] 174 (0, 0))) (by kernel_rfl) (by kernel_rfl) (by kernel_rfl) (OnceG.refl _ _ _ _) (fun _ _ _ => OnceG.trans hBl19) ?_ ?_
        · intro K hK Y hY l v w w' hR
          simp only [List.mem_cons, List.not_mem_nil, or_false] at hK
          rcases hK with rfl | rfl | rfl | rfl | rfl | rfl | rfl | rfl | rfl | rfl | rfl | rfl | rfl | rfl | rfl | rfl | rfl | rfl | rfl | rfl <;> simp only [reduceCtorEq, Option.some.injEq, Sum.inr.injEq] at hY
          iterate 3
            · subst hY; exact fun ⟨b, h1, h2, h3⟩ => ⟨b, h1, OnceG.keep hBl19 hR h3 h2, h3⟩
          · subst hY; exact fun ⟨b, h1, h2, h3⟩ => hR.2.elim (fun e => ⟨b, e.trans h1, OnceG.keep hBl19 hR h3 h2, h3⟩) fun h => h
        simp only [List.take_succ_cons, List.take_zero, List.drop_succ_cons, List.drop_zero]
        iterate 4
          refine GrowN.g_det rfl ?_
          apply Exists.intro
          refine ⟨fun w hw hF => ?_, ?_⟩
          · clear hF
            go_simp
            exact ⟨rfl, OnceG.refl _ _ _ _ _⟩
          simp only [Act.put, List.setIfInBounds_toArray, List.set_cons_zero, List.set_cons_succ]
        iterate 2
          refine GrowN.g_det rfl ?_
          apply Exists.intro
          refine ⟨fun w hw hF => ?_, ?_⟩
          · clear hF
            have hc := (HCC.out w hw)
            obtain ⟨e0, e1, e2⟩ := hc
            go_simp
            exact ⟨rfl, OnceG.refl _ _ _ _ _⟩
          simp only [Act.put, List.setIfInBounds_toArray, List.set_cons_zero, List.set_cons_succ]
          refine GrowN.g_det rfl ?_
          apply Exists.intro
          refine ⟨fun w hw hF => ?_, ?_⟩
          · clear hF
            go_simp
            exact ⟨rfl, OnceG.refl _ _ _ _ _⟩
          simp only [Act.put, List.setIfInBounds_toArray, List.set_cons_zero, List.set_cons_succ]
          refine GrowN.g_det rfl ?_
          apply Exists.intro
          refine ⟨fun w hw hF => ?_, ?_⟩
          · clear hF
            go_simp
            exact ⟨rfl, OnceG.refl _ _ _ _ _⟩
          simp only [Act.put, List.setIfInBounds_toArray, List.set_cons_zero, List.set_cons_succ]
          refine GrowN.g_det rfl ?_
          apply Exists.intro
          refine ⟨fun w hw hF => ?_, ?_⟩
          · clear hF
            go_simp
            exact ⟨rfl, OnceG.refl _ _ _ _ _⟩
          simp only [Act.put, List.setIfInBounds_toArray, List.set_cons_zero, List.set_cons_succ]
        refine GrowN.g_det rfl ?_
        apply Exists.intro
        refine ⟨fun w hw hF => ?_, ?_⟩
        · clear hF
          have hc := (HCC.out w hw)
          obtain ⟨e0, e1, e2⟩ := hc
          go_simp
          exact ⟨rfl, OnceG.refl _ _ _ _ _⟩
        simp only [Act.put, List.setIfInBounds_toArray, List.set_cons_zero, List.set_cons_succ]
        refine GrowN.g_new rfl (fun w hw hF => ?_) (fun v13 => ?_)
        · clear hF
          go_simp
          exact (HNEW.out w hw).mono fun e w' ⟨b, h1, h2, h3, h4⟩ => ⟨_, h1, ⟨b, rfl, h2, h3⟩, h4⟩
        simp only [Act.put, List.setIfInBounds_toArray, List.set_cons_zero, List.set_cons_succ]
        refine GrowN.g_new rfl (fun w hw hF => ?_) (fun v14 => ?_)
        · skip
          obtain ⟨b, rfl, h2, h3⟩ := hF _ (.head _) (by kernel_rfl)
          clear hF
          go_simp
          exact ⟨⟨b, rfl, h2, h3⟩, OnceG.refl _ _ _ _ _⟩
        simp only [Act.put, List.setIfInBounds_toArray, List.set_cons_zero, List.set_cons_succ]
        refine GrowN.g_new rfl (fun w hw hF => ?_) (fun v15 => ?_)
        · skip
          obtain ⟨b, rfl, h2, h3⟩ := hF _ (.head _) (by kernel_rfl)
          clear hF
          go_simp
          exact ⟨⟨b, rfl, h2, h3⟩, OnceG.refl _ _ _ _ _⟩
        simp only [Act.put, List.setIfInBounds_toArray, List.set_cons_zero, List.set_cons_succ]
        refine GrowN.g_con rfl (fun w hw hF => ?_) ?_
        · obtain ⟨b, rfl, h2, h3⟩ := hF _ (.tail _ (.head _)) (by kernel_rfl)
          clear hF
          go_simp
          exact OnceG.refl _ _ _ _ _
        iterate 2
          simp only [Act.put, List.setIfInBounds_toArray, List.set_cons_zero, List.set_cons_succ]
          refine GrowN.g_det rfl ?_
          apply Exists.intro
          refine ⟨fun w hw hF => ?_, ?_⟩
          · clear hF
            go_simp
            exact ⟨rfl, OnceG.refl _ _ _ _ _⟩
        simp only [Act.put, List.setIfInBounds_toArray, List.set_cons_zero, List.set_cons_succ]
        refine GrowN.g_new rfl (fun w hw hF => ?_) (fun vS => ?_)
        · obtain ⟨b, rfl, h2, h3⟩ := hF _ (.head _) (by kernel_rfl)
          clear hF
          rcases hw.2 with e | ⟨b', e, _⟩
          · have hBw := e.trans (show wr.drew.heap[B]? = _ from HBR.out)
            have fz := frozen_at hBw 7
            have dz := cell_at hBw 7 _ rfl
            go_simp
            have hs := heap_setCell_same w B 7 _ _ (.pointer (some ⟨b, 0, none⟩)) hBw
            have hm : Mod (fun k => k = B) w (w.setCell ⟨B, 7, none⟩ (.pointer (some ⟨b, 0, none⟩))) := (Mod.refl (fun k => k = B) w).setCell (.inl rfl) _
            exact ⟨⟨b, hs, heap_mod hm h2 (by omega), h3⟩, hm, .inr ⟨b, hs, heap_mod hm h2 (by omega), h3⟩⟩
          · have hBw := e
            have fz := frozen_at hBw 7
            have dz := cell_at hBw 7 _ rfl
            go_simp
            have hs := heap_setCell_same w B 7 _ _ (.pointer (some ⟨b, 0, none⟩)) hBw
            have hm : Mod (fun k => k = B) w (w.setCell ⟨B, 7, none⟩ (.pointer (some ⟨b, 0, none⟩))) := (Mod.refl (fun k => k = B) w).setCell (.inl rfl) _
            exact ⟨⟨b, hs, heap_mod hm h2 (by omega), h3⟩, hm, .inr ⟨b, hs, heap_mod hm h2 (by omega), h3⟩⟩
        simp only [Act.put, List.setIfInBounds_toArray, List.set_cons_zero, List.set_cons_succ]
        refine GrowN.g_nil fun w19 hwz hF => ?_
        obtain ⟨b7, hBw19, hNb7, hnb7⟩ := hF _ (.head _)
        clear hF
        have hmw19 : Mod (fun k => k = B) wr w19 := (Mod.of_below (M := fun k => k = B) ((Below.refl wr.heap.size wr).drew)).trans hwz.1
        have HMZw19 := Lib.hid hmw19
        have HNCb7 := Lib.hid hNb7
        have HNNb7 := Lib.hid hnb7
        have HM19 : Hid (Mod (fun k => k = B ∨ P.foot k) W w19) := HM0.out.trans (hmw19.mono fun k _ e => .inl e)
        have HB19 : Hid (w19.heap[B]? = _) := hBw19
        have HT19 : Hid (TapeAt base w19 T) := HTR.out.mod hmw19 (fun j hj => (HAW.out.1 j hj).1)
        have HP19 : Hid (PendAt base w19 { P with all := notesP T.O.recs P.all }) := HPW.out.mod hmw19 (fun j hj => HAW.out.2 j hj)
        have HG7 : Hid (W.heap.size ≤ b7) := Nat.le_trans HM0.out.size hnb7
        clear hwz hBw19 hmw19 hNb7 hnb7 HCC HNEW vS
        have hBl20 : B < w19.heap.size := (Array.getElem?_eq_some_iff.1 HB19.out).1
        have HCC : Hid (∀ w, OnceG B w19.heap.size (fun b => .cells #[.pointer (some ⟨T.O.blk, 0, none⟩), .pointer (some ⟨cb, 0, none⟩), .pointer (some ⟨kb, 0, none⟩), v3, v4, .pointer (some ⟨tb, 0, none⟩), .pointer (some ⟨P.blk, 0, none⟩), .pointer (some ⟨b7, 0, none⟩), .pointer (some ⟨b, 0, none⟩), .pointer none, .pointer (some ⟨T.D.blk, 0, none⟩), now] 51 (0, 0)) (.cells #[.pointer (some ⟨T.O.blk, 0, none⟩), .pointer (some ⟨P.blk, 0, none⟩), .pointer (some ⟨tb, 0, none⟩), .int .i64 (T.R.b : Int), .slice none 0 0] 168 (0, 0)) w19.drew w → w.cell? ⟨B, 0, none⟩ = some (.pointer (some ⟨T.O.blk, 0, none⟩)) ∧ w.cell? ⟨B, 6, none⟩ = some (.pointer (some ⟨P.blk, 0, none⟩)) ∧ w.cell? ⟨B, 5, none⟩ = some (.pointer (some ⟨tb, 0, none⟩))) := fun w hw => by
          rcases hw.2 with e | ⟨b, e, _⟩
          · have hb := e.trans (show w19.drew.heap[B]? = _ from HB19.out)
            exact ⟨cell_at hb 0 _ rfl, cell_at hb 6 _ rfl, cell_at hb 5 _ rfl⟩
          · exact ⟨cell_at e 0 _ rfl, cell_at e 6 _ rfl, cell_at e 5 _ rfl⟩
        have HNEW : Hid (∀ w, OnceG B w19.heap.size (fun b => .cells #[.pointer (some ⟨T.O.blk, 0, none⟩), .pointer (some ⟨cb, 0, none⟩), .pointer (some ⟨kb, 0, none⟩), v3, v4, .pointer (some ⟨tb, 0, none⟩), .pointer (some ⟨P.blk, 0, none⟩), .pointer (some ⟨b7, 0, none⟩), .pointer (some ⟨b, 0, none⟩), .pointer none, .pointer (some ⟨T.D.blk, 0, none⟩), now] 51 (0, 0)) (.cells #[.pointer (some ⟨T.O.blk, 0, none⟩), .pointer (some ⟨P.blk, 0, none⟩), .pointer (some ⟨tb, 0, none⟩), .int .i64 (T.R.b : Int), .slice none 0 0] 168 (0, 0)) w19.drew w → Calls Tryz.prog 73 #[.pointer (some ⟨T.O.blk, 0, none⟩), .pointer (some ⟨P.blk, 0, none⟩), .pointer (some ⟨tb, 0, none⟩)] w fun e w' => ∃ b, e = .returned (.tuple #[.pointer (some ⟨b, 0, none⟩), .int .i64 0]) ∧ w'.heap[b]? = some (.cells #[.pointer (some ⟨T.O.blk, 0, none⟩), .pointer (some ⟨P.blk, 0, none⟩), .pointer (some ⟨tb, 0, none⟩), .int .i64 (T.R.b : Int), .slice none 0 0] 168 (0, 0)) ∧ w19.heap.size ≤ b ∧ OnceG B w19.heap.size (fun b => .cells #[.pointer (some ⟨T.O.blk, 0, none⟩), .pointer (some ⟨cb, 0, none⟩), .pointer (some ⟨kb, 0, none⟩), v3, v4, .pointer (some ⟨tb, 0, none⟩), .pointer (some ⟨P.blk, 0, none⟩), .pointer (some ⟨b7, 0, none⟩), .pointer (some ⟨b, 0, none⟩), .pointer none, .pointer (some ⟨T.D.blk, 0, none⟩), now] 51 (0, 0)) (.cells #[.pointer (some ⟨T.O.blk, 0, none⟩), .pointer (some ⟨P.blk, 0, none⟩), .pointer (some ⟨tb, 0, none⟩), .int .i64 (T.R.b : Int), .slice none 0 0] 168 (0, 0)) w w') := fun w hw =>
          (enqnew_any P.blk tb w ((HT19.out.below ((Below.refl _ w19).drew)).mod hw.1 (fun j hj => (HAW.out.1 j hj).1))).mono fun e w' ⟨b, h1, h2⟩ => ⟨b, h1, h2.cells, Nat.le_trans hw.1.size h2.new, OnceG.below h2.below (Nat.lt_of_lt_of_le hBl20 hw.1.size)⟩
        go_upto_region 20 with fail
        refine GrowN.wp_region_n 20 [none, none, none, none, none, none, none, none, none, none, none, none, none, some (.inr (fun _ => YT w19.heap.size (.cells #[.pointer (some ⟨T.O.blk, 0, none⟩), .pointer (some ⟨P.blk, 0, none⟩), .pointer (some ⟨tb, 0, none⟩), .int .i64 (T.R.b : Int), .slice none 0 0] 168 (0, 0)))), some (.inr (fun _ => YT w19.heap.size (.cells #[.pointer (some ⟨T.O.blk, 0, none⟩), .pointer (some ⟨P.blk, 0, none⟩), .pointer (some ⟨tb, 0, none⟩), .int .i64 (T.R.b : Int), .slice none 0 0] 168 (0, 0)))), some (.inr (fun _ => YP w19.heap.size (.cells #[.pointer (some ⟨T.O.blk, 0, none⟩), .pointer (some ⟨P.blk, 0, none⟩), .pointer (some ⟨tb, 0, none⟩), .int .i64 (T.R.b : Int), .slice none 0 0] 168 (0, 0)))), some (.inl (.int .i64 0)), none, none, some (.inr (fun _ _ => YS B w19.heap.size (fun b => .cells #[.pointer (some ⟨T.O.blk, 0, none⟩), .pointer (some ⟨cb, 0, none⟩), .pointer (some ⟨kb, 0, none⟩), v3, v4, .pointer (some ⟨tb, 0, none⟩), .pointer (some ⟨P.blk, 0, none⟩), .pointer (some ⟨b7, 0, none⟩), .pointer (some ⟨b, 0, none⟩), .pointer none, .pointer (some ⟨T.D.blk, 0, none⟩), now] 51 (0, 0)) (.cells #[.pointer (some ⟨T.O.blk, 0, none⟩), .pointer (some ⟨P.blk, 0, none⟩), .pointer (some ⟨tb, 0, none⟩), .int .i64 (T.R.b : Int), .slice none 0 0] 168 (0, 0))))] (OnceG B w19.heap.size (fun b => .cells #[.pointer (some ⟨T.O.blk, 0, none⟩), .pointer (some ⟨cb, 0, none⟩), .pointer (some ⟨kb, 0, none⟩), v3, v4, .pointer (some ⟨tb, 0, none⟩), .pointer (some ⟨P.blk, 0, none⟩), .pointer (some ⟨b7, 0, none⟩), .pointer (some ⟨b, 0, none⟩), .pointer none, .pointer (some ⟨T.D.blk, 0, none⟩), now] 51 (0, 0)) (.cells #[.pointer (some ⟨T.O.blk, 0, none⟩), .pointer (some ⟨P.blk, 0, none⟩), .pointer (some ⟨tb, 0, none⟩), .int .i64 (T.R.b : Int), .slice none 0 0] 168 (0, 0))) (by kernel_rfl) (by kernel_rfl) (by kernel_rfl) (OnceG.refl _ _ _ _) (fun _ _ _ => OnceG.trans hBl20) ?_ ?_
        · intro K hK Y hY l v w w' hR
          simp only [List.mem_cons, List.not_mem_nil, or_false] at hK
          rcases hK with rfl | rfl | rfl | rfl | rfl | rfl | rfl | rfl | rfl | rfl | rfl | rfl | rfl | rfl | rfl | rfl | rfl | rfl | rfl | rfl <;> simp only [reduceCtorEq, Option.some.injEq, Sum.inr.injEq] at hY
          iterate 3
            · subst hY; exact fun ⟨b, h1, h2, h3⟩ => ⟨b, h1, OnceG.keep hBl20 hR h3 h2, h3⟩
          · subst hY; exact fun ⟨b, h1, h2, h3⟩ => hR.2.elim (fun e => ⟨b, e.trans h1, OnceG.keep hBl20 hR h3 h2, h3⟩) fun h => h
        simp only [List.take_succ_cons, List.take_zero, List.drop_succ_cons, List.drop_zero]
        iterate 4
          refine GrowN.g_det rfl ?_
          apply Exists.intro
          refine ⟨fun w hw hF => ?_, ?_⟩
          · clear hF
            go_simp
            exact ⟨rfl, OnceG.refl _ _ _ _ _⟩
          simp only [Act.put, List.setIfInBounds_toArray, List.set_cons_zero, List.set_cons_succ]
        iterate 2
          refine GrowN.g_det rfl ?_
          apply Exists.intro
          refine ⟨fun w hw hF => ?_, ?_⟩
          · clear hF
            have hc := (HCC.out w hw)
            obtain ⟨e0, e6, e5⟩ := hc
            go_simp
            exact ⟨rfl, OnceG.refl _ _ _ _ _⟩
          simp only [Act.put, List.setIfInBounds_toArray, List.set_cons_zero, List.set_cons_succ]
          refine GrowN.g_det rfl ?_
          apply Exists.intro
          refine ⟨fun w hw hF => ?_, ?_⟩
          · clear hF
            go_simp
            exact ⟨rfl, OnceG.refl _ _ _ _ _⟩
          simp only [Act.put, List.setIfInBounds_toArray, List.set_cons_zero, List.set_cons_succ]
          refine GrowN.g_det rfl ?_
          apply Exists.intro
          refine ⟨fun w hw hF => ?_, ?_⟩
          · clear hF
            go_simp
            exact ⟨rfl, OnceG.refl _ _ _ _ _⟩
          simp only [Act.put, List.setIfInBounds_toArray, List.set_cons_zero, List.set_cons_succ]
          refine GrowN.g_det rfl ?_
          apply Exists.intro
          refine ⟨fun w hw hF => ?_, ?_⟩
          · clear hF
            go_simp
            exact ⟨rfl, OnceG.refl _ _ _ _ _⟩
          simp only [Act.put, List.setIfInBounds_toArray, List.set_cons_zero, List.set_cons_succ]
        refine GrowN.g_det rfl ?_
        apply Exists.intro
        refine ⟨fun w hw hF => ?_, ?_⟩
        · clear hF
          have hc := (HCC.out w hw)
          obtain ⟨e0, e6, e5⟩ := hc
          go_simp
          exact ⟨rfl, OnceG.refl _ _ _ _ _⟩
        simp only [Act.put, List.setIfInBounds_toArray, List.set_cons_zero, List.set_cons_succ]
        refine GrowN.g_new rfl (fun w hw hF => ?_) (fun v13 => ?_)
        · clear hF
          go_simp
          exact (HNEW.out w hw).mono fun e w' ⟨b, h1, h2, h3, h4⟩ => ⟨_, h1, ⟨b, rfl, h2, h3⟩, h4⟩
        simp only [Act.put, List.setIfInBounds_toArray, List.set_cons_zero, List.set_cons_succ]
        refine GrowN.g_new rfl (fun w hw hF => ?_) (fun v14 => ?_)
        · skip
          obtain ⟨b, rfl, h2, h3⟩ := hF _ (.head _) (by kernel_rfl)
          clear hF
          go_simp
          exact ⟨⟨b, rfl, h2, h3⟩, OnceG.refl _ _ _ _ _⟩
        simp only [Act.put, List.setIfInBounds_toArray, List.set_cons_zero, List.set_cons_succ]
        refine GrowN.g_new rfl (fun w hw hF => ?_) (fun v15 => ?_)
        · skip
          obtain ⟨b, rfl, h2, h3⟩ := hF _ (.head _) (by kernel_rfl)
          clear hF
          go_simp
          exact ⟨⟨b, rfl, h2, h3⟩, OnceG.refl _ _ _ _ _⟩
        simp only [Act.put, List.setIfInBounds_toArray, List.set_cons_zero, List.set_cons_succ]
        refine GrowN.g_con rfl (fun w hw hF => ?_) ?_
        · obtain ⟨b, rfl, h2, h3⟩ := hF _ (.tail _ (.head _)) (by kernel_rfl)
          clear hF
          go_simp
          exact OnceG.refl _ _ _ _ _
        iterate 2
          simp only [Act.put, List.setIfInBounds_toArray, List.set_cons_zero, List.set_cons_succ]
          refine GrowN.g_det rfl ?_
          apply Exists.intro
          refine ⟨fun w hw hF => ?_, ?_⟩
          · clear hF
            go_simp
            exact ⟨rfl, OnceG.refl _ _ _ _ _⟩
        simp only [Act.put, List.setIfInBounds_toArray, List.set_cons_zero, List.set_cons_succ]
        refine GrowN.g_new rfl (fun w hw hF => ?_) (fun vS => ?_)
        · obtain ⟨b, rfl, h2, h3⟩ := hF _ (.head _) (by kernel_rfl)
          clear hF
          rcases hw.2 with e | ⟨b', e, _⟩
          · have hBw := e.trans (show w19.drew.heap[B]? = _ from HB19.out)
            have fz := frozen_at hBw 8
            have dz := cell_at hBw 8 _ rfl
            go_simp
            have hs := heap_setCell_same w B 8 _ _ (.pointer (some ⟨b, 0, none⟩)) hBw
            have hm : Mod (fun k => k = B) w (w.setCell ⟨B, 8, none⟩ (.pointer (some ⟨b, 0, none⟩))) := (Mod.refl (fun k => k = B) w).setCell (.inl rfl) _
            exact ⟨⟨b, hs, heap_mod hm h2 (by omega), h3⟩, hm, .inr ⟨b, hs, heap_mod hm h2 (by omega), h3⟩⟩
          · have hBw := e
            have fz := frozen_at hBw 8
            have dz := cell_at hBw 8 _ rfl
            go_simp
            have hs := heap_setCell_same w B 8 _ _ (.pointer (some ⟨b, 0, none⟩)) hBw
            have hm : Mod (fun k => k = B) w (w.setCell ⟨B, 8, none⟩ (.pointer (some ⟨b, 0, none⟩))) := (Mod.refl (fun k => k = B) w).setCell (.inl rfl) _
            exact ⟨⟨b, hs, heap_mod hm h2 (by omega), h3⟩, hm, .inr ⟨b, hs, heap_mod hm h2 (by omega), h3⟩⟩
        simp only [Act.put, List.setIfInBounds_toArray, List.set_cons_zero, List.set_cons_succ]
        refine GrowN.g_nil fun w20 hwz hF => ?_
        obtain ⟨b8, hBw20, hNb8, hnb8⟩ := hF _ (.head _)
        clear hF
        have hmw20 : Mod (fun k => k = B) w19 w20 := (Mod.of_below (M := fun k => k = B) ((Below.refl w19.heap.size w19).drew)).trans hwz.1
        have HMZw20 := Lib.hid hmw20
        have HNCb8 := Lib.hid hNb8
        have HNNb8 := Lib.hid hnb8
        have HM20 : Hid (Mod (fun k => k = B ∨ P.foot k) W w20) := HM19.out.trans (hmw20.mono fun k _ e => .inl e)
        have HB20 : Hid (w20.heap[B]? = _) := hBw20
        have HT20 : Hid (TapeAt base w20 T) := HT19.out.mod hmw20 (fun j hj => (HAW.out.1 j hj).1)
        have HP20 : Hid (PendAt base w20 { P with all := notesP T.O.recs P.all }) := HP19.out.mod hmw20 (fun j hj => HAW.out.2 j hj)
        have HG8 : Hid (W.heap.size ≤ b8) := Nat.le_trans HM19.out.size hnb8
        clear hwz hBw20 hmw20 hNb8 hnb8 HCC HNEW vS
        have hBl21 : B < w20.heap.size := (Array.getElem?_eq_some_iff.1 HB20.out).1
        have HCC : Hid (∀ w, OnceG B w20.heap.size (fun b => .cells #[.pointer (some ⟨T.O.blk, 0, none⟩), .pointer (some ⟨cb, 0, none⟩), .pointer (some ⟨kb, 0, none⟩), v3, v4, .pointer (some ⟨tb, 0, none⟩), .pointer (some ⟨P.blk, 0, none⟩), .pointer (some ⟨b7, 0, none⟩), .pointer (some ⟨b8, 0, none⟩), .pointer (some ⟨b, 0, none⟩), .pointer (some ⟨T.D.blk, 0, none⟩), now] 51 (0, 0)) (.cells #[.pointer (some ⟨T.O.blk, 0, none⟩), .pointer (some ⟨P.blk, 0, none⟩), .pointer (some ⟨tb, 0, none⟩), .slice none 0 0] 171 (0, 0)) w20.drew w → w.cell? ⟨B, 0, none⟩ = some (.pointer (some ⟨T.O.blk, 0, none⟩)) ∧ w.cell? ⟨B, 6, none⟩ = some (.pointer (some ⟨P.blk, 0, none⟩)) ∧ w.cell? ⟨B, 5, none⟩ = some (.pointer (some ⟨tb, 0, none⟩))) := fun w hw => by
          rcases hw.2 with e | ⟨b, e, _⟩
          · have hb := e.trans (show w20.drew.heap[B]? = _ from HB20.out)
            exact ⟨cell_at hb 0 _ rfl, cell_at hb 6 _ rfl, cell_at hb 5 _ rfl⟩
          · exact ⟨cell_at e 0 _ rfl, cell_at e 6 _ rfl, cell_at e 5 _ rfl⟩
        have HNEW : Hid (∀ w, OnceG B w20.heap.size (fun b => .cells #[.pointer (some ⟨T.O.blk, 0, none⟩), .pointer (some ⟨cb, 0, none⟩), .pointer (some ⟨kb, 0, none⟩), v3, v4, .pointer (some ⟨tb, 0, none⟩), .pointer (some ⟨P.blk, 0, none⟩), .pointer (some ⟨b7, 0, none⟩), .pointer (some ⟨b8, 0, none⟩), .pointer (some ⟨b, 0, none⟩), .pointer (some ⟨T.D.blk, 0, none⟩), now] 51 (0, 0)) (.cells #[.pointer (some ⟨T.O.blk, 0, none⟩), .pointer (some ⟨P.blk, 0, none⟩), .pointer (some ⟨tb, 0, none⟩), .slice none 0 0] 171 (0, 0)) w20.drew w → Calls Tryz.prog 74 #[.pointer (some ⟨T.O.blk, 0, none⟩), .pointer (some ⟨P.blk, 0, none⟩), .pointer (some ⟨tb, 0, none⟩)] w fun e w' => ∃ b, e = .returned (.tuple #[.pointer (some ⟨b, 0, none⟩), .int .i64 0]) ∧ w'.heap[b]? = some (.cells #[.pointer (some ⟨T.O.blk, 0, none⟩), .pointer (some ⟨P.blk, 0, none⟩), .pointer (some ⟨tb, 0, none⟩), .slice none 0 0] 171 (0, 0)) ∧ w20.heap.size ≤ b ∧ OnceG B w20.heap.size (fun b => .cells #[.pointer (some ⟨T.O.blk, 0, none⟩), .pointer (some ⟨cb, 0, none⟩), .pointer (some ⟨kb, 0, none⟩), v3, v4, .pointer (some ⟨tb, 0, none⟩), .pointer (some ⟨P.blk, 0, none⟩), .pointer (some ⟨b7, 0, none⟩), .pointer (some ⟨b8, 0, none⟩), .pointer (some ⟨b, 0, none⟩), .pointer (some ⟨T.D.blk, 0, none⟩), now] 51 (0, 0)) (.cells #[.pointer (some ⟨T.O.blk, 0, none⟩), .pointer (some ⟨P.blk, 0, none⟩), .pointer (some ⟨tb, 0, none⟩), .slice none 0 0] 171 (0, 0)) w w') := fun w hw =>
          (deqnew_any T.O.blk P.blk tb w).mono fun e w' ⟨b, h1, h2⟩ => ⟨b, h1, h2.cells, Nat.le_trans hw.1.size h2.new, OnceG.below h2.below (Nat.lt_of_lt_of_le hBl21 hw.1.size)⟩
        go_upto_region 21 with fail
        refine GrowN.wp_region_n 20 [none, none, none, none, none, none, none, none, none, none, none, none, none, some (.inr (fun _ => YT w20.heap.size (.cells #[.pointer (some ⟨T.O.blk, 0, none⟩), .pointer (some ⟨P.blk, 0, none⟩), .pointer (some ⟨tb, 0, none⟩), .slice none 0 0] 171 (0, 0)))), some (.inr (fun _ => YT w20.heap.size (.cells #[.pointer (some ⟨T.O.blk, 0, none⟩), .pointer (some ⟨P.blk, 0, none⟩), .pointer (some ⟨tb, 0, none⟩), .slice none 0 0] 171 (0, 0)))), some (.inr (fun _ => YP w20.heap.size (.cells #[.pointer (some ⟨T.O.blk, 0, none⟩), .pointer (some ⟨P.blk, 0, none⟩), .pointer (some ⟨tb, 0, none⟩), .slice none 0 0] 171 (0, 0)))), some (.inl (.int .i64 0)), none, none, some (.inr (fun _ _ => YS B w20.heap.size (fun b => .cells #[.pointer (some ⟨T.O.blk, 0, none⟩), .pointer (some ⟨cb, 0, none⟩), .pointer (some ⟨kb, 0, none⟩), v3, v4, .pointer (some ⟨tb, 0, none⟩), .pointer (some ⟨P.blk, 0, none⟩), .pointer (some ⟨b7, 0, none⟩), .pointer (some ⟨b8, 0, none⟩), .pointer (some ⟨b, 0, none⟩), .pointer (some ⟨T.D.blk, 0, none⟩), now] 51 (0, 0)) (.cells #[.pointer (some ⟨T.O.blk, 0, none⟩), .pointer (some ⟨P.blk, 0, none⟩), .pointer (some ⟨tb, 0, none⟩), .slice none 0 0] 171 (0, 0))))] (OnceG B w20.heap.size (fun b => .cells #[.pointer (some ⟨T.O.blk, 0, none⟩), .pointer (some ⟨cb, 0, none⟩), .pointer (some ⟨kb, 0, none⟩), v3, v4, .pointer (some ⟨tb, 0, none⟩), .pointer (some ⟨P.blk, 0, none⟩), .pointer (some ⟨b7, 0, none⟩), .pointer (some ⟨b8, 0, none⟩), .pointer (some ⟨b, 0, none⟩), .pointer (some ⟨T.D.blk, 0, none⟩), now] 51 (0, 0)) (.cells #[.pointer (some ⟨T.O.blk, 0, none⟩), .pointer (some ⟨P.blk, 0, none⟩), .pointer (some ⟨tb, 0, none⟩), .slice none 0 0] 171 (0, 0))) (by kernel_rfl) (by kernel_rfl) (by kernel_rfl) (OnceG.refl _ _ _ _) (fun _ _ _ => OnceG.trans hBl21) ?_ ?_
        · intro K hK Y hY l v w w' hR
          simp only [List.mem_cons, List.not_mem_nil, or_false] at hK
          rcases hK with rfl | rfl | rfl | rfl | rfl | rfl | rfl | rfl | rfl | rfl | rfl | rfl | rfl | rfl | rfl | rfl | rfl | rfl | rfl | rfl <;> simp only [reduceCtorEq, Option.some.injEq, Sum.inr.injEq] at hY
          iterate 3
            · subst hY; exact fun ⟨b, h1, h2, h3⟩ => ⟨b, h1, OnceG.keep hBl21 hR h3 h2, h3⟩
          · subst hY; exact fun ⟨b, h1, h2, h3⟩ => hR.2.elim (fun e => ⟨b, e.trans h1, OnceG.keep hBl21 hR h3 h2, h3⟩) fun h => h
        simp only [List.take_succ_cons, List.take_zero, List.drop_succ_cons, List.drop_zero]
        iterate 4
          refine GrowN.g_det rfl ?_
          apply Exists.intro
          refine ⟨fun w hw hF => ?_, ?_⟩
          · clear hF
            go_simp
            exact ⟨rfl, OnceG.refl _ _ _ _ _⟩
          simp only [Act.put, List.setIfInBounds_toArray, List.set_cons_zero, List.set_cons_succ]
        iterate 2
          refine GrowN.g_det rfl ?_
          apply Exists.intro
          refine ⟨fun w hw hF => ?_, ?_⟩
          · clear hF
            have hc := (HCC.out w hw)
            obtain ⟨e0, e6, e5⟩ := hc
            go_simp
            exact ⟨rfl, OnceG.refl _ _ _ _ _⟩
          simp only [Act.put, List.setIfInBounds_toArray, List.set_cons_zero, List.set_cons_succ]
          refine GrowN.g_det rfl ?_
          apply Exists.intro
          refine ⟨fun w hw hF => ?_, ?_⟩
          · clear hF
            go_simp
            exact ⟨rfl, OnceG.refl _ _ _ _ _⟩
          simp only [Act.put, List.setIfInBounds_toArray, List.set_cons_zero, List.set_cons_succ]
          refine GrowN.g_det rfl ?_
          apply Exists.intro
          refine ⟨fun w hw hF => ?_, ?_⟩
          · clear hF
            go_simp
            exact ⟨rfl, OnceG.refl _ _ _ _ _⟩
          simp only [Act.put, List.setIfInBounds_toArray, List.set_cons_zero, List.set_cons_succ]
          refine GrowN.g_det rfl ?_
          apply Exists.intro
          refine ⟨fun w hw hF => ?_, ?_⟩
          · clear hF
            go_simp
            exact ⟨rfl, OnceG.refl _ _ _ _ _⟩
          simp only [Act.put, List.setIfInBounds_toArray, List.set_cons_zero, List.set_cons_succ]
        refine GrowN.g_det rfl ?_
        apply Exists.intro
        refine ⟨fun w hw hF => ?_, ?_⟩
        · clear hF
          have hc := (HCC.out w hw)
          obtain ⟨e0, e6, e5⟩ := hc
          go_simp
          exact ⟨rfl, OnceG.refl _ _ _ _ _⟩
        simp only [Act.put, List.setIfInBounds_toArray, List.set_cons_zero, List.set_cons_succ]
        refine GrowN.g_new rfl (fun w hw hF => ?_) (fun v13 => ?_)
        · clear hF
          go_simp
          exact (HNEW.out w hw).mono fun e w' ⟨b, h1, h2, h3, h4⟩ => ⟨_, h1, ⟨b, rfl, h2, h3⟩, h4⟩
        simp only [Act.put, List.setIfInBounds_toArray, List.set_cons_zero, List.set_cons_succ]
        refine GrowN.g_new rfl (fun w hw hF => ?_) (fun v14 => ?_)
        · skip
          obtain ⟨b, rfl, h2, h3⟩ := hF _ (.head _) (by kernel_rfl)
          clear hF
          go_simp
          exact ⟨⟨b, rfl, h2, h3⟩, OnceG.refl _ _ _ _ _⟩
        simp only [Act.put, List.setIfInBounds_toArray, List.set_cons_zero, List.set_cons_succ]
        refine GrowN.g_new rfl (fun w hw hF => ?_) (fun v15 => ?_)
        · skip
          obtain ⟨b, rfl, h2, h3⟩ := hF _ (.head _) (by kernel_rfl)
          clear hF
          go_simp
          exact ⟨⟨b, rfl, h2, h3⟩, OnceG.refl _ _ _ _ _⟩
        simp only [Act.put, List.setIfInBounds_toArray, List.set_cons_zero, List.set_cons_succ]
        refine GrowN.g_con rfl (fun w hw hF => ?_) ?_
        · obtain ⟨b, rfl, h2, h3⟩ := hF _ (.tail _ (.head _)) (by kernel_rfl)
          clear hF
          go_simp
          exact OnceG.refl _ _ _ _ _
        iterate 2
          simp only [Act.put, List.setIfInBounds_toArray, List.set_cons_zero, List.set_cons_succ]
          refine GrowN.g_det rfl ?_
          apply Exists.intro
          refine ⟨fun w hw hF => ?_, ?_⟩
          · clear hF
            go_simp
            exact ⟨rfl, OnceG.refl _ _ _ _ _⟩
        simp only [Act.put, List.setIfInBounds_toArray, List.set_cons_zero, List.set_cons_succ]
        refine GrowN.g_new rfl (fun w hw hF => ?_) (fun vS => ?_)
        · obtain ⟨b, rfl, h2, h3⟩ := hF _ (.head _) (by kernel_rfl)
          clear hF
          rcases hw.2 with e | ⟨b', e, _⟩
          · have hBw := e.trans (show w20.drew.heap[B]? = _ from HB20.out)
            have fz := frozen_at hBw 9
            have dz := cell_at hBw 9 _ rfl
            go_simp
            have hs := heap_setCell_same w B 9 _ _ (.pointer (some ⟨b, 0, none⟩)) hBw
            have hm : Mod (fun k => k = B) w (w.setCell ⟨B, 9, none⟩ (.pointer (some ⟨b, 0, none⟩))) := (Mod.refl (fun k => k = B) w).setCell (.inl rfl) _
            exact ⟨⟨b, hs, heap_mod hm h2 (by omega), h3⟩, hm, .inr ⟨b, hs, heap_mod hm h2 (by omega), h3⟩⟩
          · have hBw := e
            have fz := frozen_at hBw 9
            have dz := cell_at hBw 9 _ rfl
            go_simp
            have hs := heap_setCell_same w B 9 _ _ (.pointer (some ⟨b, 0, none⟩)) hBw
            have hm : Mod (fun k => k = B) w (w.setCell ⟨B, 9, none⟩ (.pointer (some ⟨b, 0, none⟩))) := (Mod.refl (fun k => k = B) w).setCell (.inl rfl) _
            exact ⟨⟨b, hs, heap_mod hm h2 (by omega), h3⟩, hm, .inr ⟨b, hs, heap_mod hm h2 (by omega), h3⟩⟩
        simp only [Act.put, List.setIfInBounds_toArray, List.set_cons_zero, List.set_cons_succ]
        refine GrowN.g_nil fun w21 hwz hF => ?_
        obtain ⟨b9, hBw21, hNb9, hnb9⟩ := hF _ (.head _)
        clear hF
        have hmw21 : Mod (fun k => k = B) w20 w21 := (Mod.of_below (M := fun k => k = B) ((Below.refl w20.heap.size w20).drew)).trans hwz.1
        have HMZw21 := Lib.hid hmw21
        have HNCb9 := Lib.hid hNb9
        have HNNb9 := Lib.hid hnb9
        have HM21 : Hid (Mod (fun k => k = B ∨ P.foot k) W w21) := HM20.out.trans (hmw21.mono fun k _ e => .inl e)
        have HB21 : Hid (w21.heap[B]? = _) := hBw21
        have HT21 : Hid (TapeAt base w21 T) := HT20.out.mod hmw21 (fun j hj => (HAW.out.1 j hj).1)
        have HP21 : Hid (PendAt base w21 { P with all := notesP T.O.recs P.all }) := HP20.out.mod hmw21 (fun j hj => HAW.out.2 j hj)
        have HG9 : Hid (W.heap.size ≤ b9) := Nat.le_trans HM20.out.size hnb9
        clear hwz hBw21 hmw21 hNb9 hnb9 HCC HNEW vS
        have hne : ∀ b, W.heap.size ≤ b → b ≠ B := fun b hb => by omega
        have HN7c : Hid (w21.heap[b7]? = _) := heap_mod HMZw21.out (heap_mod HMZw20.out HNCb7.out (hne _ HG7.out)) (hne _ HG7.out)
        have HN8c : Hid (w21.heap[b8]? = _) := heap_mod HMZw21.out HNCb8.out (hne _ HG8.out)
        have HN9c : Hid (w21.heap[b9]? = _) := HNCb9.out
        have HS8 : Hid (b8 < w21.heap.size) := (Array.getElem?_eq_some_iff.1 HN8c.out).1
        have HS9 : Hid (b9 < w21.heap.size) := (Array.getElem?_eq_some_iff.1 HN9c.out).1
        have h78 : b7 ≠ b8 := by have := HNNb8.out; have := (Array.getElem?_eq_some_iff.1 HNCb7.out).1; omega
        have h79 : b7 ≠ b9 := by have := HNNb9.out; have := (Array.getElem?_eq_some_iff.1 HNCb7.out).1; have := HMZw20.out.size; omega
        have h89 : b8 ≠ b9 := by have := HNNb9.out; have := (Array.getElem?_eq_some_iff.1 HNCb8.out).1; omega
        have HNE := Lib.hid (show b7 ≠ b8 ∧ b7 ≠ b9 ∧ b8 ≠ b9 from ⟨h78, h79, h89⟩)
        have HNEB := Lib.hid hne
        have c7 := cell_at HB21.out 7 _ rfl
        have HA := Lib.hid (HALL.out w21 b7 HM21.out HG7.out HN7c.out)
        clear hne h78 h79 h89
        go_wp2_with fail
        refine HA.out.mono ?_
        rintro e w22 ⟨n, rfl, hpost, hm22⟩
        have hnB : ¬ (M B ∨ B = b7) := fun h => h.elim (fun h => (HM.out B h).2.1 rfl) fun e => HNEB.out b7 HG7.out e.symm
        have hn8 : ¬ (M b8 ∨ b8 = b7) := fun h => h.elim (fun h => by have := (HM.out b8 h).1; have := HG8.out; omega) fun e => HNE.out.1 e.symm
        have hn9 : ¬ (M b9 ∨ b9 = b7) := fun h => h.elim (fun h => by have := (HM.out b9 h).1; have := HG9.out; omega) fun e => HNE.out.2.1 e.symm
        have HB22 : Hid (w22.heap[B]? = _) := heap_mod hm22 HB21.out hnB
        have HN822 : Hid (w22.heap[b8]? = _) := heap_mod hm22 HN8c.out hn8
        have HN922 : Hid (w22.heap[b9]? = _) := heap_mod hm22 HN9c.out hn9
        have HT22 : Hid (TapeAt base w22 T) := HT21.out.mod hm22 (fun j hj h => h.elim (fun h => (HM.out j h).2.2.1 hj) fun e => by have := HH.out.lt hj; have := HG7.out; omega)
        have HP22 : Hid (PendAt base w22 { P with all := notesP T.O.recs P.all }) := HP21.out.mod hm22 (fun j hj h => h.elim (fun h => (HM.out j h).2.2.2 hj) fun e => by have := HP.out.lt (show P.foot j from hj); have := HG7.out; omega)
        have HM22 : Hid (Mod (fun k => k = B ∨ P.foot k ∨ M k) W w22) := ((HM21.out.mono (N := fun k => (k = B ∨ P.foot k ∨ M k) ∨ W.heap.size ≤ k) (fun k _ e => .inl (e.imp (fun h => h) fun h => .inl h))).trans (hm22.mono (fun k _ e => e.elim (fun h => .inl (.inr (.inr h))) fun e => .inr (by have := HG7.out; omega)))).mono (fun k hk e => e.elim (fun h => h) fun h => by omega)
        have HPST := Lib.hid hpost
        have hw22 : W.heap.size ≤ w22.heap.size := HM22.out.size
        have HTB22 : Hid (TabB base w22) := HTB.out.mod (M := fun k => (k = B ∨ P.foot k ∨ M k) ∧ base ≤ k) (HM22.out.mono (fun k hk e => ⟨e, e.elim (fun h => h ▸ HBB.out) fun h => h.elim (fun h => h.elim (fun e => e ▸ HP.out.low.1) fun e => e ▸ HP.out.low.2) fun h => HMB.out k h⟩)) (fun k h => h.2)
        have hrb : 0 ≤ (T.R.b : Int) ∧ (T.R.b : Int) ≤ 200000000 := by
          have h1 := HT22.out.whole.seg.e_le
          have h2 : T.R.b ≤ T.R.e := by unfold SegD.e; omega
          omega
        have HEA := Lib.hid (eall_none (B := b8) _ _ _ _ w22 HT22.out HTB22.out (Nat.le_trans HBS.out hw22) HQ.out.up HN822.out (by have := HL.out; omega) HK2.out hrb)
        have c8 := cell_at HB22.out 8 _ rfl
        clear hpost hm22 hnB hn8 hn9 hw22 c7 HA HALL
        go_wp2_with fail
        refine HEA.out.mono ?_
        rintro e w23 ⟨rfl, hb23⟩
        have HB23 : Hid (w23.heap[B]? = _) := heap_below hb23 HB22.out
        have HN823 : Hid (w23.heap[b8]? = _) := heap_below hb23 HN822.out
        have HN923 : Hid (w23.heap[b9]? = _) := heap_below hb23 HN922.out
        have HBW23 := Lib.hid hb23
        have d8 := cell_at HB23.out 8 _ rfl
        have d9 := cell_at HB23.out 9 _ rfl
        clear hb23 HEA c8
        go_upto_region 26 with fail
        have hoe : w23.drew.heap[b8]? = _ := HN823.out
        have HLT : Hid (∀ w, Once b8 (.cells #[.pointer (some ⟨T.O.blk, 0, none⟩), .pointer (some ⟨P.blk, 0, none⟩), .pointer (some ⟨tb, 0, none⟩), .int .i64 (T.R.b : Int), .slice none 0 0] 168 (0, 0)) w23.drew w → Calls Tryz.prog 47 #[.pointer (some ⟨b8, 0, none⟩)] w fun e w' => e = .returned (.slice none 0 0) ∧ Once b8 (.cells #[.pointer (some ⟨T.O.blk, 0, none⟩), .pointer (some ⟨P.blk, 0, none⟩), .pointer (some ⟨tb, 0, none⟩), .int .i64 (T.R.b : Int), .slice none 0 0] 168 (0, 0)) w w') := fun w hw =>
          (late_nil w (hw.stays hoe)).mono fun e w' h => ⟨h.1, h.2.2, .inr h.2.1⟩
        have HD9 : Hid (∀ w, Once b8 (.cells #[.pointer (some ⟨T.O.blk, 0, none⟩), .pointer (some ⟨P.blk, 0, none⟩), .pointer (some ⟨tb, 0, none⟩), .int .i64 (T.R.b : Int), .slice none 0 0] 168 (0, 0)) w23.drew w → w.cell? ⟨B, 8, none⟩ = some (.pointer (some ⟨b8, 0, none⟩)) ∧ w.cell? ⟨B, 9, none⟩ = some (.pointer (some ⟨b9, 0, none⟩))) := fun w hw => by
          have hBw := heap_mod hw.1 (show w23.drew.heap[B]? = _ from HB23.out) (fun e => HNEB.out b8 HG8.out e.symm)
          exact ⟨cell_at hBw 8 _ rfl, cell_at hBw 9 _ rfl⟩
        clear hoe d8 d9
        refine GrowM.wp_region_s (by kernel_rfl) ?_
        refine GrowM.st_grow 9 [none, none, none, none, none, none, none, none, some (.inl (.slice none 0 0))] (Once b8 (.cells #[.pointer (some ⟨T.O.blk, 0, none⟩), .pointer (some ⟨P.blk, 0, none⟩), .pointer (some ⟨tb, 0, none⟩), .int .i64 (T.R.b : Int), .slice none 0 0] 168 (0, 0))) (by kernel_rfl) (by kernel_rfl) (Once.refl _ _) (fun _ _ _ => Once.trans) ?_ ?_
        · intro K hK Y hY l v w w' hR h
          simp only [List.mem_cons, List.not_mem_nil, or_false] at hK
          rcases hK with rfl | rfl | rfl | rfl | rfl | rfl | rfl | rfl | rfl <;> simp only [reduceCtorEq, Option.some.injEq, Sum.inr.injEq] at hY
        simp only [List.take_succ_cons, List.take_zero, List.drop_succ_cons, List.drop_zero, Nat.reduceSub]
        iterate 3
          refine GrowN.g_det rfl ?_
          apply Exists.intro
          refine ⟨fun w hw hF => ?_, ?_⟩
          · clear hF
            go_simp
            exact ⟨rfl, Once.refl _ _ _⟩
          simp only [Act.put, List.setIfInBounds_toArray, List.set_cons_zero, List.set_cons_succ]
        refine GrowN.g_det rfl ?_
        apply Exists.intro
        refine ⟨fun w hw hF => ?_, ?_⟩
        · clear hF
          have c9 := (HD9.out w hw).2
          go_simp
          exact ⟨rfl, Once.refl _ _ _⟩
        iterate 3
          simp only [Act.put, List.setIfInBounds_toArray, List.set_cons_zero, List.set_cons_succ]
          refine GrowN.g_det rfl ?_
          apply Exists.intro
          refine ⟨fun w hw hF => ?_, ?_⟩
          · clear hF
            go_simp
            exact ⟨rfl, Once.refl _ _ _⟩
        simp only [Act.put, List.setIfInBounds_toArray, List.set_cons_zero, List.set_cons_succ]
        refine GrowN.g_det rfl ?_
        apply Exists.intro
        refine ⟨fun w hw hF => ?_, ?_⟩
        · clear hF
          have c8 := (HD9.out w hw).1
          go_simp
          exact ⟨rfl, Once.refl _ _ _⟩
        simp only [Act.put, List.setIfInBounds_toArray, List.set_cons_zero, List.set_cons_succ]
        refine GrowN.g_con rfl (fun w hw hF => ?_) ?_
        · clear hF
          go_simp
          exact (HLT.out w hw).mono fun e w' h => ⟨_, h.1, rfl, h.2⟩
        simp only [Act.put, List.setIfInBounds_toArray, List.set_cons_zero, List.set_cons_succ]
        refine GrowN.g_nil fun w24 hw24 hF => ?_
        clear hF
        have HDA := Lib.hid (dadd_nil w24 (heap_mod hw24.1 (show w23.drew.heap[b9]? = _ from HN923.out) (fun e => HNE.out.2.2 e.symm)))
        refine GrowM.st_call (fun v w' => w'.heap[b9]? = some (.cells #[.pointer (some ⟨T.O.blk, 0, none⟩), .pointer (some ⟨P.blk, 0, none⟩), .pointer (some ⟨tb, 0, none⟩), .slice none 0 0] 171 (0, 0)) ∧ Mod (fun k => k = b9) w24 w') (by kernel_rfl) rfl rfl ?_ ?_
        · go_simp
          refine HDA.out.mono ?_
          rintro e w' ⟨v, rfl, hb⟩
          first | exact ⟨⟨_, rfl⟩, hb⟩ | exact ⟨_, hb⟩
        rintro v w25 hb25
        simp only [Act.put, List.setIfInBounds_toArray, List.set_cons_zero, List.set_cons_succ]
        refine GrowM.st_end rfl ?_
        have hm25 : Mod (fun k => k = b8 ∨ k = b9) w22 w25 := (((Mod.of_below (M := fun k => k = b8 ∨ k = b9) HBW23.out).trans (Mod.of_below (M := fun k => k = b8 ∨ k = b9) ((Below.refl _ w23).drew))).trans (hw24.1.mono fun k _ e => .inl e)).trans (hb25.2.mono fun k _ e => .inr e)
        have HM25 := Lib.hid hm25
        clear hm25 hb25 hw24 HDA HLT HD9
        go_wp2_with fail
        go_ret
        have h8 := HG8.out
        have h9 := HG9.out
        refine ⟨rfl, b7, b8, b9, w21, heap_mod HM25.out HB22.out (fun e => e.elim (fun e => HNEB.out b8 h8 e.symm) fun e => HNEB.out b9 h9 e.symm), HT22.out.mod HM25.out (fun j hj e => ?_), HP22.out.mod HM25.out (fun j hj e => ?_), HSTAB.out w21 w22 w25 b8 b9 HPST.out h8 HS8.out h9 HS9.out HM25.out, ?_⟩
        · have := HH.out.lt hj
          rcases e with e | e <;> omega
        · have := HP.out.lt (show P.foot j from hj)
          rcases e with e | e <;> omega
        · exact ((HM22.out.mono (N := fun k => (k = B ∨ P.foot k ∨ M k) ∨ W.heap.size ≤ k) (fun k _ e => .inl e)).trans (HM25.out.mono (fun k _ e => .inr (by rcases e with e | e <;> omega)))).mono (fun k hk e => e.elim (fun h => h) fun h => by omega)
end Go.Proofs.YtikjahfeecdfgaaGreatDoor.StoW
namespace Go.Proofs.YtikjahfeecdfgaaGreatDoor.StoW
open Go.RowKit Go.MapKept OctMath RecMath RecW TapeMath DskW SegW MapG TapeW PendW
set_option linter.unusedVariables false
set_option linter.unusedSimpArgs false
set_option maxRecDepth 100000
def MsgRow (w : World) (a : Option Addr) (ms : List (Msg × Option Addr × Nat)) : Prop :=
  ∀ i (h : i < ms.length), ∃ g off, a = some ⟨g, off, none⟩ ∧ (∀ (j : Nat) (v : Value), (cellsM ms[i].1 ms[i].2.1 ms[i].2.2)[j]? = some v → w.cell? ⟨g, off + i * 10 + j, none⟩ = some v) ∧ Strs w ms[i].2.1 (ms[i].1.keys.map S)
def great1 (m : Msg) : Bool := decide (2000 < m.body.length) || (decide (100 < m.topic.length) || (decide (100 < m.tag.length) || decide (10 < m.keys.length)))
def greatM (m : Msg) : Bool := great1 m || m.keys.any fun t => decide (100 < t.length)
set_option maxHeartbeats 6400000 in
theorem great_any (ms : List (Msg × Option Addr × Nat)) (a0 : Option Addr) (c0 : Nat) (W : World) (h : MsgRow W a0 ms) (hl : ms.length ≤ 1073741824) :
    Calls Tryz.prog 7 #[.slice a0 ms.length c0] W fun e w' => e = .returned (.bool (ms.any fun p => greatM p.1)) ∧ Below W.heap.size W w' := by
  have HH := Lib.hid h
  have HL := Lib.hid hl
  clear h
  go_enter Tryz.func7, Tryz.ntmps7
  go_wp2_with fail
  go_loopw [9] (fun i wr => ∃ k : Nat, k ≤ ms.length ∧ i = .int .i64 (k : Int) ∧ Hid (((ms.take k).any fun p => greatM p.1) = false ∧ Below W.heap.size W wr)) (fun i _ => ms.length - (intOf i).toNat)
  case atStart => exact ⟨0, Nat.zero_le _, rfl, rfl, Below.refl _ _⟩
  case round =>
    obtain ⟨k, hk, rfl, HS⟩ := hrel
    obtain ⟨wA, rfl⟩ : ∃ wA : World, wA = wr := ⟨_, rfl⟩
    by_cases hlt : k < ms.length
    · obtain ⟨g, off, rfl, hcell, hkeys⟩ := HH.out k hlt
      obtain ⟨p, hp⟩ : ∃ p, p = ms[k] := ⟨_, rfl⟩
      have HANY : Hid (((ms.take (k + 1)).any fun p => greatM p.1) = greatM p.1) := by
        show _ = _
        rw [List.take_succ_eq_append_getElem hlt, List.any_append, HS.out.1, ← hp]; simp
      have HALL : Hid (greatM p.1 = true → (ms.any fun p => greatM p.1) = true) := fun hg => List.any_eq_true.2 ⟨p, by rw [hp]; exact List.getElem_mem hlt, hg⟩
      rw [← hp] at hcell hkeys
      clear hp
      obtain ⟨m, a, c⟩ := p
      have HK := Lib.hid (Strs.below hkeys HS.out.2)
      have hcw : ∀ (j : Nat) (v : Value), (cellsM m a c)[j]? = some v → wA.cell? ⟨g, off + k * 10 + j, none⟩ = some v := fun j v hv => by
        have h1 := hcell j v hv
        rw [HS.out.2.cell (cell_lt h1)]; exact h1
      have k0 : wA.cell? ⟨g, off + k * 10, none⟩ = some (.int .i64 m.kind) := hcw 0 _ rfl
      have k1 : wA.cell? ⟨g, off + k * 10 + 1, none⟩ = some (.int .i64 m.queue) := hcw 1 _ rfl
      have k2 : wA.cell? ⟨g, off + k * 10 + 2, none⟩ = some (.int .i64 m.due) := hcw 2 _ rfl
      have k3 : wA.cell? ⟨g, off + k * 10 + 3, none⟩ = some (.int .i64 m.retry) := hcw 3 _ rfl
      have k4 : wA.cell? ⟨g, off + k * 10 + 4, none⟩ = some (.int .i64 m.ref) := hcw 4 _ rfl
      have k5 : wA.cell? ⟨g, off + k * 10 + 5, none⟩ = some (.int .i64 m.born) := hcw 5 _ rfl
      have k6 : wA.cell? ⟨g, off + k * 10 + 6, none⟩ = some (.string (S m.topic)) := hcw 6 _ rfl
      have k7 : wA.cell? ⟨g, off + k * 10 + 7, none⟩ = some (.string (S m.tag)) := hcw 7 _ rfl
      have k8 : wA.cell? ⟨g, off + k * 10 + 8, none⟩ = some (.string (S m.body)) := hcw 8 _ rfl
      have k9 : wA.cell? ⟨g, off + k * 10 + 9, none⟩ = some (.slice a m.keys.length c) := hcw 9 _ rfl
      clear hcell hkeys hcw
      have HB2 : Hid (Below W.heap.size W (wA.alloc (.cells #[.int .i64 m.kind, .int .i64 m.queue, .int .i64 m.due, .int .i64 m.retry, .int .i64 m.ref, .int .i64 m.born, .string (S m.topic), .string (S m.tag), .string (S m.body), .slice a m.keys.length c] 34))) := HS.out.2.alloc HS.out.2.size _
      by_cases h1 : 2000 < m.body.length
      · have z1 : (2000 : Int) < ((S m.body).size : Int) := by rw [S_size]; omega
        have hgt : greatM m = true := by unfold greatM great1; simp [h1]
        have HG : Hid ((ms.any fun p => greatM p.1) = true) := HALL.out hgt
        clear hgt
        go_wp2_with fail
        go_ret
        exact ⟨by rw [HG.out]; rfl, HB2.out⟩
      have z1 : ((S m.body).size : Int) ≤ (2000 : Int) := by rw [S_size]; omega
      by_cases h2 : 100 < m.topic.length
      · have z2 : (100 : Int) < ((S m.topic).size : Int) := by rw [S_size]; omega
        have hgt : greatM m = true := by unfold greatM great1; simp [h2]
        have HG : Hid ((ms.any fun p => greatM p.1) = true) := HALL.out hgt
        clear hgt
        go_wp2_with fail
        go_ret
        exact ⟨by rw [HG.out]; rfl, HB2.out⟩
      have z2 : ((S m.topic).size : Int) ≤ (100 : Int) := by rw [S_size]; omega
      by_cases h3 : 100 < m.tag.length
      · have z3 : (100 : Int) < ((S m.tag).size : Int) := by rw [S_size]; omega
        have hgt : greatM m = true := by unfold greatM great1; simp [h3]
        have HG : Hid ((ms.any fun p => greatM p.1) = true) := HALL.out hgt
        clear hgt
        go_wp2_with fail
        go_ret
        exact ⟨by rw [HG.out]; rfl, HB2.out⟩
      have z3 : ((S m.tag).size : Int) ≤ (100 : Int) := by rw [S_size]; omega
      by_cases h4 : 10 < m.keys.length
      · have z4 : (10 : Int) < (m.keys.length : Int) := by omega
        have hgt : greatM m = true := by unfold greatM great1; simp [h4]
        have HG : Hid ((ms.any fun p => greatM p.1) = true) := HALL.out hgt
        clear hgt
        go_wp2_with fail
        go_ret
        exact ⟨by rw [HG.out]; rfl, HB2.out⟩
      have z4 : (m.keys.length : Int) ≤ (10 : Int) := by omega
      have HG1 : Hid (great1 m = false) := by show _ = _; unfold great1; simp; omega
      clear h1 h2 h3 h4
      have HK2 : Hid (Strs (wA.alloc (.cells #[.int .i64 m.kind, .int .i64 m.queue, .int .i64 m.due, .int .i64 m.retry, .int .i64 m.ref, .int .i64 m.born, .string (S m.topic), .string (S m.tag), .string (S m.body), .slice a m.keys.length c] 34)) a (m.keys.map S)) := Strs.below HK.out ((Below.refl _ _).alloc (Nat.le_refl _) _)
      go_wp2_with fail
      clear k0 k1 k2 k3 k4 k5 k6 k7 k8 k9 HK
      generalize wA.alloc (.cells #[.int .i64 m.kind, .int .i64 m.queue, .int .i64 m.due, .int .i64 m.retry, .int .i64 m.ref, .int .i64 m.born, .string (S m.topic), .string (S m.tag), .string (S m.body), .slice a m.keys.length c] 34) = w5 at *
      generalize wA.heap.size = g5 at *
      obtain ⟨w6, hw6⟩ : ∃ w6 : World, w6 = w5 := ⟨_, rfl⟩
      go_loopw [38] (fun i w2 => ∃ j : Nat, j ≤ m.keys.length ∧ i = .int .i64 (j : Int) ∧ w2 = w6 ∧ Hid (∀ t ∈ m.keys.take j, t.length ≤ 100)) (fun i _ => m.keys.length - (intOf i).toNat)
      case atStart => exact ⟨0, Nat.zero_le _, rfl, hw6.symm, fun t ht => by cases ht⟩
      case round =>
        obtain ⟨j, hj, rfl, rfl, HJ⟩ := hrel
        subst hw6
        by_cases hjl : j < m.keys.length
        · obtain ⟨b, o2, rfl, hcj⟩ := HK2.out j (by rw [List.length_map]; exact hjl)
          rw [List.getElem_map] at hcj
          have HTK : Hid (∀ t ∈ m.keys.take (j + 1), t ∈ m.keys.take j ∨ t = m.keys[j]) := fun t ht => by
            rw [List.take_succ_eq_append_getElem hjl] at ht
            rcases List.mem_append.1 ht with h | h
            · exact .inl h
            · exact .inr (by simpa using h)
          have HIN : Hid (m.keys[j] ∈ m.keys) := List.getElem_mem hjl
          generalize m.keys[j] = t at *
          by_cases h5 : 100 < t.length
          · have z5 : (100 : Int) < ((S t).size : Int) := by rw [S_size]; omega
            have hgt : greatM m = true := by unfold greatM; rw [Bool.or_eq_true]; exact .inr (List.any_eq_true.2 ⟨t, HIN.out, by simpa using h5⟩)
            have HG : Hid ((ms.any fun p => greatM p.1) = true) := HALL.out hgt
            clear hgt
            go_wp2_with fail
            go_ret
            exact ⟨by rw [HG.out]; rfl, HB2.out⟩
          · have z5 : ((S t).size : Int) ≤ (100 : Int) := by rw [S_size]; omega
            have HJ2 : Hid (∀ t ∈ m.keys.take (j + 1), t.length ≤ 100) := fun x hx => (HTK.out x hx).elim (HJ.out x) fun e => by rw [e]; omega
            clear h5
            go_wp2_with fail
            go_roundw
            case rel => exact ⟨j + 1, by omega, by go_num, trivial, HJ2.out⟩
            case measure => simp [intOf]; omega
        · have hjn : j = m.keys.length := by omega
          subst hjn
          rw [List.take_length] at HJ
          have HNG : Hid (greatM m = false) := by
            show _ = _
            unfold greatM
            rw [HG1.out, Bool.false_or, List.any_eq_false]
            intro t ht
            have := HJ.out t ht
            simp; omega
          clear HJ hjl hj
          go_wp2_with fail
          go_roundw
          case rel => exact ⟨k + 1, by omega, by go_num, by rw [HANY.out]; exact HNG.out, HB2.out⟩
          case measure => simp [intOf]; omega
    · have hkn : k = ms.length := by omega
      subst hkn
      rw [List.take_length] at HS
      have HE : Hid ((ms.any fun p => greatM p.1) = false) := HS.out.1
      go_wp2_with fail
      go_ret
      exact ⟨by rw [HE.out]; rfl, HS.out.2⟩
end Go.Proofs.YtikjahfeecdfgaaGreatDoor.StoW
namespace Go.Proofs.YtikjahfeecdfgaaGreatDoor.StoW
open Go.RowKit Go.MapKept OctMath RecMath RecW TapeMath DskW SegW MapG TapeW PendW
set_option linter.unusedVariables false
set_option linter.unusedSimpArgs false
set_option maxRecDepth 100000
set_option maxHeartbeats 6400000 in
theorem strsame_any (ss : List ByteArray) (a b : Option Addr) (c d : Nat) (W : World) (ha : Strs W a ss) (hb : Strs W b ss) (hl : ss.length ≤ 1073741824) :
    Calls Tryz.prog 40 #[.slice a ss.length c, .slice b ss.length d] W fun e w' => e = .returned (.bool true) ∧ Below W.heap.size W w' := by
  have HA := Lib.hid ha
  have HB := Lib.hid hb
  clear ha hb
  go_enter Tryz.func40, Tryz.ntmps40
  go_wp2_with fail
  go_loopw [5] (fun i wr => ∃ k : Nat, k ≤ ss.length ∧ i = .int .i64 (k : Int) ∧ Hid (Below W.heap.size W wr)) (fun i _ => ss.length - (intOf i).toNat)
  case atStart => exact ⟨0, Nat.zero_le _, rfl, Below.refl _ _⟩
  case round =>
    obtain ⟨k, hk, rfl, HS⟩ := hrel
    by_cases hlt : k < ss.length
    · obtain ⟨g, o, rfl, h1⟩ := (Strs.below HA.out HS.out) k hlt
      obtain ⟨g2, o2, rfl, h2⟩ := (Strs.below HB.out HS.out) k hlt
      generalize ss[k] = t at *
      have HS2 : Hid (Below W.heap.size W wr.drew) := HS.out.drew
      go_upto_region 6 with fail
      refine GrowM.wp_region_s (by kernel_rfl) ?_
      refine GrowM.st_grow 9 [none, none, none, none, none, none, none, none, none] (fun u v => v = u) (by kernel_rfl) (by kernel_rfl) (fun _ => rfl) (fun _ _ _ h k => k.trans h) ?_ ?_
      · intro K hK Y hY l v w w' hR h
        simp only [List.mem_cons, List.not_mem_nil, or_false] at hK
        rcases hK with rfl | rfl | rfl | rfl | rfl | rfl | rfl | rfl | rfl <;> simp only [reduceCtorEq, Option.some.injEq, Sum.inr.injEq] at hY
      simp only [List.take_succ_cons, List.take_zero, List.drop_succ_cons, List.drop_zero, Nat.reduceSub]
      iterate 9
        refine GrowN.g_det rfl ?_
        apply Exists.intro
        refine ⟨fun w hw hF => ?_, ?_⟩
        · obtain rfl := hw.symm
          clear hF
          go_simp
          first | exact rfl | exact ⟨rfl, rfl⟩
        simp only [Act.put, List.setIfInBounds_toArray, List.set_cons_zero, List.set_cons_succ]
      refine GrowN.g_nil fun w2 hwz hF => ?_
      obtain rfl := hwz.symm
      clear hF
      refine GrowM.st_end rfl ?_
      go_wp2_with fail
      go_roundw
      case rel => exact ⟨k + 1, by omega, by go_num, HS2.out⟩
      case measure => simp [intOf]; omega
    · have hkn : k = ss.length := by omega
      subst hkn
      go_wp2_with fail
      go_ret
      exact ⟨rfl, HS.out⟩
set_option maxHeartbeats 6400000 in
theorem same_true (m : Msg) (a b : Option Addr) (c d : Nat) (W : World) (ha : Strs W a (m.keys.map S)) (hb : Strs W b (m.keys.map S)) (hl : m.keys.length ≤ 1073741824) :
    Calls Tryz.prog 15 #[.agg (cellsM m a c), .agg (cellsM m b d)] W fun e w' => e = .returned (.bool true) ∧ Below W.heap.size W w' := by
  have HB0 : Hid (Below W.heap.size W ((W.alloc (.cells #[.int .i64 m.kind, .int .i64 m.queue, .int .i64 m.due, .int .i64 m.retry, .int .i64 m.ref, .int .i64 m.born, .string (S m.topic), .string (S m.tag), .string (S m.body), .slice a m.keys.length c] 34)).alloc (.cells #[.int .i64 m.kind, .int .i64 m.queue, .int .i64 m.due, .int .i64 m.retry, .int .i64 m.ref, .int .i64 m.born, .string (S m.topic), .string (S m.tag), .string (S m.body), .slice b m.keys.length d] 34))) := ((Below.refl _ W).alloc (Nat.le_refl _) _).alloc (by rw [World.size_alloc]; omega) _
  have HSS : Hid (∀ w, Below W.heap.size W w → Calls Tryz.prog 40 #[.slice a m.keys.length c, .slice b m.keys.length d] w fun e w' => e = .returned (.bool true) ∧ Below w.heap.size w w') := fun w hb2 => by
    have := strsame_any (m.keys.map S) a b c d w (Strs.below ha hb2) (Strs.below hb hb2) (by rw [List.length_map]; exact hl)
    rw [List.length_map] at this
    exact this
  clear ha hb hl
  rw [show cellsM m a c = #[.int .i64 m.kind, .int .i64 m.queue, .int .i64 m.due, .int .i64 m.retry, .int .i64 m.ref, .int .i64 m.born, .string (S m.topic), .string (S m.tag), .string (S m.body), .slice a m.keys.length c] from rfl, show cellsM m b d = #[.int .i64 m.kind, .int .i64 m.queue, .int .i64 m.due, .int .i64 m.retry, .int .i64 m.ref, .int .i64 m.born, .string (S m.topic), .string (S m.tag), .string (S m.body), .slice b m.keys.length d] from rfl]
  have hca : (#[.int .i64 m.kind, .int .i64 m.queue, .int .i64 m.due, .int .i64 m.retry, .int .i64 m.ref, .int .i64 m.born, .string (S m.topic), .string (S m.tag), .string (S m.body), .slice a m.keys.length c] : Array Value).size = 10 := rfl
  have hcb : (#[.int .i64 m.kind, .int .i64 m.queue, .int .i64 m.due, .int .i64 m.retry, .int .i64 m.ref, .int .i64 m.born, .string (S m.topic), .string (S m.tag), .string (S m.body), .slice b m.keys.length d] : Array Value).size = 10 := rfl
  go_enter Tryz.func15, Tryz.ntmps15
  have HS2 := Lib.hid (HSS.out _ HB0.out)
  clear HSS
  go_wp2_with fail
  refine HS2.out.mono ?_
  rintro e w2 ⟨rfl, hb2⟩
  have HB2 := Lib.hid (HB0.out.trans (hb2.mono HB0.out.size))
  clear hb2 HS2 HB0
  go_wp2_with fail
  go_ret
  exact ⟨rfl, HB2.out⟩
end Go.Proofs.YtikjahfeecdfgaaGreatDoor.StoW
namespace Go.Proofs.YtikjahfeecdfgaaGreatDoor.StoW
open Go.RowKit Go.MapKept OctMath RecMath RecW TapeMath DskW SegW MapG TapeW PendW CacheW CqW
set_option linter.unusedVariables false
set_option linter.unusedSimpArgs false
set_option maxRecDepth 100000
theorem of_any {base : Nat} {C : CqD} {x : QueD} (q : Nat) (w : World) (h : CqAt base w C) (hx : x ∈ C.qs) (hq : x.q = (q : Int)) (hk : ∀ y ∈ C.qs, ∃ n : Nat, y.q = (n : Int)) :
    Calls Tryz.prog 62 #[.pointer (some ⟨C.blk, 0, none⟩), .string (S x.topic), .int .i64 (q : Int)] w fun e w' => e = .returned (.pointer (some ⟨x.blk, 0, none⟩)) ∧ w' = w := by
  have hl : (Instr.lookup 192 (.map (some C.mB)) (.agg #[.string (S x.topic), .int .i64 (q : Int)]) false).run Tryz.prog w = .ok (.pointer (some ⟨x.blk, 0, none⟩)) w := by
    refine lookup_has Tryz.underlying192 keyedW h.map (fun p hp => ?_) ⟨x.topic, q, rfl⟩ (List.mem_map.2 ⟨x, hx, ?_⟩) false
    · obtain ⟨y, hy, rfl⟩ := List.mem_map.1 hp
      obtain ⟨n, hn⟩ := hk y hy
      exact ⟨y.topic, n, by show QueD.key y = _; unfold QueD.key; rw [hn]⟩
    · unfold QueD.key; rw [hq]
  have c1 : w.cell? ⟨C.blk, 1, none⟩ = some (.map (some C.mB)) := cell_at h.cells 1 _ rfl
  have HL := Lib.hid hl
  clear h hx hq hk
  generalize S x.topic = tt at *
  generalize x.blk = xb at *
  go_enter Tryz.func62, Tryz.ntmps62
  go_wp2_with fail
  go_ret
  exact ⟨rfl, rfl⟩
theorem qnext_any {base : Nat} {C : CqD} {x : QueD} (q : Nat) (w : World) (h : CqAt base w C) (hx : x ∈ C.qs) (hq : x.q = (q : Int)) (hk : ∀ y ∈ C.qs, ∃ n : Nat, y.q = (n : Int)) (hb : x.b0 ≤ 1099511627776) :
    Calls Tryz.prog 26 #[.pointer (some ⟨C.blk, 0, none⟩), .string (S x.topic), .int .i64 (q : Int)] w fun e w' => e = .returned (.int .i64 ((x.b0 + x.R.e / 20 : Nat) : Int)) ∧ Drawn w w' := by
  have HO := Lib.hid (of_any q w h hx hq hk)
  have HN := Lib.hid (CqW.next_any w (h.que x hx).1 (h.que x hx).2.1 hb)
  clear h hx hq hk
  generalize S x.topic = tt at *
  generalize ((x.b0 + x.R.e / 20 : Nat) : Int) = z at *
  generalize x.blk = xb at *
  go_enter Tryz.func26, Tryz.ntmps26
  go_wp2_with fail
  refine HO.out.mono ?_
  rintro e w2 ⟨rfl, he⟩
  obtain rfl := he.symm
  clear HO
  go_wp2_with fail
  refine HN.out.mono ?_
  rintro e w2 ⟨rfl, hd⟩
  go_wp2_with fail
  go_ret
  exact ⟨rfl, hd⟩
end Go.Proofs.YtikjahfeecdfgaaGreatDoor.StoW
namespace Go.Proofs.YtikjahfeecdfgaaGreatDoor.StoW
open Go.RowKit Go.MapKept OctMath RecMath RecW TapeMath DskW SegW MapG TapeW PendW CacheW CqW
set_option linter.unusedVariables false
set_option linter.unusedSimpArgs false
set_option maxRecDepth 100000
theorem size_disk : (Tryz.prog.info? 77).map (·.size) = some 5 := by kernel_rfl
theorem eql_disk {a b : Nat} {ca cb : Array Value} {ta tb : TypeId} {w : World} (h : a ≠ b) (ha : w.heap[a]? = some (.cells ca ta (0, 0))) (hb : w.heap[b]? = some (.cells cb tb (0, 0))) : Sem.run Tryz.prog (binOp .eql 26 (.pointer (some ⟨a, 0, none⟩)) (.pointer (some ⟨b, 0, none⟩))) w = .ok (.bool false) w := by
  obtain ⟨j, hj, hs⟩ := Option.map_eq_some_iff.1 size_disk
  exact run_eql_ptr_other w Tryz.underlying26 hj (by rw [hs]; decide) (fun e => h (congrArg Addr.block e)) ha hb
set_option maxHeartbeats 12800000 in
theorem sopen_any {base : Nat} {D D2 : DiskD} {R : SegD} {its : List TapeMath.Item} (now : Nat) (W : World) (hL : LaidOn D R) (hD : DiskAt base W D) (hq : Quiet D) (hfl : D.files.length ≤ 1048576) (hnl : ∀ p ∈ D.files, p.1.length ≤ 1073741824) (hbase : base ≤ W.heap.size) (hT : TabB base W)
    (hh : R.head = tapeH) (hs : R.size = 1024) (ht : R.txt = bytesL its) (hf : Fits R.b its) (hone : ∀ x ∈ its, ∃ m, x = TapeMath.Item.one m) (hil : its.length ≤ 1000000) (hwt : D.waits = []) (hn1 : D.find TopW.topicsN = none) (hn2 : D.find TopW.groupsN = none) (hn3 : D.find TopW.baseN = none)
    (h2 : DiskAt base W D2) (hq2 : Quiet D2) (hf2 : D2.files = []) (hr2 : 120 ≤ D2.room) (hw2 : D2.waits = []) (hdd : ∀ k, D.foot k → ¬ D2.foot k) (hnow : now ≤ 1099511626776) (hk2 : ∀ p ∈ recsOf R.b its, p.2.kind ≠ 2) (hrl : (recsOf R.b its).length ≤ 1000000)
    {Post : CqD → DiskD → World → World → Prop}
    (hall : ∀ (T : TapeD) (C : CqD) (D' : DiskD) (kb : Nat) (w : World) (b7 : Nat), TapeAt base w T → T.its = its → T.R.b = R.b → T.R.synced = T.R.e → Quiet T.D → TabB base w → base ≤ w.heap.size → CqAt base w C → C.qs = [] → C.db = D'.blk → DiskAt base w D' → Grows D2 D' [xlinks, xslots, wslots, wmarks] 120 2 → (∀ k, C.foot k → ¬ D'.foot k) → (∀ k, T.foot k → ¬ C.foot k ∧ ¬ D'.foot k) → (¬ T.foot b7 ∧ ¬ C.foot b7 ∧ ¬ D'.foot b7) →
      w.heap[b7]? = some (.cells #[.pointer (some ⟨T.O.blk, 0, none⟩), .pointer (some ⟨C.blk, 0, none⟩), .pointer (some ⟨kb, 0, none⟩), .int .i64 (T.R.b : Int)] 174 (0, 0)) →
      Calls Tryz.prog 75 #[.pointer (some ⟨b7, 0, none⟩)] w fun e w' => ∃ n : Int, e = .returned (.tuple #[.int .i64 n, .int .i64 0]) ∧ Post C D' w w' ∧ Mod (fun k => (C.foot k ∨ D'.foot k) ∨ k = b7) w w')
    (hstab : ∀ C D' w0 w1 w2 (M : Nat → Prop), Post C D' w0 w1 → Mod M w1 w2 → (∀ k, M k → k < w0.heap.size ∧ ¬ C.foot k ∧ ¬ D'.foot k) → Post C D' w0 w2) :
    Calls Tryz.prog 9 #[.pointer (some ⟨D.blk, 0, none⟩), .pointer (some ⟨D2.blk, 0, none⟩), .int .i64 (now : Int)] W fun e w' => ∃ S C D' w0, e = .returned (.tuple #[.pointer (some ⟨S.blk, 0, none⟩), .int .i64 0]) ∧ StoAt base w' S ∧ S.now = (now : Int) ∧ S.cq = .pointer (some ⟨C.blk, 0, none⟩) ∧ S.T.its = its ∧ S.T.R.b = R.b ∧ S.T.R.synced = S.T.R.e ∧ S.T.D.waits = [] ∧ Quiet S.T.D ∧ S.T.D.blk = D.blk ∧ S.T.D.room = D.room ∧ (∀ n, (S.T.D.find n).isSome = (D.find n).isSome) ∧
      Post C D' w0 w' ∧ Mod (fun k => D.foot k ∨ D2.foot k) W w' ∧ (∀ k, S.foot k → D.foot k ∨ W.heap.size ≤ k) := by
  have HPN := Lib.hid (PendW.new_any base W hbase)
  have hne : D.blk ≠ D2.blk := fun e => hdd D.blk (.inl rfl) (e ▸ .inl rfl)
  have heq := eql_disk (w := W) hne hD.head h2.head
  have hnow' : (0 : Int) ≤ (now : Int) ∧ (now : Int) ≤ 1099511626776 := by omega
  have HLA : Hid (∀ w B v6, Below W.heap.size W w → w.heap[B]? = some (.cells #[.pointer none, .pointer none, .pointer none, .pointer none, .pointer none, .pointer none, v6, .pointer none, .pointer none, .pointer none, .pointer (some ⟨D.blk, 0, none⟩), .int .i64 (now : Int)] 51 (0, 0)) → W.heap.size ≤ B →
      Calls Tryz.prog 28 #[.pointer (some ⟨B, 0, none⟩)] w fun e w' => e = .returned (.int .i64 0) ∧ ∃ T b3 b4, Lasts base B w w' D its R.b T ∧
      w'.heap[B]? = some (.cells #[.pointer (some ⟨T.O.blk, 0, none⟩), .pointer none, .pointer none, .pointer (some ⟨b3, 0, none⟩), .pointer (some ⟨b4, 0, none⟩), .pointer none, v6, .pointer none, .pointer none, .pointer none, .pointer (some ⟨D.blk, 0, none⟩), .int .i64 (now : Int)] 51 (0, 0))) := fun w B v6 hb hB hBW =>
    lasting_any _ _ _ _ _ _ _ _ w hB (fun h => by have := hD.lt h; omega) hL (hD.below hb) hq hfl hnl (Nat.le_trans hbase hb.size) (hT.below hb) hh hs ht hf hone hil hwt hn1 hn2
  have HDER : Hid (∀ w B v0 v3 v4 v6 (hw : DiskAt base w D2) (hz : base ≤ w.heap.size), ¬ D2.foot B → w.heap[B]? = some (.cells #[v0, .pointer none, .pointer none, v3, v4, .pointer none, v6, .pointer none, .pointer none, .pointer none, .pointer (some ⟨D.blk, 0, none⟩), .int .i64 (now : Int)] 51 (0, 0)) → Calls Tryz.prog 30 #[.pointer (some ⟨B, 0, none⟩), .pointer (some ⟨D2.blk, 0, none⟩)] w fun e w' => e = .returned (.int .i64 0) ∧ ∃ C D' kb tb, Derivd base B w w' D2 D' C ∧
      w'.heap[B]? = some (.cells #[v0, .pointer (some ⟨C.blk, 0, none⟩), .pointer (some ⟨kb, 0, none⟩), v3, v4, .pointer (some ⟨tb, 0, none⟩), v6, .pointer none, .pointer none, .pointer none, .pointer (some ⟨D.blk, 0, none⟩), .int .i64 (now : Int)] 51 (0, 0))) := fun w B v0 v3 v4 v6 hw hz hBD hB =>
    derived_q _ _ _ _ _ _ _ _ _ _ _ now (by omega) w hB hBD hw hq2 hf2 hr2 hw2 hz
  have HD2 := Lib.hid h2
  have HDD := Lib.hid hdd
  have HBS := Lib.hid hbase
  have HALL := Lib.hid hall
  have HSTAB := Lib.hid hstab
  have HK2 := Lib.hid hk2
  have HRL := Lib.hid hrl
  have HTB := Lib.hid hT
  have HN3 := Lib.hid hn3
  have HD := Lib.hid hD
  have HQ := Lib.hid hq
  have HDL : Hid (∀ k, D.foot k → k < W.heap.size) := fun k hk => hD.lt hk
  clear hL hD hq hfl hnl hbase hT hh hs ht hf hone hil hwt hn1 hn2 hn3 h2 hq2 hf2 hr2 hw2 hdd hk2 hrl hall hstab
  go_enter Tryz.func9, Tryz.ntmps9
  go_wp2_with fail
  refine HPN.out.mono ?_
  rintro e w2 ⟨P, rfl, hP, hall0, hb2, hg1, hg2⟩
  clear HPN
  go_wp2_with fail
  have hb3 : Below W.heap.size W ((w2.alloc (.cells #[.pointer none, .pointer none, .pointer none, .pointer none, .pointer none, .pointer none, .pointer (some ⟨P.blk, 0, none⟩), .pointer none, .pointer none, .pointer none, .pointer (some ⟨D.blk, 0, none⟩), .int .i64 (now : Int)] 51)).alloc (.cells #[.func (.func 28) #[] #[], .func (.func 29) #[] #[]] 79)) := (hb2.alloc hb2.size _).alloc (Nat.le_trans hb2.size (by rw [World.size_alloc]; omega)) _
  have hB3 : ((w2.alloc (.cells #[.pointer none, .pointer none, .pointer none, .pointer none, .pointer none, .pointer none, .pointer (some ⟨P.blk, 0, none⟩), .pointer none, .pointer none, .pointer none, .pointer (some ⟨D.blk, 0, none⟩), .int .i64 (now : Int)] 51)).alloc (.cells #[.func (.func 28) #[] #[], .func (.func 29) #[] #[]] 79)).heap[w2.heap.size]? = some (.cells #[.pointer none, .pointer none, .pointer none, .pointer none, .pointer none, .pointer none, .pointer (some ⟨P.blk, 0, none⟩), .pointer none, .pointer none, .pointer none, .pointer (some ⟨D.blk, 0, none⟩), .int .i64 (now : Int)] 51 (0, 0)) := heap_below ((Below.refl _ _).alloc (Nat.le_refl _) _) (heap_alloc_new w2 _)
  have hG3 : ((w2.alloc (.cells #[.pointer none, .pointer none, .pointer none, .pointer none, .pointer none, .pointer none, .pointer (some ⟨P.blk, 0, none⟩), .pointer none, .pointer none, .pointer none, .pointer (some ⟨D.blk, 0, none⟩), .int .i64 (now : Int)] 51)).alloc (.cells #[.func (.func 28) #[] #[], .func (.func 29) #[] #[]] 79)).heap[w2.heap.size + 1]? = some (.cells #[.func (.func 28) #[] #[], .func (.func 29) #[] #[]] 79 (0, 0)) := by
    have := heap_alloc_new (w2.alloc (.cells #[.pointer none, .pointer none, .pointer none, .pointer none, .pointer none, .pointer none, .pointer (some ⟨P.blk, 0, none⟩), .pointer none, .pointer none, .pointer none, .pointer (some ⟨D.blk, 0, none⟩), .int .i64 (now : Int)] 51)) (.cells #[.func (.func 28) #[] #[], .func (.func 29) #[] #[]] 79)
    rw [World.size_alloc] at this
    exact this
  have hP3 := (hP.below ((Below.refl w2.heap.size w2).alloc (Nat.le_refl _) (.cells #[.pointer none, .pointer none, .pointer none, .pointer none, .pointer none, .pointer none, .pointer (some ⟨P.blk, 0, none⟩), .pointer none, .pointer none, .pointer none, .pointer (some ⟨D.blk, 0, none⟩), .int .i64 (now : Int)] 51))).below ((Below.refl (w2.alloc (.cells #[.pointer none, .pointer none, .pointer none, .pointer none, .pointer none, .pointer none, .pointer (some ⟨P.blk, 0, none⟩), .pointer none, .pointer none, .pointer none, .pointer (some ⟨D.blk, 0, none⟩), .int .i64 (now : Int)] 51)).heap.size _).alloc (Nat.le_refl _) (.cells #[.func (.func 28) #[] #[], .func (.func 29) #[] #[]] 79))
  generalize (w2.alloc (.cells #[.pointer none, .pointer none, .pointer none, .pointer none, .pointer none, .pointer none, .pointer (some ⟨P.blk, 0, none⟩), .pointer none, .pointer none, .pointer none, .pointer (some ⟨D.blk, 0, none⟩), .int .i64 (now : Int)] 51)).alloc (.cells #[.func (.func 28) #[] #[], .func (.func 29) #[] #[]] 79) = w3 at *
  have hBW : W.heap.size ≤ w2.heap.size := hb2.size
  have HPL : Hid (∀ k, P.foot k → W.heap.size ≤ k ∧ k < w2.heap.size) := fun k hk => ⟨hk.elim (fun e => e ▸ hg1) fun e => e ▸ hg2, hP.lt hk⟩
  generalize w2.heap.size = B at *
  have HB3 := Lib.hid hB3
  have HG3 := Lib.hid hG3
  have HBW := Lib.hid hBW
  have HBE := Lib.hid hb3
  have HL0 := Lib.hid (HLA.out w3 B _ hb3 hB3 hBW)
  clear hB3 hG3 hBW hb3 HLA hb2 hP
  go_loopw [41] (fun i wr => ∃ k : Nat, k ≤ 2 ∧ i = .int .i64 (k : Int) ∧ Hid ((k = 0 → wr = w3) ∧ (1 ≤ k → ∃ T b3 b4, Lasts base B w3 wr D its R.b T ∧ wr.heap[B]? = some (.cells #[.pointer (some ⟨T.O.blk, 0, none⟩), .pointer none, .pointer none, .pointer (some ⟨b3, 0, none⟩), .pointer (some ⟨b4, 0, none⟩), .pointer none, .pointer (some ⟨P.blk, 0, none⟩), .pointer none, .pointer none, .pointer none, .pointer (some ⟨D.blk, 0, none⟩), .int .i64 (now : Int)] 51 (0, 0))))) (fun i _ => 2 - (intOf i).toNat)
  case atStart => exact ⟨0, by omega, rfl, fun _ => rfl, fun h => by omega⟩
  case round =>
    obtain ⟨k, hk, rfl, HS⟩ := hrel
    rcases (show k = 0 ∨ k = 1 ∨ k = 2 by omega) with rfl | rfl | rfl
    · obtain rfl := (HS.out.1 rfl).symm
      have g0 := cell_at HG3.out 0 _ rfl
      clear HS
      go_wp2_with fail
      refine HL0.out.mono ?_
      rintro e w4 ⟨rfl, hpost⟩
      have HPO := Lib.hid hpost
      clear hpost HL0 g0
      go_wp2_with fail
      go_roundw
      case rel => exact ⟨1, by omega, by go_num, fun h => by omega, fun _ => HPO.out⟩
      case measure => simp [intOf]
    · obtain ⟨T, b3, b4, hls, hBr⟩ := HS.out.2 (by omega)
      have hBl := (Array.getElem?_eq_some_iff.1 HB3.out).1
      have hBD : ¬ D.foot B := fun h => by have := HDL.out B h; have := HBW.out; omega
      have hGr : wr.heap[B + 1]? = _ := heap_mod hls.mod HG3.out (fun h => h.elim (fun h => by have := HDL.out _ h; have := HBW.out; omega) fun h => by omega)
      have g1 := cell_at hGr 1 _ rfl
      have HBA := Lib.hid (based_none (D := T.D) wr hBr (by rw [hls.dblk]; rfl) hls.tape.whole.dsk hls.quiet.up (hls.none HN3.out))
      have HLS := Lib.hid hls
      have HBR := Lib.hid hBr
      clear hls hBr hGr HS HL0
      go_wp2_with fail
      refine HBA.out.mono ?_
      rintro e w4 ⟨rfl, hb4⟩
      have HB4 := Lib.hid hb4
      clear hb4 HBA g1
      go_wp2_with fail
      go_roundw
      case rel => exact ⟨2, by omega, by go_num, fun h => by omega, fun _ => ⟨T, b3, b4, HLS.out.then (Mod.of_below (M := fun k => k = B) HB4.out) hBl hBD, heap_below HB4.out HBR.out⟩⟩
      case measure => simp [intOf]
    · obtain ⟨T, b3, b4, hls, hBr⟩ := HS.out.2 (by omega)
      have HLS := Lib.hid hls
      have HBR := Lib.hid hBr
      have h2l : ∀ k, D2.foot k → k < W.heap.size := fun k hk => HD2.out.lt hk
      have hD2r : DiskAt base wr D2 := (HD2.out.below HBE.out).mod hls.mod (fun k hk h => h.elim (fun h => HDD.out k h hk) fun h => by have := h2l k hk; have := HBW.out; omega)
      have hB2 : ¬ D2.foot B := fun h => by have := h2l B h; have := HBW.out; omega
      have HDE := Lib.hid (HDER.out wr B _ _ _ _ hD2r (Nat.le_trans HBS.out (Nat.le_trans HBE.out.size hls.mod.size)) hB2 hBr)
      clear hls hBr HS HL0 h2l hD2r hB2 HDER
      go_wp2_with fail
      refine HDE.out.mono ?_
      rintro e w5 ⟨rfl, C, D', kb, tb, hder, hB5⟩
      have HDR := Lib.hid hder
      have HB5 := Lib.hid hB5
      clear hder hB5 HDE
      have hBl : B < w3.heap.size := (Array.getElem?_eq_some_iff.1 HB3.out).1
      have hBWo := HBW.out
      have hDl := HDL.out
      have h2l : ∀ k, D2.foot k → k < W.heap.size := fun k hk => HD2.out.lt hk
      have hW3 : W.heap.size ≤ w3.heap.size := HBE.out.size
      have h3r : w3.heap.size ≤ wr.heap.size := HLS.out.mod.size
      have hTf : ∀ k, T.foot k → D.foot k ∨ w3.heap.size ≤ k := fun k hk => by
        rcases hk with h | h | h
        · exact .inr (HLS.out.fresh k (.inl h))
        · exact .inl ((HLS.out.dfoot k).1 h)
        · exact .inr (HLS.out.fresh k (.inr h))
      have hPf : ∀ k, P.foot k → W.heap.size ≤ k ∧ k < B := HPL.out
      have hTr : ∀ k, T.foot k → k < wr.heap.size := fun k hk => HLS.out.tape.lt hk
      have hCf : ∀ k, C.foot k → wr.heap.size ≤ k := HDR.out.cnew
      have hD'f : ∀ k, D'.foot k → D2.foot k ∨ wr.heap.size ≤ k := HDR.out.dnew
      have hTM : ∀ k, T.foot k → ¬ (D2.foot k ∨ k = B) := fun k hk h => by
        rcases hTf k hk with h1 | h1
        · exact h.elim (fun h => HDD.out k h1 h) fun h => by have := hDl k h1; omega
        · exact h.elim (fun h => by have := h2l k h; omega) fun h => by omega
      have hT5 : TapeAt base w5 T := HLS.out.tape.mod HDR.out.mod hTM
      have hP5 : PendAt base w5 P := (hP3.mod HLS.out.mod (fun k hk h => by
        have h1 := hPf k hk
        rcases h with h | h
        · have := hDl k h; omega
        · omega)).mod HDR.out.mod (fun k hk h => by
        have h1 := hPf k hk
        rcases h with h | h
        · have := h2l k h; omega
        · omega)
      have hawx : (∀ k, T.foot k → k ≠ B ∧ ¬ P.foot k) ∧ ∀ k, P.foot k → k ≠ B := ⟨fun k hk => by
        rcases hTf k hk with h1 | h1
        · have h2 := hDl k h1
          exact ⟨by omega, fun h => by have := hPf k h; omega⟩
        · exact ⟨by omega, fun h => by have := hPf k h; omega⟩, fun k hk => by have := hPf k hk; omega⟩
      have hBb : base ≤ B := Nat.le_trans HBS.out hBWo
      have hTb5 : TabB base w5 := ((HTB.out.below HBE.out).mod HLS.out.mod (fun k hk => hk.elim (fun h => HD.out.base_le h) fun e => e ▸ hBb)).mod HDR.out.mod (fun k hk => hk.elim (fun h => HD2.out.base_le h) fun e => e ▸ hBb)
      have h5r : wr.heap.size ≤ w5.heap.size := HDR.out.mod.size
      have hMb : ∀ k, C.foot k ∨ D'.foot k → base ≤ k := fun k hk => hk.elim (fun h => by have := hCf k h; have := HBS.out; omega) fun h => HDR.out.dsk.base_le h
      have hM : ∀ k, C.foot k ∨ D'.foot k → k < w5.heap.size ∧ k ≠ B ∧ ¬ T.foot k ∧ ¬ P.foot k := fun k hk => by
        have hlt : k < w5.heap.size := hk.elim (fun h => HDR.out.cq.lt h) fun h => HDR.out.dsk.lt h
        have ho : D2.foot k ∨ wr.heap.size ≤ k := hk.elim (fun h => .inr (hCf k h)) fun h => hD'f k h
        rcases ho with h | h
        · have := h2l k h
          exact ⟨hlt, by omega, fun h3 => hTM k h3 (.inl h), fun h3 => by have := hPf k h3; omega⟩
        · exact ⟨hlt, by omega, fun h3 => by have := hTr k h3; omega, fun h3 => by have := hPf k h3; omega⟩
      have hdb : C.db = D'.blk := by rw [HDR.out.db, HDR.out.grow.blk]
      have hall5 : ∀ (w : World) (b7 : Nat), Mod (fun k => k = B ∨ P.foot k) w5 w → w5.heap.size ≤ b7 → w.heap[b7]? = some (.cells #[.pointer (some ⟨T.O.blk, 0, none⟩), .pointer (some ⟨C.blk, 0, none⟩), .pointer (some ⟨kb, 0, none⟩), .int .i64 (T.R.b : Int)] 174 (0, 0)) →
          Calls Tryz.prog 75 #[.pointer (some ⟨b7, 0, none⟩)] w fun e w' => ∃ n : Int, e = .returned (.tuple #[.int .i64 n, .int .i64 0]) ∧ Post C D' w w' ∧ Mod (fun k => (C.foot k ∨ D'.foot k) ∨ k = b7) w w' := fun w b7 hm hb7 hc =>
        HALL.out T C D' kb w b7 (hT5.mod hm (fun k hk h => h.elim (fun h => (hawx.1 k hk).1 h) fun h => (hawx.1 k hk).2 h)) HLS.out.its HLS.out.b HLS.out.syn HLS.out.quiet
          (hTb5.mod hm (fun k hk => hk.elim (fun e => e ▸ hBb) fun h => by have := hPf k h; have := HBS.out; omega)) (by have := hm.size; have := HBS.out; omega) (HDR.out.cq.mod hm (fun k hk h => h.elim (fun h => (hM k (.inl hk)).2.1 h) fun h => (hM k (.inl hk)).2.2.2 h)) HDR.out.qs hdb
          (HDR.out.dsk.mod hm (fun k hk h => h.elim (fun h => (hM k (.inr hk)).2.1 h) fun h => (hM k (.inr hk)).2.2.2 h)) HDR.out.grow HDR.out.away (fun k hk => ⟨fun h => (hM k (.inl h)).2.2.1 hk, fun h => (hM k (.inr h)).2.2.1 hk⟩)
          ⟨fun h => by have := hTr _ h; omega, fun h => by have := (hM _ (.inl h)).1; omega, fun h => by have := (hM _ (.inr h)).1; omega⟩ hc
      have hstab5 : ∀ w0 w1 w2 b8 b9, Post C D' w0 w1 → w5.heap.size ≤ b8 → b8 < w0.heap.size → w5.heap.size ≤ b9 → b9 < w0.heap.size → Mod (fun k => k = b8 ∨ k = b9) w1 w2 → Post C D' w0 w2 := fun w0 w1 w2 b8 b9 hp i1 i2 i3 i4 hm =>
        HSTAB.out C D' w0 w1 w2 _ hp hm (fun k hk => ⟨by rcases hk with e | e <;> omega, fun h => by have := (hM _ (.inl h)).1; rcases hk with e | e <;> omega, fun h => by have := (hM _ (.inr h)).1; rcases hk with e | e <;> omega⟩)
      have hrecs : T.O.recs = recsOf R.b its := by rw [hT5.recs, HLS.out.its, HLS.out.b]
      have HRP := Lib.hid (replay_any (M := fun k => C.foot k ∨ D'.foot k) (Post := Post C D') (T := T) (P := P) (cb := C.blk) (kb := kb) (tb := tb) _ _ _ w5 (by rw [HLS.out.dblk]; exact HB5.out) hT5 hP5 hawx hTb5 (by have := HBS.out; omega) HLS.out.quiet (HLS.out.none HN3.out) (by rw [hrecs]; exact HRL.out) (by rw [hrecs]; exact HK2.out) hBb hMb hM hall5 hstab5)
      have HF : Hid ((∀ k, T.foot k → D.foot k ∨ w3.heap.size ≤ k) ∧ (∀ k, P.foot k → W.heap.size ≤ k ∧ k < B) ∧ (∀ k, C.foot k → wr.heap.size ≤ k) ∧ (∀ k, D'.foot k → D2.foot k ∨ wr.heap.size ≤ k)) := ⟨hTf, hPf, hCf, hD'f⟩
      have HAWX := Lib.hid hawx
      clear hTf hPf hTr hCf hD'f hTM hall5 hstab5 hM hMb hdb hTb5 hawx hT5 hP5 hrecs h2l hDl
      go_wp2_with fail
      refine HRP.out.mono ?_
      rintro e w6 ⟨rfl, b7, b8, b9, w0, hB6, hT6, hP6, hpost, hm6⟩
      clear HRP
      go_wp2_with fail
      go_ret2
      obtain ⟨f1, f2, f3, f4⟩ := HF.out
      refine ⟨⟨B, T, { P with all := notesP T.O.recs P.all }, .pointer (some ⟨C.blk, 0, none⟩), .pointer (some ⟨kb, 0, none⟩), .pointer (some ⟨b3, 0, none⟩), .pointer (some ⟨b4, 0, none⟩), .pointer (some ⟨tb, 0, none⟩), .pointer (some ⟨b7, 0, none⟩), .pointer (some ⟨b8, 0, none⟩), .pointer (some ⟨b9, 0, none⟩), .pointer (some ⟨T.D.blk, 0, none⟩), (now : Int)⟩, C, D', w0, rfl,
        ⟨hB6, hT6, hP6, Nat.le_trans HBS.out hBWo, HAWX.out⟩, rfl, rfl, HLS.out.its, HLS.out.b, HLS.out.syn, HLS.out.waits, HLS.out.quiet, HLS.out.dblk, HLS.out.room, HLS.out.find, hpost, ?_, fun k hk => ?_⟩
      · have m1 : Mod (fun k => (D.foot k ∨ D2.foot k) ∨ W.heap.size ≤ k) W w3 := Mod.of_below HBE.out
        have m2 := m1.trans (HLS.out.mod.mono (N := fun k => (D.foot k ∨ D2.foot k) ∨ W.heap.size ≤ k) fun k _ h => h.elim (fun h => .inl (.inl h)) fun h => .inr (by omega))
        have m3 := m2.trans (HDR.out.mod.mono (N := fun k => (D.foot k ∨ D2.foot k) ∨ W.heap.size ≤ k) fun k _ h => h.elim (fun h => .inl (.inr h)) fun h => .inr (by omega))
        have m4 := m3.trans (hm6.mono (N := fun k => (D.foot k ∨ D2.foot k) ∨ W.heap.size ≤ k) fun k _ h => h.elim (fun h => .inr (by omega)) fun h => h.elim (fun h => .inr (f2 k h).1) fun h => h.elim (fun h => .inr (by have := f3 k h; omega)) fun h => (f4 k h).elim (fun h => .inl (.inr h)) fun h => .inr (by omega))
        exact m4.mono fun k hk h => h.elim (fun h => h) fun h => by omega
      · rcases hk with h | h | h
        · exact .inr (by have h' : k = B := h; omega)
        · exact (f1 k h).imp (fun h => h) fun h => by omega
        · exact .inr (f2 k h).1
end Go.Proofs.YtikjahfeecdfgaaGreatDoor.StoW
namespace Go.Proofs.YtikjahfeecdfgaaGreatDoor.StoW
open Go.RowKit Go.MapKept OctMath RecMath RecW TapeMath DskW SegW MapG TapeW PendW CacheW CqW
set_option linter.unusedVariables false
set_option linter.unusedSimpArgs false
set_option maxRecDepth 100000
def freshR (D : DiskD) : SegD := ⟨0, D.blk, tapeH, 1024, 0, 0, [], 0, .slice none 0 0⟩
theorem fresh_laid (D : DiskD) (h : D.files = []) : LaidOn D (freshR D) := by
  refine ⟨⟨show 16 ≤ 1024 by decide, show 1024 ≤ 4096 by decide⟩, fun _ => ⟨rfl, rfl⟩, fun h => absurd h (Nat.lt_irrefl 0), rfl, by show tapeH.length ≤ _; decide, ?_, ?_, rfl⟩
  · intro i hi
    exact absurd hi (Nat.not_lt_zero _)
  · intro p _ _
    exact find_not.2 (by rw [h]; simp)
theorem find_empty {D : DiskD} (h : D.files = []) (n : List UInt8) : D.find n = none := find_not.2 (by rw [h]; simp)
theorem files_nil {D D1 : DiskD} (h : D.files = []) (k : ∀ n, (D1.find n).isSome = (D.find n).isSome) : D1.files = [] := by
  cases hf : D1.files with
  | nil => rfl
  | cons p l =>
    have h1 := k p.1
    rw [find_empty h] at h1
    have h2 : D1.find p.1 = none := by cases hh : D1.find p.1 with
      | none => rfl
      | some f => rw [hh] at h1; cases h1
    exact absurd (List.mem_map.2 ⟨p, by rw [hf]; exact List.mem_cons_self, rfl⟩) (find_not.1 h2)
theorem sopen_fresh {base : Nat} {D D2 : DiskD} (now : Nat) (W : World) (hD : DiskAt base W D) (hq : Quiet D) (hf : D.files = []) (hwt : D.waits = []) (hbase : base ≤ W.heap.size) (hT : TabB base W) (h2 : DiskAt base W D2) (hq2 : Quiet D2) (hf2 : D2.files = []) (hr2 : 120 ≤ D2.room) (hw2 : D2.waits = []) (hdd : ∀ k, D.foot k → ¬ D2.foot k) (hnow : now ≤ 1099511626776) :
    Calls Tryz.prog 9 #[.pointer (some ⟨D.blk, 0, none⟩), .pointer (some ⟨D2.blk, 0, none⟩), .int .i64 (now : Int)] W fun e w' => ∃ S, e = .returned (.tuple #[.pointer (some ⟨S.blk, 0, none⟩), .int .i64 0]) ∧ StoAt base w' S ∧ S.now = (now : Int) ∧ S.T.its = [] ∧ S.T.R.b = 0 ∧ S.T.R.synced = S.T.R.e ∧ S.T.D.waits = [] ∧ Quiet S.T.D ∧ S.T.D.blk = D.blk ∧ S.T.D.room = D.room ∧ S.T.D.files = [] ∧
      Mod (fun k => D.foot k ∨ D2.foot k) W w' ∧ (∀ k, S.foot k → D.foot k ∨ W.heap.size ≤ k) := by
  refine (sopen_any (R := freshR D) (its := []) (Post := fun _ _ _ _ => True) now W (fresh_laid D hf) hD hq (by rw [hf]; simp) (by rw [hf]; intro p hp; cases hp) hbase hT rfl rfl rfl trivial (fun x hx => by cases hx) (by simp) hwt (find_empty hf _) (find_empty hf _) (find_empty hf _) h2 hq2 hf2 hr2 hw2 hdd hnow (fun p hp => by cases hp) (by simp [recsOf])
    (fun T C D' kb w b7 a1 a2 a3 a4 a5 a6 a7 a8 a9 b1 b2 b3 b4 b5 b6 hc => ?_) (fun _ _ _ _ _ _ _ _ _ => trivial)).mono fun e w' ⟨S, C, D', w0, x1, x2, x3, x4, x5, x6, x7, x8, x9, y1, y2, yf, y3, y4, y5⟩ => ⟨S, x1, x2, x3, x5, x6, x7, x8, x9, y1, y2, files_nil hf yf, y4, y5⟩
  have hr : T.O.recs = [] := by rw [a1.recs, a2]; rfl
  exact (dall_none w a1.own hc (by rw [hr]; exact List.Pairwise.nil) (by rw [hr]; simp) (by rw [hr]; rfl)).mono fun e w' ⟨h1, h2⟩ => ⟨0, h1, trivial, Mod.of_below (h2.below _)⟩
end Go.Proofs.YtikjahfeecdfgaaGreatDoor.StoW
namespace Go.Proofs.YtikjahfeecdfgaaGreatDoor.StoW
open Go.RowKit Go.MapKept OctMath RecMath RecW TapeMath DskW SegW MapG TapeW PendW CacheW CqW
open EntW (widOk widW placeWs)
set_option linter.unusedVariables false
set_option linter.unusedSimpArgs false
set_option maxRecDepth 100000
def OneQ (base : Nat) (C : CqD) (D' : DiskD) (t : List UInt8) (w w' : World) : Prop := ∃ x : QueD, CqAt base w' { C with qs := [x] } ∧ x.topic = t ∧ x.q = 0 ∧ x.b0 = 0 ∧ x.R.e = 20 ∧ (∀ k, (k = x.blk ∨ x.R.foot k) → w.heap.size ≤ k) ∧ C.blk < w.heap.size ∧ C.mB < w.heap.size ∧ w.heap.size ≤ w'.heap.size
theorem OneQ.stab {base : Nat} {C : CqD} {D' : DiskD} {t : List UInt8} {w0 w1 w2 : World} {M : Nat → Prop} (h : OneQ base C D' t w0 w1) (hm : Mod M w1 w2) (hM : ∀ k, M k → k < w0.heap.size ∧ ¬ C.foot k ∧ ¬ D'.foot k) : OneQ base C D' t w0 w2 := by
  obtain ⟨x, a1, a2, a3, a4, a5, a6, a7, a8, a9⟩ := h
  refine ⟨x, a1.mod hm (fun k hk h => ?_), a2, a3, a4, a5, a6, a7, a8, Nat.le_trans a9 hm.size⟩
  obtain ⟨h1, h2, h3⟩ := hM k h
  rcases hk with hk | hk | ⟨y, hy, hk⟩
  · exact h2 (.inl hk)
  · exact h2 (.inr (.inl hk))
  · rw [List.mem_singleton] at hy
    subst hy
    have := a6 k hk
    omega
theorem place_ok (sz : Int) (h : 0 ≤ sz ∧ sz ≤ 1024) : widOk (placeWs 0 sz 0 0) = true ∧ (widW (placeWs 0 sz 0 0)).length = 20 := by
  have h1 : widOk (placeWs 0 sz 0 0) = true := by
    unfold widOk placeWs
    refine decide_eq_true fun p hp => ?_
    simp only [List.mem_cons, List.not_mem_nil, or_false] at hp
    rcases hp with rfl | rfl | rfl | rfl <;> unfold OctW.fits <;> simp <;> omega
  refine ⟨h1, ?_⟩
  unfold widW
  rw [if_pos h1]
  rfl
set_option maxHeartbeats 3200000 in
theorem hall_one {base : Nat} {D2 : DiskD} {m : Msg} (hf2 : D2.files = []) (hr2 : 140 ≤ D2.room) (hw2 : D2.waits = [])
    (h1 : m.kind = 1) (h2 : m.queue = 0) (h3 : m.tag = []) (h4 : m.keys = []) (h5 : m.born = 0) (ht : NameMath.topicL m.topic = true) (hrl : (recL m).length ≤ 1024)
    (T : TapeD) (C : CqD) (D' : DiskD) (kb : Nat) (w : World) (b7 : Nat) (hT : TapeAt base w T) (hits : T.its = [.one m]) (hb : T.R.b = 0) (hsy : T.R.synced = T.R.e) (hq : Quiet T.D) (hTB : TabB base w) (hbase : base ≤ w.heap.size) (hC : CqAt base w C) (hqs : C.qs = []) (hdb : C.db = D'.blk)
    (hD' : DiskAt base w D') (hg : Grows D2 D' [xlinks, xslots, wslots, wmarks] 120 2) (haw : ∀ k, C.foot k → ¬ D'.foot k) (hTC : ∀ k, T.foot k → ¬ C.foot k ∧ ¬ D'.foot k) (hb7 : ¬ T.foot b7 ∧ ¬ C.foot b7 ∧ ¬ D'.foot b7)
    (hB : w.heap[b7]? = some (.cells #[.pointer (some ⟨T.O.blk, 0, none⟩), .pointer (some ⟨C.blk, 0, none⟩), .pointer (some ⟨kb, 0, none⟩), .int .i64 (T.R.b : Int)] 174 (0, 0))) :
    Calls Tryz.prog 75 #[.pointer (some ⟨b7, 0, none⟩)] w fun e w' => ∃ n : Int, e = .returned (.tuple #[.int .i64 n, .int .i64 0]) ∧ OneQ base C D' m.topic w w' ∧ Mod (fun k => (C.foot k ∨ D'.foot k) ∨ k = b7) w w' := by
  have hrecs : T.O.recs = [(0, m)] := by rw [hT.recs, hits, hb]; rfl
  have hpos := rec_pos m
  have htl := @RecMath.topic_len
  have hen : T.R.e = (recL m).length := by
    have := bytes_e hT
    rw [hits, hb] at this
    rw [this]
    show 0 + ([TapeMath.Item.one m].flatMap Item.bytes).length = _
    simp [Item.bytes]
  have hp0 : TapeW.placeL [(0, m)] 0 = 0 := rfl
  have hsz : sizeR T.O.recs ((0 : Nat) : Int) = ((recL m).length : Int) := by rw [hrecs]; rfl
  have hp1 : TapeW.placeL [(0, m)] (((recL m).length : Nat) : Int) = 1 := by
    have h0 : (0 : Int) < (((recL m).length : Nat) : Int) := by omega
    show List.countP (fun x => decide (x < (((recL m).length : Nat) : Int))) [((0 : Nat) : Int)] = 1
    rw [List.countP_cons_of_pos (by simpa using h0)]
    rfl
  have hle : T.O.recs.length ≤ 1073741824 := by rw [hrecs]; simp
  have hn : nextL T.O.recs (T.R.b : Int) = (((0 : Nat) : Int), true) := by rw [hrecs, hb]; rfl
  have hend : (nextL T.O.recs (((0 : Nat) : Int) + ((recL m).length : Int))).2 = false := by
    rw [hrecs, show (((0 : Nat) : Int) + ((recL m).length : Int)) = (((recL m).length : Nat) : Int) by omega]
    unfold nextL
    rw [hp1]
    rfl
  have hlt : ∀ k, C.foot k ∨ D'.foot k → k < w.heap.size := fun k hk => hk.elim (fun h => hC.lt h) fun h => hD'.lt h
  have hz : (0 : Int) ≤ ((recL m).length : Int) ∧ ((recL m).length : Int) ≤ 1024 := by omega
  obtain ⟨hp1, hp2⟩ := place_ok _ hz
  refine (dall_one (M := fun k => k = C.mB ∨ D'.foot k) (Post := fun u v => ∃ x D'', Added base u v C D' m.topic 0 (widW (placeWs 0 ((recL m).length : Int) 0 0)) x D'') 0 m 0 C.blk ((recL m).length : Int) _ _ w hT hTB hbase hq.up hB hle hn (by rw [hsy, hen]; omega) (by rw [hrecs]; exact List.mem_singleton.2 rfl) h1 h2 h3 h4 hsz ⟨hz.1, hz.2, by decide⟩ hend
    (fun k hk => ?_) (fun h => hb7.1 (.inl h)) (fun w2 hb2 => ?_)).mono fun e w' ⟨he, w2, w3, a1, ⟨x, D'', a2⟩, a3, a4⟩ => ⟨1, he, ?_, ?_⟩
  · have hk' : C.foot k ∨ D'.foot k := hk.imp (fun e => .inr (.inl e)) fun h => h
    refine ⟨hlt k hk', fun e => ?_, fun h => ?_⟩
    · subst e; exact hk'.elim hb7.2.1 hb7.2.2
    · have := hTC k (.inl h); exact hk'.elim this.1 this.2
  · have hfind : ∀ mm, mm ≤ 99999999 → D'.find (nameL (qHead m.topic 0) mm) = none := fun mm hm => by
      rw [CacheW.find_not, hg.names, hf2]
      intro hmem
      have : nameL (qHead m.topic 0) mm = 113 :: ([45] ++ m.topic ++ [46] ++ Lib.decDigits 0 ++ [45] ++ padL mm) := rfl
      rw [this] at hmem
      simp [xlinks, xslots, wslots, wmarks] at hmem
    have hnm : ∀ p ∈ D'.files, p.1.length ≤ 1073741824 := fun p hp => by
      have : p.1 ∈ D'.files.map (·.1) := List.mem_map.2 ⟨p, hp, rfl⟩
      rw [hg.names, hf2] at this
      simp only [List.map_nil, List.nil_append, List.mem_cons, List.not_mem_nil, or_false] at this
      rcases this with e | e | e | e <;> rw [e] <;> decide
    have hfl : D'.files.length ≤ 1048576 := by
      have : (D'.files.map (·.1)).length = 4 := by rw [hg.names, hf2]; rfl
      rw [List.length_map] at this
      omega
    have hwl : D'.waits.length ≤ 1000000 := by rw [hg.waits, hw2]; decide
    rw [h5]
    refine (CqW.add_new m.topic 0 0 ((recL m).length : Int) 0 0 w2 (hC.below hb2) (hD'.below hb2) hdb hg.quiet hfl hnm (Nat.le_trans hbase hb2.size) (hTB.below hb2) (by rw [hqs]; simp) ht (by have := htl ht; omega) (by decide) hfind haw (widW (placeWs 0 ((recL m).length : Int) 0 0)) hp2 (fun w5 => ?_) (by rw [hg.room]; omega) hwl).mono fun e w5 ⟨he, x, D'', ha⟩ => ⟨he, ⟨x, D'', ha⟩, ha.mod⟩
    have := EntW.place_put 0 ((recL m).length : Int) 0 0 (by omega) (by omega) (by omega) (by omega) w5
    rw [hp1] at this
    exact this
  · have hq := a2.cq
    rw [hqs, List.nil_append] at hq
    have hC2 : w.heap.size ≤ w2.heap.size := a1.size
    have h7 : b7 < w.heap.size := (Array.getElem?_eq_some_iff.1 hB).1
    have hmf : ∀ k, CqD.foot { C with qs := [x] } k → ¬ k = b7 := fun k hk e => by
      subst e
      rcases hk with hk | hk | ⟨y, hy, hk⟩
      · exact hb7.2.1 (.inl hk)
      · exact hb7.2.1 (.inr (.inl hk))
      · rw [List.mem_singleton] at hy
        subst hy
        have := a2.xfoot _ hk
        omega
    refine ⟨x, hq.mod a4 hmf, a2.topic, a2.qq, a2.b0, ?_, fun k hk => Nat.le_trans hC2 (a2.xfoot k hk), hC.lt (.inl rfl), hC.lt (.inr (.inl rfl)), Nat.le_trans hC2 (Nat.le_trans a3.size a4.size)⟩
    unfold SegD.e
    rw [a2.b, a2.txt, hp2]
  · have h5 : Mod (fun k => (C.foot k ∨ D'.foot k) ∨ k = b7) w w2 := Mod.of_below a1
    exact (h5.trans (a3.mono fun k _ h => .inl (h.imp (fun e => .inr (.inl e)) fun h => h))).trans (a4.mono fun k _ h => .inr h)
end Go.Proofs.YtikjahfeecdfgaaGreatDoor.StoW
namespace Go.Proofs.YtikjahfeecdfgaaGreatDoor.StoW
open Go.RowKit Go.MapKept OctMath RecMath RecW TapeMath DskW SegW MapG TapeW PendW CacheW CqW
set_option linter.unusedVariables false
set_option linter.unusedSimpArgs false
set_option maxRecDepth 100000
theorem foot_new {base : Nat} {w : World} {D : DiskD} (h : DiskAt base w D) (hf : D.files = []) (hv : D.wv = .slice none 0 0) {n : Nat} (h1 : n ≤ D.blk) (h2 : n ≤ D.mB) : ∀ k, D.foot k → n ≤ k := fun k hk => by
  rcases hk with e | e | ⟨p, hp, _⟩ | e
  · omega
  · omega
  · rw [hf] at hp; cases hp
  · rw [hv] at e; cases e
theorem room_new {D : DiskD} {c : Int} (hf : D.files = []) (hc : D.cap = c) : D.room = c := by
  unfold DiskD.room DiskD.size
  rw [hf, hc]
  show c - ((0 : Nat) : Int) = c
  omega
def msgA : Msg := { noMsg with kind := 1, topic := [97] }
theorem msgA_right : rightL msgA = true := by decide
theorem msgA_ok : MsgOk msgA := by
  refine ⟨?_, ?_, ?_, ?_, ?_, ?_, ?_, ?_, ?_, ?_, ?_⟩ <;> first | (unfold inI; decide) | decide | (intro t ht; cases ht)
theorem not_tape {n : List UInt8} (h : ∀ x l, n = 116 :: 97 :: x :: l → False) : ∀ p, p ≤ 99999999 → n ≠ nameL tapeH p := fun p _ e => h 112 _ e
theorem fill_nil {m : Msg} (hr : rightL m = true) (h0 : m.kind ≠ 0) : fillOf 0 m = [] ∧ laidOf 0 m = [.one m] := by
  have := (rec_len hr h0).2
  have hr : roomL 0 = 1024 := rfl
  constructor
  · unfold fillOf; rw [if_pos (by rw [hr]; right; omega)]
  · unfold laidOf; rw [if_pos (by rw [hr]; right; omega)]
theorem e_zero {base : Nat} {w : World} {T : TapeD} (h : TapeAt base w T) (hi : T.its = []) (hb : T.R.b = 0) : T.R.e = 0 := by
  have := bytes_e h
  rw [hi, hb] at this
  exact this
theorem recs_zero {base : Nat} {w : World} {T : TapeD} (h : TapeAt base w T) (hi : T.its = []) : T.O.recs = [] := by
  rw [h.recs, hi]; rfl
set_option maxHeartbeats 12800000 in
theorem awake_any (W : World) (hT : Tab W) :
    Calls Tryz.prog 6 #[] W fun e w' => e = .returned (.bool true) ∧ Below W.heap.size W w' := by
  have HN1 := Lib.hid (DskW.new_any 10000 W.heap.size W (Nat.le_refl _))
  have HTB : Hid (∀ w, Below W.heap.size W w → TabB W.heap.size w) := fun w hb => ⟨W, hT, Nat.le_refl _, hb⟩
  clear hT
  go_enter Tryz.func6, Tryz.ntmps6
  go_wp2_with fail
  refine HN1.out.mono ?_
  rintro e w1 ⟨D, rfl, hD, hb1, h11, h12, h13, h14, h15, h16, h17, h18⟩
  clear HN1
  have HN2 := Lib.hid (DskW.new_any 1048576 W.heap.size w1 hb1.size)
  have H1 : Hid (DiskAt W.heap.size w1 D ∧ Below W.heap.size W w1 ∧ Quiet D ∧ D.files = [] ∧ D.waits = [] ∧ D.room = 10000) := ⟨hD, hb1, ⟨h13, h14⟩, h15, h16, room_new h15 (by rw [h18]; rfl)⟩
  clear hD hb1 h11 h12 h13 h14 h15 h16 h17 h18
  go_wp2_with fail
  refine HN2.out.mono ?_
  rintro e w2 ⟨D2, rfl, hD2, hb2, h11, h12, h13, h14, h15, h16, h17, h18⟩
  clear HN2
  obtain ⟨hD, hb1, hq1, hf1, hw1, hr1⟩ := H1.out
  have hB2 : Below W.heap.size W w2 := hb1.trans (hb2.mono hb1.size)
  have HB2 := Lib.hid hB2
  have hbs := hB2.size
  have HO := Lib.hid (sopen_fresh (base := W.heap.size) 3 w2 (hD.below hb2) hq1 hf1 hw1 hbs (HTB.out w2 hB2) hD2 ⟨h13, h14⟩ h15 (by have := room_new (c := 1048576) h15 (by rw [h18]; rfl); omega) h16
    (fun k hk h2 => by have h3 := hD.lt hk; have h4 := foot_new hD2 h15 h17 h11 h12 k h2; omega) (by decide))
  rw [show ((3 : Nat) : Int) = 3 from rfl] at HO
  have HF : Hid (∀ k, D.foot k ∨ D2.foot k → W.heap.size ≤ k) := fun k hk => hk.elim (fun h => hD.base_le h) fun h => hD2.base_le h
  clear hD2 hb2 h11 h12 h13 h14 h15 h16 h17 h18 hD hb1 hq1 hf1 hw1 hB2 hbs
  go_wp2_with fail
  refine HO.out.mono ?_
  rintro e w3 ⟨S0, rfl, hS, hnow, hits, hb, hsy, hwt, hq, hdb, hrm, hfs, hm, hft⟩
  clear HO
  have hB3 : Below W.heap.size W w3 := HB2.out.trans (hm.to_below _ HB2.out.size HF.out)
  have he := e_zero hS.tape hits hb
  have hrc := recs_zero hS.tape hits
  obtain ⟨hfl, hla⟩ := fill_nil msgA_right (by decide)
  have hrl := (rec_len msgA_right (by decide)).2
  have HP := Lib.hid (put_ok msgA true msgA_ok msgA_right (by decide) none 0 w3 hS (fun i hi => absurd hi (Nat.not_lt_zero _)) hq (HTB.out w3 hB3) hB3.size (by rw [he, hfl, hrm, H1.out.2.2.2.2.2]; show ((0 + (recL msgA).length : Nat) : Int) ≤ 10000; omega) (by rw [hwt]; decide) (by omega) (by rw [hrc]; decide))
  rw [he, hfl] at HP
  rw [show cellsM msgA none 0 = #[.int .i64 1, .int .i64 0, .int .i64 0, .int .i64 0, .int .i64 0, .int .i64 0, .string ⟨#[97]⟩, .string ⟨#[]⟩, .string ⟨#[]⟩, .slice none 0 0] from rfl] at HP
  have HB3 := Lib.hid hB3
  have HS0 : Hid (S0.T.its = [] ∧ S0.T.R.b = 0 ∧ S0.T.R.e = 0 ∧ S0.T.D.files = [] ∧ S0.T.D.blk = D.blk ∧ S0.T.D.room = 10000 ∧ (∀ k, S0.foot k → W.heap.size ≤ k)) := ⟨hits, hb, he, hfs, hdb, by rw [hrm]; exact H1.out.2.2.2.2.2, fun k hk => (hft k hk).elim (fun h => HF.out k (.inl h)) fun h => by have := HB2.out.size; omega⟩
  clear hS hnow hits hb hsy hwt hq hdb hrm hfs hm hft hB3 he hrc hfl
  go_wp2_with fail
  refine HP.out.mono ?_
  rintro e w4 ⟨rfl, S1, hS1, hput, hm4⟩
  clear HP
  have hB4 : Below W.heap.size W w4 := HB3.out.trans (hm4.to_below _ HB3.out.size HS0.out.2.2.2.2.2.2)
  have HB4 := Lib.hid hB4
  have HS1 := Lib.hid hS1
  have HPU := Lib.hid hput
  have HN3 := Lib.hid (DskW.new_any 1048576 W.heap.size w4 hB4.size)
  have HDB : Hid (S1.T.D.blk = D.blk) := hput.dblk.trans HS0.out.2.2.2.2.1
  clear hS1 hput hm4 hB4
  go_wp2_with fail
  refine HN3.out.mono ?_
  rintro e w5 ⟨D3, rfl, hD3, hb5, h11, h12, h13, h14, h15, h16, h17, h18⟩
  clear HN3
  obtain ⟨hits, hb, he, hfs, hdb, hrm, hft⟩ := HS0.out
  have hB5 : Below W.heap.size W w5 := HB4.out.trans (hb5.mono HB4.out.size)
  have hpu := HPU.out
  have hS1 := HS1.out
  have hi1 : S1.T.its = [.one msgA] := by rw [hpu.its, hits, he, hla]; rfl
  have hb1 : S1.T.R.b = 0 := hpu.b.trans hb
  have hnone : ∀ n, (∀ p, p ≤ 99999999 → n ≠ nameL tapeH p) → S1.T.D.find n = none := fun n hn => hpu.find n hn (find_empty hfs n)
  have hfl1 : S1.T.D.files.length ≤ 2 := by have := hpu.fl; rw [hfs] at this; exact this
  have hnm1 : ∀ p ∈ S1.T.D.files, p.1.length ≤ 13 := fun p hp => (hpu.nm p hp).elim (fun h => h) fun ⟨q, hq, _⟩ => by rw [hfs] at hq; cases hq
  have HO := Lib.hid (sopen_any (base := W.heap.size) (D := S1.T.D) (D2 := D3) (R := S1.T.R) (its := [.one msgA]) (Post := fun C D' u v => OneQ W.heap.size C D' [97] u v) 3 w5 hS1.tape.whole.laid (hS1.tape.whole.dsk.below hb5) hpu.quiet (Nat.le_trans hfl1 (by decide)) (fun p hp => Nat.le_trans (hnm1 p hp) (by decide)) hB5.size (HTB.out w5 hB5)
    hS1.tape.head hS1.tape.size (by rw [hS1.tape.txt, hi1]) (by have := hS1.tape.fits; rw [hi1] at this; exact this) (fun x hx => ⟨msgA, List.mem_singleton.1 hx⟩) (by decide) hpu.waits.1
    (hnone _ (not_tape fun x l e => by simp [TopW.topicsN] at e)) (hnone _ (not_tape fun x l e => by simp [TopW.groupsN] at e)) (hnone _ (not_tape fun x l e => by simp [TopW.baseN] at e))
    hD3 ⟨h13, h14⟩ h15 (by have := room_new (c := 1048576) h15 (by rw [h18]; rfl); omega) h16 (fun k hk h2 => by have h3 := hS1.tape.whole.dsk.lt hk; have h4 := foot_new hD3 h15 h17 h11 h12 k h2; omega) (by decide)
    (by rw [hb1]; intro p hp; rw [List.mem_singleton.1 hp]; decide) (by rw [hb1]; decide)
    (fun T C D' kb w b7 a1 a2 a3 a4 a5 a6 a7 a8 a9 c1 c2 c3 c4 c5 c6 c7 => hall_one (m := msgA) h15 (by have := room_new (c := 1048576) h15 (by rw [h18]; rfl); omega) h16 rfl rfl rfl rfl rfl rfl (Nat.le_trans hrl (by decide)) T C D' kb w b7 a1 a2 (a3.trans hb1) a4 a5 a6 a7 a8 a9 c1 c2 c3 c4 c5 c6 c7)
    (fun C D' w0 w1 w2 M hp hm hM => hp.stab hm hM))
  rw [show ((3 : Nat) : Int) = 3 from rfl, HDB.out] at HO
  have HB5 := Lib.hid hB5
  have HF5 : Hid (∀ k, S1.T.D.foot k ∨ D3.foot k → W.heap.size ≤ k) := fun k hk => hk.elim (fun h => hS1.tape.whole.dsk.base_le h) fun h => hD3.base_le h
  clear hD3 hb5 h11 h12 h13 h14 h15 h16 h17 h18 hits hb he hfs hdb hrm hft hB5 hpu hS1 hi1 hb1 hnone hfl1 hnm1
  go_wp2_with fail
  refine HO.out.mono ?_
  rintro e w6 ⟨S2, C, D', w0, rfl, hS2, hnow, hcq, hits, hb, hsy, hwt, hq, hdb, hrm, hfd, hone, hm, hft⟩
  clear HO
  obtain ⟨x, hC, hxt, hxq, hx0, hxe, _, _, _, _⟩ := hone
  have hB6 : Below W.heap.size W w6 := HB5.out.trans (hm.to_below _ HB5.out.size HF5.out)
  have HB6 := Lib.hid hB6
  have HS2 := Lib.hid hS2
  have HNW := Lib.hid hnow
  have HQN := Lib.hid (qnext_any 0 w6 hC (List.mem_singleton.2 rfl) (by rw [hxq]; rfl) (fun y hy => ⟨0, by rw [List.mem_singleton.1 hy, hxq]; rfl⟩) (by rw [hx0]; decide))
  rw [hx0, hxe, hxt] at HQN
  rw [show ((0 + 20 / 20 : Nat) : Int) = 1 from rfl, show S [97] = ⟨#[97]⟩ from rfl, show ((0 : Nat) : Int) = 0 from rfl] at HQN
  have c1 : w6.cell? ⟨S2.blk, 1, none⟩ = some (.pointer (some ⟨C.blk, 0, none⟩)) := by rw [← hcq]; exact hS2.cell 1 _ rfl
  clear hS2 hnow hcq hits hb hsy hwt hq hdb hrm hfd hC hxt hxq hx0 hxe hm hft hB6
  go_wp2_with fail
  refine HQN.out.mono ?_
  rintro e w7 ⟨rfl, hd⟩
  have HB7 := Lib.hid (HB6.out.trans (hd.below _))
  have HNO := Lib.hid (now_any w7 (HS2.out.below (hd.below _)))
  rw [HNW.out] at HNO
  clear hd HQN c1
  go_wp2_with fail
  refine HNO.out.mono ?_
  rintro e w8 ⟨rfl, rfl⟩
  clear HNO
  go_wp2_with fail
  go_ret
  exact ⟨rfl, HB7.out⟩
end Go.Proofs.YtikjahfeecdfgaaGreatDoor.StoW
