/- The store reads its tape again. And what follows. -/
import Derived.Test.YtnoehodmmkioaaaGreatDoorF08
import Derived.Test.YtnoehodmmkioaaaGreatDoorF05
import Derived.LaidEqlPtr
import Derived.Test.YtnoehodmmkioaaaGreatDoorF06
import Derived.Test.YtnoehodmmkioaaaGreatDoorF07
set_option maxHeartbeats 25600000
set_option maxRecDepth 100000
set_option linter.unusedVariables false
set_option linter.unusedSimpArgs false
namespace Go.Proofs.YtnoehodmmkioaaaGreatDoor.StoW
open Go.RowKit Go.MapKept OctMath RecMath RecW TapeMath DskW SegW MapG TapeW PendW
def notesP (l:List (Nat×Msg)) (all:List (Int×Int×Int)):List (Int×Int×Int):=l.foldl (fun a p=>noteP a (p.1:Int) p.2) all
theorem heap_mod {M:Nat→Prop} {u v:World} (h:Mod M u v) {b:Nat} {o:Obj} (hb:u.heap[b]?=some o) (hM:¬ M b):v.heap[b]?=some o :=
 (h.block b (Array.getElem?_eq_some_iff.1 hb).1 hM).trans hb
theorem heap_below {u v:World} (h:Below u.heap.size u v) {b:Nat} {o:Obj} (hb:u.heap[b]?=some o):v.heap[b]?=some o :=
 (h.block b (Array.getElem?_eq_some_iff.1 hb).1).trans hb
def OnceG (B s0:Nat) (o:Nat→Obj) (n:Obj) (u v:World):Prop:=Mod (fun k=>k=B) u v∧(v.heap[B]?=u.heap[B]?∨∃ b,v.heap[B]?=some (o b)∧v.heap[b]?=some n∧s0≤b)
theorem OnceG.refl (B s0:Nat) (o:Nat→Obj) (n:Obj) (w:World):OnceG B s0 o n w w:=⟨Mod.refl _ _,.inl rfl⟩
theorem OnceG.keep {B s0:Nat} {o:Nat→Obj} {n:Obj} (hB:B < s0) {u v:World} (h:OnceG B s0 o n u v) {b:Nat} (hb:s0≤b) (hn:u.heap[b]?=some n):v.heap[b]?=some n:=heap_mod h.1 hn (by omega)
theorem OnceG.trans {B s0:Nat} {o:Nat→Obj} {n:Obj} (hB:B < s0) {u v w:World} (h:OnceG B s0 o n u v) (k:OnceG B s0 o n v w):OnceG B s0 o n u w :=
 ⟨h.1.trans k.1,k.2.elim (fun e=>h.2.elim (fun e2=>.inl (e.trans e2)) fun ⟨b,h1,h2,h3⟩=>.inr ⟨b,e.trans h1,k.keep hB h3 h2,h3⟩) .inr⟩
theorem OnceG.below {B s0:Nat} {o:Nat→Obj} {n:Obj} {u v:World} (h:Below u.heap.size u v) (hB:B < u.heap.size):OnceG B s0 o n u v:=⟨Mod.of_below h,.inl (h.block B hB)⟩
def YT (s0:Nat) (n:Obj) (v:Value) (w:World):Prop:=∃ b,v=.tuple #[.pointer (some ⟨b,0,none⟩),.int .i64 0]∧w.heap[b]?=some n∧s0≤b
def YP (s0:Nat) (n:Obj) (v:Value) (w:World):Prop:=∃ b,v=.pointer (some ⟨b,0,none⟩)∧w.heap[b]?=some n∧s0≤b
def YS (B s0:Nat) (o:Nat→Obj) (n:Obj) (w:World):Prop:=∃ b,w.heap[B]?=some (o b)∧w.heap[b]?=some n∧s0≤b
theorem notesP_take {l:List (Nat×Msg)} {k:Nat} (h:k < l.length) (all:List (Int×Int×Int)):notesP (l.take (k+1)) all=noteP (notesP (l.take k) all) (l[k].1:Int) l[k].2:=by
 unfold notesP
 rw [List.take_succ_eq_append_getElem h,List.foldl_append]; rfl
theorem replay_any {base B cb kb tb:Nat} {T:TapeD} {P:PendD} (v3 v4 now:Value) (W:World) (hB:W.heap[B]?=some (.cells #[.pointer (some ⟨T.O.blk,0,none⟩),.pointer (some ⟨cb,0,none⟩),.pointer (some ⟨kb,0,none⟩),v3,v4,.pointer (some ⟨tb,0,none⟩),.pointer (some ⟨P.blk,0,none⟩),.pointer none,.pointer none,.pointer none,.pointer (some ⟨T.D.blk,0,none⟩),now] 47 (0,0))) (h:TapeAt base W T) (hP:PendAt base W P) (haw:(∀ k,T.foot k→k≠B∧¬ P.foot k)∧∀ k,P.foot k→k≠B)
 (hT:TabB base W) (hbase:base≤W.heap.size) (hq:Quiet T.D) (hn:T.D.find TopW.baseN=none) (hl:T.O.recs.length≤1000000) (hk2:∀ p∈T.O.recs,p.2.kind≠2)
 (hBb:base≤B) {M:Nat→Prop} {Post:Nat→World→World→Prop} (hMb:∀ k,M k→base≤k) (hM:∀ k,M k→k < W.heap.size∧k≠B∧¬ T.foot k∧¬ P.foot k)
 (hall:∀ (w:World) (b7:Nat),Mod (fun k=>k=B∨P.foot k) W w→W.heap.size≤b7→w.heap[b7]?=some (.cells #[.pointer (some ⟨T.O.blk,0,none⟩),.pointer (some ⟨cb,0,none⟩),.pointer (some ⟨kb,0,none⟩),.int .i64 (T.R.b:Int)] 164 (0,0)) →
  Calls Tryz.prog 18 #[.pointer (some ⟨b7,0,none⟩)] w fun e w'=>∃ n:Int,e=.returned (.tuple #[.int .i64 n,.int .i64 0])∧Post b7 w w'∧Mod (fun k=>M k∨k=b7) w w')
 (hstab:∀ b7 w0 w1 w2 b8 b9,Post b7 w0 w1→W.heap.size≤b8→b8 < w0.heap.size→W.heap.size≤b9→b9 < w0.heap.size→b8≠b7→b9≠b7→Mod (fun k=>k=b8∨k=b9) w1 w2→Post b7 w0 w2) :
 Calls Tryz.prog 37 #[.pointer (some ⟨B,0,none⟩)] W fun e w'=>e=.returned (.int .i64 0)∧∃ b7 b8 b9 w0,w'.heap[B]?=some (.cells #[.pointer (some ⟨T.O.blk,0,none⟩),.pointer (some ⟨cb,0,none⟩),.pointer (some ⟨kb,0,none⟩),v3,v4,.pointer (some ⟨tb,0,none⟩),.pointer (some ⟨P.blk,0,none⟩),.pointer (some ⟨b7,0,none⟩),.pointer (some ⟨b8,0,none⟩),.pointer (some ⟨b9,0,none⟩),.pointer (some ⟨T.D.blk,0,none⟩),now] 47 (0,0))∧TapeAt base w' T∧PendAt base w' { P with all:=notesP T.O.recs P.all } ∧
  Post b7 w0 w'∧W.heap.size≤b7∧b7 < w0.heap.size∧Mod (fun k=>k=B∨P.foot k∨M k) W w':=by
 have HLD:=Lib.hid (TopW.loaded_none W h.whole.dsk hq.up hn)
 have hss:(T.O.recs.map (·.1)).Pairwise (· < ·):=by rw [h.recs]; exact (recs_sorted h.fits).2
 have hp0:TapeW.placeL T.O.recs 0=0:=by
  unfold TapeW.placeL idI
  rw [List.countP_eq_zero]
  intro i hi
  obtain ⟨y,hy,rfl⟩:=List.mem_map.1 hi
  simp
 have HID:Hid (∀ w,Below W.heap.size W w→Calls Tryz.prog 11 #[.pointer (some ⟨T.O.blk,0,none⟩),.int .i64 0] w fun e w'=>∃ v,e=.returned v∧w'.ownsRow w.heap.size 3 1 v T.O.recs.length (idsL T.O.recs)∧Below w.heap.size w w'):=fun w hb=>ids_any 0 w (h.own.below hb) hss (by omega) hp0
 have c10:=cell_at hB 10 _ rfl
 have HB:=Lib.hid hB
 have HH:=Lib.hid h
 have HP:=Lib.hid hP
 have HAW:=Lib.hid haw
 have HTB:=Lib.hid hT
 have HBS:=Lib.hid hbase
 have HQ:=Lib.hid hq
 have HL:=Lib.hid hl
 have HK2:=Lib.hid hk2
 have HM:=Lib.hid hM
 have HALL:=Lib.hid hall
 have HMB:=Lib.hid hMb
 have HBB:=Lib.hid hBb
 have HSTAB:=Lib.hid hstab
 have hBl:=(Array.getElem?_eq_some_iff.1 hB).1
 clear hMb hBb hB h hP haw hT hbase hq hn hl hk2 hM hall hstab hss hp0
 go_enter Tryz.func37,Tryz.ntmps37
 go_wp2_with fail
 refine HLD.out.mono ?_
 rintro e w2 ⟨rfl,hb⟩
 have HB2:Hid (Below W.heap.size W (w2.alloc (.cells #[.int .i64 0,.slice none 0 0] 140))):=hb.alloc hb.size _
 clear hb HLD c10
 go_wp2_with fail
 generalize w2.alloc (.cells #[.int .i64 0,.slice none 0 0] 140)=w3 at *
 obtain ⟨wo,hwo⟩:∃ wo:World,wo=w3:=⟨_,rfl⟩
 go_loopw [30] (fun i wr=>wr=wo∧i=.int .i64 0) (fun _ _=>0)
 case atStart=>exact ⟨hwo.symm,rfl⟩
 case round =>
  obtain ⟨rfl,rfl⟩:=hrel
  subst hwo
  obtain ⟨wA,rfl⟩:∃ wA:World,wA=wr:=⟨_,rfl⟩
  have c0:wA.cell? ⟨B,0,none⟩=some (.pointer (some ⟨T.O.blk,0,none⟩)):=cell_at ((HB2.out.block B hBl).trans HB.out) 0 _ rfl
  have HI:=Lib.hid (HID.out wA HB2.out)
  clear HID
  go_wp2_with fail
  refine HI.out.mono ?_
  rintro e w4 ⟨idv,rfl,hrow,hb4⟩
  obtain ⟨ia,ic,hiv⟩:=own_slice hrow
  have HROW:=Lib.hid hrow
  have HB4:Hid (Below W.heap.size W w4):=HB2.out.trans (hb4.mono HB2.out.size)
  have HIV:=Lib.hid hiv
  rw [hiv]
  clear hrow hb4 HI c0 hiv
  go_wp2_with fail
  generalize w2.heap.size=g2 at *
  go_loopw [55] (fun i wl=>∃ k:Nat,k≤T.O.recs.length∧i=.int .i64 (k:Int)∧Hid (PendAt base wl { P with all:=notesP (T.O.recs.take k) P.all }∧Mod P.foot w4 wl)) (fun i _=>T.O.recs.length - (intOf i).toNat)
  case atStart=>exact ⟨0,Nat.zero_le _,rfl,HP.out.below HB4.out,Mod.refl _ _⟩
  case round =>
   obtain ⟨k,hk,rfl,HS⟩:=hrel
   have hl:=HL.out
   have hmw:Mod P.foot W wr:=(Mod.of_below (M:=P.foot) HB4.out).trans HS.out.2
   have HMW:=Lib.hid hmw
   have hTr:TapeAt base wr T:=HH.out.mod hmw (fun j hj=>(HAW.out.1 j hj).2)
   have HTR:=Lib.hid hTr
   have hBr:wr.heap[B]?=_:=(hmw.block B hBl (fun h2=>HAW.out.2 B h2 rfl)).trans HB.out
   have HBR:=Lib.hid hBr
   have c0:wr.cell? ⟨B,0,none⟩=some (.pointer (some ⟨T.O.blk,0,none⟩)):=cell_at hBr 0 _ rfl
   clear hBr hmw
   by_cases hlt:k < T.O.recs.length
   ·
    obtain ⟨g,cap,hgv,hgc,hcell⟩:=own_cell (SegW.ownsRow_mod HROW.out HS.out.2 (fun j hj h2=>by have h3:=ownBlock_of_own HROW.out j hj; have h4:=HP.out.lt h2; have:=HB2.out.size; omega)) k hlt (.int .i64 (T.O.recs[k].1:Int)) (by unfold idsL; rw [List.getElem?_map,List.getElem?_eq_getElem hlt]; rfl)
    rw [HIV.out] at hgv
    injection hgv with e1 e2 e3
    subst e1 e3
    obtain ⟨⟨id,m⟩,hid⟩:∃ p,p=T.O.recs[k]:=⟨_,rfl⟩
    have hmem:(id,m)∈T.O.recs:=by rw [hid]; exact List.getElem_mem hlt
    rw [← hid] at hcell
    have hid1:T.O.recs[k].1=id:=by rw [← hid]
    have hid2:T.O.recs[k].2=m:=by rw [← hid]
    have HTK:Hid (notesP (T.O.recs.take (k+1)) P.all=noteP (notesP (T.O.recs.take k) P.all) (id:Int) m):=by
     show _=_
     rw [notesP_take hlt,hid1,hid2]
    have HRD:=Lib.hid (tread_any id m wr hTr HQ.out.up (HTB.out.mod HMW.out (fun j hj=>hj.elim (fun e=>e ▸ HP.out.low.1) fun e=>e ▸ HP.out.low.2)) (Nat.le_trans HBS.out HMW.out.size) hmem)
    have hcell':wr.cell? ⟨g,k,none⟩=some (.int .i64 (id:Int)):=hcell
    clear hid hcell hid1 hid2 hmem hTr
    generalize notesP (T.O.recs.take k) P.all=al at *
    generalize hnl:T.O.recs.length=nl at *
    go_wp2_with fail
    refine HRD.out.mono ?_
    rintro e w5 ⟨a,c,rfl,hst,hb5,_⟩
    rw [show cellsM m a c=#[.int .i64 m.kind,.int .i64 m.queue,.int .i64 m.due,.int .i64 m.retry,.int .i64 m.ref,.int .i64 m.born,.string (S m.topic),.string (S m.tag),.string (S m.body),.slice a m.keys.length c] from rfl]
    have HB5:=Lib.hid hb5
    clear HRD hb5 hst c0 hcell'
    go_wp2_with fail
    have hb6:Below wr.heap.size wr (w5.alloc (.cells #[.int .i64 m.kind,.int .i64 m.queue,.int .i64 m.due,.int .i64 m.retry,.int .i64 m.ref,.int .i64 m.born,.string (S m.topic),.string (S m.tag),.string (S m.body),.slice a m.keys.length c] 53)):=HB5.out.alloc HB5.out.size _
    have HX6:Hid (RecW.Boxed (w5.alloc (.cells #[.int .i64 m.kind,.int .i64 m.queue,.int .i64 m.due,.int .i64 m.retry,.int .i64 m.ref,.int .i64 m.born,.string (S m.topic),.string (S m.tag),.string (S m.body),.slice a m.keys.length c] 53)) w5.heap.size #[.int .i64 m.kind,.int .i64 m.queue,.int .i64 m.due,.int .i64 m.retry,.int .i64 m.ref,.int .i64 m.born,.string (S m.topic),.string (S m.tag),.string (S m.body),.slice a m.keys.length c]):=RecW.Boxed.new w5 _ _
    generalize w5.alloc (.cells #[.int .i64 m.kind,.int .i64 m.queue,.int .i64 m.due,.int .i64 m.retry,.int .i64 m.ref,.int .i64 m.born,.string (S m.topic),.string (S m.tag),.string (S m.body),.slice a m.keys.length c] 53)=w6 at *
    generalize w5.heap.size=A at *
    have HB6:=Lib.hid hb6
    have d6:w6.cell? ⟨B,6,none⟩=some (.pointer (some ⟨P.blk,0,none⟩)):=by
     rw [hb6.cell (Array.getElem?_eq_some_iff.1 HBR.out).1]; exact cell_at HBR.out 6 _ rfl
    have HNT:=Lib.hid (note_any (id:Int) m a c w6.drew ((HS.out.1.below hb6).below ((Below.refl _ w6).drew)))
    rw [show cellsM m a c=#[.int .i64 m.kind,.int .i64 m.queue,.int .i64 m.due,.int .i64 m.retry,.int .i64 m.ref,.int .i64 m.born,.string (S m.topic),.string (S m.tag),.string (S m.body),.slice a m.keys.length c] from rfl] at HNT
    obtain ⟨k0,k1,k2,k3,k4,k5,k6,k7,k8,k9⟩:=RecW.ten_cells HX6.out
    clear hb6
    refine GrowM.wp_region_s (by kernel_rfl) ?_
    refine GrowM.st_grow 6 [none,none,none,none,none,none] (fun u v=>v=u) (by kernel_rfl) (by kernel_rfl) (fun _=>rfl) (fun _ _ _ h k=>k.trans h) ?_ ?_
    · exact GrowN.stab0 rfl
    simp only [List.take_succ_cons,List.take_zero,List.drop_succ_cons,List.drop_zero,Nat.reduceSub]
    iterate 6
     refine GrowN.g_det rfl ?_
     apply Exists.intro
     refine ⟨fun w hw hF=>?_,?_⟩
     · obtain rfl:=hw.symm
       clear hF
       go_simp
       first | exact rfl | exact ⟨rfl,rfl⟩
     go_frame
    refine GrowN.g_nil fun wz hwz hF=>?_
    obtain rfl:=hwz.symm
    clear hF
    refine GrowM.st_call (fun v w'=>PendAt base w' { P with all:=noteP al (id:Int) m }∧Mod (fun k=>k=P.mB) w6.drew w') (by kernel_rfl) rfl rfl ?_ ?_
    · go_simp
      refine HNT.out.mono ?_
      rintro e w' ⟨v,rfl,hb⟩
      first | exact ⟨⟨_,rfl⟩,hb⟩ | exact ⟨_,hb⟩
    rintro v w7 hb
    go_frame
    refine GrowM.st_end rfl ?_
    have HP7:=Lib.hid hb
    clear hb HNT k0 k1 k2 k3 k4 k5 k6 k7 k8 k9 d6
    go_wp2_with fail
    go_roundw
    case rel =>
     refine ⟨k+1,by omega,by go_num,?_,?_⟩
     · rw [HTK.out]; exact HP7.out.1
     · exact (HS.out.2.trans (Mod.of_below (M:=P.foot) (HB6.out.drew))).trans (HP7.out.2.mono fun j _ e=>.inr e)
    case measure=>simp [intOf]; omega
   ·
    have hkn:k=T.O.recs.length:=by omega
    subst hkn
    rw [List.take_length] at HS
    have HM0:Hid (Mod (fun k=>k=B∨P.foot k) W wr):=HMW.out.mono fun k _ e=>.inr e
    have HPW:Hid (PendAt base wr { P with all:=notesP T.O.recs P.all }):=HS.out.1
    clear HS HROW HIV c0
    have hBl19:B < wr.heap.size:=(Array.getElem?_eq_some_iff.1 HBR.out).1
    have HCC:Hid (∀ w,OnceG B wr.heap.size (fun b=>.cells #[.pointer (some ⟨T.O.blk,0,none⟩),.pointer (some ⟨cb,0,none⟩),.pointer (some ⟨kb,0,none⟩),v3,v4,.pointer (some ⟨tb,0,none⟩),.pointer (some ⟨P.blk,0,none⟩),.pointer (some ⟨b,0,none⟩),.pointer none,.pointer none,.pointer (some ⟨T.D.blk,0,none⟩),now] 47 (0,0)) (.cells #[.pointer (some ⟨T.O.blk,0,none⟩),.pointer (some ⟨cb,0,none⟩),.pointer (some ⟨kb,0,none⟩),.int .i64 (T.R.b:Int)] 164 (0,0)) wr.drew w→w.cell? ⟨B,0,none⟩=some (.pointer (some ⟨T.O.blk,0,none⟩))∧w.cell? ⟨B,1,none⟩=some (.pointer (some ⟨cb,0,none⟩))∧w.cell? ⟨B,2,none⟩=some (.pointer (some ⟨kb,0,none⟩))):=fun w hw=>by
     rcases hw.2 with e | ⟨b,e,_⟩
     · have hb:=e.trans (show wr.drew.heap[B]?=_ from HBR.out)
       exact ⟨cell_at hb 0 _ rfl,cell_at hb 1 _ rfl,cell_at hb 2 _ rfl⟩
     · exact ⟨cell_at e 0 _ rfl,cell_at e 1 _ rfl,cell_at e 2 _ rfl⟩
    have HNEW:Hid (∀ w,OnceG B wr.heap.size (fun b=>.cells #[.pointer (some ⟨T.O.blk,0,none⟩),.pointer (some ⟨cb,0,none⟩),.pointer (some ⟨kb,0,none⟩),v3,v4,.pointer (some ⟨tb,0,none⟩),.pointer (some ⟨P.blk,0,none⟩),.pointer (some ⟨b,0,none⟩),.pointer none,.pointer none,.pointer (some ⟨T.D.blk,0,none⟩),now] 47 (0,0)) (.cells #[.pointer (some ⟨T.O.blk,0,none⟩),.pointer (some ⟨cb,0,none⟩),.pointer (some ⟨kb,0,none⟩),.int .i64 (T.R.b:Int)] 164 (0,0)) wr.drew w→Calls Tryz.prog 72 #[.pointer (some ⟨T.O.blk,0,none⟩),.pointer (some ⟨cb,0,none⟩),.pointer (some ⟨kb,0,none⟩)] w fun e w'=>∃ b,e=.returned (.tuple #[.pointer (some ⟨b,0,none⟩),.int .i64 0])∧w'.heap[b]?=some (.cells #[.pointer (some ⟨T.O.blk,0,none⟩),.pointer (some ⟨cb,0,none⟩),.pointer (some ⟨kb,0,none⟩),.int .i64 (T.R.b:Int)] 164 (0,0))∧wr.heap.size≤b∧OnceG B wr.heap.size (fun b=>.cells #[.pointer (some ⟨T.O.blk,0,none⟩),.pointer (some ⟨cb,0,none⟩),.pointer (some ⟨kb,0,none⟩),v3,v4,.pointer (some ⟨tb,0,none⟩),.pointer (some ⟨P.blk,0,none⟩),.pointer (some ⟨b,0,none⟩),.pointer none,.pointer none,.pointer (some ⟨T.D.blk,0,none⟩),now] 47 (0,0)) (.cells #[.pointer (some ⟨T.O.blk,0,none⟩),.pointer (some ⟨cb,0,none⟩),.pointer (some ⟨kb,0,none⟩),.int .i64 (T.R.b:Int)] 164 (0,0)) w w'):=fun w hw =>
     (dispnew_any cb kb w ((HTR.out.below ((Below.refl _ wr).drew)).mod hw.1 (fun j hj=>(HAW.out.1 j hj).1))).mono fun e w' ⟨b,h1,h2⟩=>⟨b,h1,h2.cells,Nat.le_trans hw.1.size h2.new,OnceG.below h2.below (Nat.lt_of_lt_of_le hBl19 hw.1.size)⟩
    go_upto_region 19 with fail
    refine GrowN.wp_region_n 20 [none,none,none,none,none,none,none,none,none,none,none,none,none,some (.inr (fun _=>YT wr.heap.size (.cells #[.pointer (some ⟨T.O.blk,0,none⟩),.pointer (some ⟨cb,0,none⟩),.pointer (some ⟨kb,0,none⟩),.int .i64 (T.R.b:Int)] 164 (0,0)))),some (.inr (fun _=>YT wr.heap.size (.cells #[.pointer (some ⟨T.O.blk,0,none⟩),.pointer (some ⟨cb,0,none⟩),.pointer (some ⟨kb,0,none⟩),.int .i64 (T.R.b:Int)] 164 (0,0)))),some (.inr (fun _=>YP wr.heap.size (.cells #[.pointer (some ⟨T.O.blk,0,none⟩),.pointer (some ⟨cb,0,none⟩),.pointer (some ⟨kb,0,none⟩),.int .i64 (T.R.b:Int)] 164 (0,0)))),some (.inl (.int .i64 0)),none,none,some (.inr (fun _ _=>YS B wr.heap.size (fun b=>.cells #[.pointer (some ⟨T.O.blk,0,none⟩),.pointer (some ⟨cb,0,none⟩),.pointer (some ⟨kb,0,none⟩),v3,v4,.pointer (some ⟨tb,0,none⟩),.pointer (some ⟨P.blk,0,none⟩),.pointer (some ⟨b,0,none⟩),.pointer none,.pointer none,.pointer (some ⟨T.D.blk,0,none⟩),now] 47 (0,0)) (.cells #[.pointer (some ⟨T.O.blk,0,none⟩),.pointer (some ⟨cb,0,none⟩),.pointer (some ⟨kb,0,none⟩),.int .i64 (T.R.b:Int)] 164 (0,0))))] (OnceG B wr.heap.size (fun b=>.cells #[.pointer (some ⟨T.O.blk,0,none⟩),.pointer (some ⟨cb,0,none⟩),.pointer (some ⟨kb,0,none⟩),v3,v4,.pointer (some ⟨tb,0,none⟩),.pointer (some ⟨P.blk,0,none⟩),.pointer (some ⟨b,0,none⟩),.pointer none,.pointer none,.pointer (some ⟨T.D.blk,0,none⟩),now] 47 (0,0)) (.cells #[.pointer (some ⟨T.O.blk,0,none⟩),.pointer (some ⟨cb,0,none⟩),.pointer (some ⟨kb,0,none⟩),.int .i64 (T.R.b:Int)] 164 (0,0))) (by kernel_rfl) (by kernel_rfl) (by kernel_rfl) (OnceG.refl _ _ _ _) (fun _ _ _=>OnceG.trans hBl19) ?_ ?_
    · intro K hK Y hY l v w w' hR
      simp only [List.mem_cons,List.not_mem_nil,or_false] at hK
      rcases hK with rfl | rfl | rfl | rfl | rfl | rfl | rfl | rfl | rfl | rfl | rfl | rfl | rfl | rfl | rfl | rfl | rfl | rfl | rfl | rfl <;> simp only [reduceCtorEq,Option.some.injEq,Sum.inr.injEq] at hY
      iterate 3
       · subst hY; exact fun ⟨b,h1,h2,h3⟩=>⟨b,h1,OnceG.keep hBl19 hR h3 h2,h3⟩
      · subst hY; exact fun ⟨b,h1,h2,h3⟩=>hR.2.elim (fun e=>⟨b,e.trans h1,OnceG.keep hBl19 hR h3 h2,h3⟩) fun h=>h
    simp only [List.take_succ_cons,List.take_zero,List.drop_succ_cons,List.drop_zero]
    iterate 4
     refine GrowN.g_det rfl ?_
     apply Exists.intro
     refine ⟨fun w hw hF=>?_,?_⟩
     · clear hF
       go_simp
       exact ⟨rfl,OnceG.refl _ _ _ _ _⟩
     go_frame
    iterate 2
     refine GrowN.g_det rfl ?_
     apply Exists.intro
     refine ⟨fun w hw hF=>?_,?_⟩
     · clear hF
       have hc:=(HCC.out w hw)
       obtain ⟨e0,e1,e2⟩:=hc
       go_simp
       exact ⟨rfl,OnceG.refl _ _ _ _ _⟩
     go_frame
     refine GrowN.g_det rfl ?_
     apply Exists.intro
     refine ⟨fun w hw hF=>?_,?_⟩
     · clear hF
       go_simp
       exact ⟨rfl,OnceG.refl _ _ _ _ _⟩
     go_frame
     refine GrowN.g_det rfl ?_
     apply Exists.intro
     refine ⟨fun w hw hF=>?_,?_⟩
     · clear hF
       go_simp
       exact ⟨rfl,OnceG.refl _ _ _ _ _⟩
     go_frame
     refine GrowN.g_det rfl ?_
     apply Exists.intro
     refine ⟨fun w hw hF=>?_,?_⟩
     · clear hF
       go_simp
       exact ⟨rfl,OnceG.refl _ _ _ _ _⟩
     go_frame
    refine GrowN.g_det rfl ?_
    apply Exists.intro
    refine ⟨fun w hw hF=>?_,?_⟩
    · clear hF
      have hc:=(HCC.out w hw)
      obtain ⟨e0,e1,e2⟩:=hc
      go_simp
      exact ⟨rfl,OnceG.refl _ _ _ _ _⟩
    go_frame
    refine GrowN.g_new rfl (fun w hw hF=>?_) (fun v13=>?_)
    · clear hF
      go_simp
      exact (HNEW.out w hw).mono fun e w' ⟨b,h1,h2,h3,h4⟩=>⟨_,h1,⟨b,rfl,h2,h3⟩,h4⟩
    go_frame
    refine GrowN.g_new rfl (fun w hw hF=>?_) (fun v14=>?_)
    · skip
      obtain ⟨b,rfl,h2,h3⟩:=hF _ (.head _) (by kernel_rfl)
      clear hF
      go_simp
      exact ⟨⟨b,rfl,h2,h3⟩,OnceG.refl _ _ _ _ _⟩
    go_frame
    refine GrowN.g_new rfl (fun w hw hF=>?_) (fun v15=>?_)
    · skip
      obtain ⟨b,rfl,h2,h3⟩:=hF _ (.head _) (by kernel_rfl)
      clear hF
      go_simp
      exact ⟨⟨b,rfl,h2,h3⟩,OnceG.refl _ _ _ _ _⟩
    go_frame
    refine GrowN.g_con rfl (fun w hw hF=>?_) ?_
    · obtain ⟨b,rfl,h2,h3⟩:=hF _ (.tail _ (.head _)) (by kernel_rfl)
      clear hF
      go_simp
      exact OnceG.refl _ _ _ _ _
    iterate 2
     go_frame
     refine GrowN.g_det rfl ?_
     apply Exists.intro
     refine ⟨fun w hw hF=>?_,?_⟩
     · clear hF
       go_simp
       exact ⟨rfl,OnceG.refl _ _ _ _ _⟩
    go_frame
    refine GrowN.g_new rfl (fun w hw hF=>?_) (fun vS=>?_)
    ·
     obtain ⟨b,rfl,h2,h3⟩:=hF _ (.head _) (by kernel_rfl)
     clear hF
     rcases hw.2 with e | ⟨b',e,_⟩
     · have hBw:=e.trans (show wr.drew.heap[B]?=_ from HBR.out)
       have fz:=frozen_at hBw 7
       have dz:=cell_at hBw 7 _ rfl
       go_simp
       have hs:=heap_setCell_same w B 7 _ _ (.pointer (some ⟨b,0,none⟩)) hBw
       have hm:Mod (fun k=>k=B) w (w.setCell ⟨B,7,none⟩ (.pointer (some ⟨b,0,none⟩))):=(Mod.refl (fun k=>k=B) w).setCell (.inl rfl) _
       exact ⟨⟨b,hs,heap_mod hm h2 (by omega),h3⟩,hm,.inr ⟨b,hs,heap_mod hm h2 (by omega),h3⟩⟩
     · have hBw:=e
       have fz:=frozen_at hBw 7
       have dz:=cell_at hBw 7 _ rfl
       go_simp
       have hs:=heap_setCell_same w B 7 _ _ (.pointer (some ⟨b,0,none⟩)) hBw
       have hm:Mod (fun k=>k=B) w (w.setCell ⟨B,7,none⟩ (.pointer (some ⟨b,0,none⟩))):=(Mod.refl (fun k=>k=B) w).setCell (.inl rfl) _
       exact ⟨⟨b,hs,heap_mod hm h2 (by omega),h3⟩,hm,.inr ⟨b,hs,heap_mod hm h2 (by omega),h3⟩⟩
    go_frame
    refine GrowN.g_nil fun w19 hwz hF=>?_
    obtain ⟨b7,hBw19,hNb7,hnb7⟩:=hF _ (.head _)
    clear hF
    have hmw19:Mod (fun k=>k=B) wr w19:=(Mod.of_below (M:=fun k=>k=B) ((Below.refl wr.heap.size wr).drew)).trans hwz.1
    have HMZw19:=Lib.hid hmw19
    have HNCb7:=Lib.hid hNb7
    have HNNb7:=Lib.hid hnb7
    have HM19:Hid (Mod (fun k=>k=B∨P.foot k) W w19):=HM0.out.trans (hmw19.mono fun k _ e=>.inl e)
    have HB19:Hid (w19.heap[B]?=_):=hBw19
    have HT19:Hid (TapeAt base w19 T):=HTR.out.mod hmw19 (fun j hj=>(HAW.out.1 j hj).1)
    have HP19:Hid (PendAt base w19 { P with all:=notesP T.O.recs P.all }):=HPW.out.mod hmw19 (fun j hj=>HAW.out.2 j hj)
    have HG7:Hid (W.heap.size≤b7):=Nat.le_trans HM0.out.size hnb7
    clear hwz hBw19 hmw19 hNb7 hnb7 HCC HNEW vS
    have hBl20:B < w19.heap.size:=(Array.getElem?_eq_some_iff.1 HB19.out).1
    have HCC:Hid (∀ w,OnceG B w19.heap.size (fun b=>.cells #[.pointer (some ⟨T.O.blk,0,none⟩),.pointer (some ⟨cb,0,none⟩),.pointer (some ⟨kb,0,none⟩),v3,v4,.pointer (some ⟨tb,0,none⟩),.pointer (some ⟨P.blk,0,none⟩),.pointer (some ⟨b7,0,none⟩),.pointer (some ⟨b,0,none⟩),.pointer none,.pointer (some ⟨T.D.blk,0,none⟩),now] 47 (0,0)) (.cells #[.pointer (some ⟨T.O.blk,0,none⟩),.pointer (some ⟨P.blk,0,none⟩),.pointer (some ⟨tb,0,none⟩),.int .i64 (T.R.b:Int),.slice none 0 0] 229 (0,0)) w19.drew w→w.cell? ⟨B,0,none⟩=some (.pointer (some ⟨T.O.blk,0,none⟩))∧w.cell? ⟨B,6,none⟩=some (.pointer (some ⟨P.blk,0,none⟩))∧w.cell? ⟨B,5,none⟩=some (.pointer (some ⟨tb,0,none⟩))):=fun w hw=>by
     rcases hw.2 with e | ⟨b,e,_⟩
     · have hb:=e.trans (show w19.drew.heap[B]?=_ from HB19.out)
       exact ⟨cell_at hb 0 _ rfl,cell_at hb 6 _ rfl,cell_at hb 5 _ rfl⟩
     · exact ⟨cell_at e 0 _ rfl,cell_at e 6 _ rfl,cell_at e 5 _ rfl⟩
    have HNEW:Hid (∀ w,OnceG B w19.heap.size (fun b=>.cells #[.pointer (some ⟨T.O.blk,0,none⟩),.pointer (some ⟨cb,0,none⟩),.pointer (some ⟨kb,0,none⟩),v3,v4,.pointer (some ⟨tb,0,none⟩),.pointer (some ⟨P.blk,0,none⟩),.pointer (some ⟨b7,0,none⟩),.pointer (some ⟨b,0,none⟩),.pointer none,.pointer (some ⟨T.D.blk,0,none⟩),now] 47 (0,0)) (.cells #[.pointer (some ⟨T.O.blk,0,none⟩),.pointer (some ⟨P.blk,0,none⟩),.pointer (some ⟨tb,0,none⟩),.int .i64 (T.R.b:Int),.slice none 0 0] 229 (0,0)) w19.drew w→Calls Tryz.prog 73 #[.pointer (some ⟨T.O.blk,0,none⟩),.pointer (some ⟨P.blk,0,none⟩),.pointer (some ⟨tb,0,none⟩)] w fun e w'=>∃ b,e=.returned (.tuple #[.pointer (some ⟨b,0,none⟩),.int .i64 0])∧w'.heap[b]?=some (.cells #[.pointer (some ⟨T.O.blk,0,none⟩),.pointer (some ⟨P.blk,0,none⟩),.pointer (some ⟨tb,0,none⟩),.int .i64 (T.R.b:Int),.slice none 0 0] 229 (0,0))∧w19.heap.size≤b∧OnceG B w19.heap.size (fun b=>.cells #[.pointer (some ⟨T.O.blk,0,none⟩),.pointer (some ⟨cb,0,none⟩),.pointer (some ⟨kb,0,none⟩),v3,v4,.pointer (some ⟨tb,0,none⟩),.pointer (some ⟨P.blk,0,none⟩),.pointer (some ⟨b7,0,none⟩),.pointer (some ⟨b,0,none⟩),.pointer none,.pointer (some ⟨T.D.blk,0,none⟩),now] 47 (0,0)) (.cells #[.pointer (some ⟨T.O.blk,0,none⟩),.pointer (some ⟨P.blk,0,none⟩),.pointer (some ⟨tb,0,none⟩),.int .i64 (T.R.b:Int),.slice none 0 0] 229 (0,0)) w w'):=fun w hw =>
     (enqnew_any P.blk tb w ((HT19.out.below ((Below.refl _ w19).drew)).mod hw.1 (fun j hj=>(HAW.out.1 j hj).1))).mono fun e w' ⟨b,h1,h2⟩=>⟨b,h1,h2.cells,Nat.le_trans hw.1.size h2.new,OnceG.below h2.below (Nat.lt_of_lt_of_le hBl20 hw.1.size)⟩
    go_upto_region 20 with fail
    refine GrowN.wp_region_n 20 [none,none,none,none,none,none,none,none,none,none,none,none,none,some (.inr (fun _=>YT w19.heap.size (.cells #[.pointer (some ⟨T.O.blk,0,none⟩),.pointer (some ⟨P.blk,0,none⟩),.pointer (some ⟨tb,0,none⟩),.int .i64 (T.R.b:Int),.slice none 0 0] 229 (0,0)))),some (.inr (fun _=>YT w19.heap.size (.cells #[.pointer (some ⟨T.O.blk,0,none⟩),.pointer (some ⟨P.blk,0,none⟩),.pointer (some ⟨tb,0,none⟩),.int .i64 (T.R.b:Int),.slice none 0 0] 229 (0,0)))),some (.inr (fun _=>YP w19.heap.size (.cells #[.pointer (some ⟨T.O.blk,0,none⟩),.pointer (some ⟨P.blk,0,none⟩),.pointer (some ⟨tb,0,none⟩),.int .i64 (T.R.b:Int),.slice none 0 0] 229 (0,0)))),some (.inl (.int .i64 0)),none,none,some (.inr (fun _ _=>YS B w19.heap.size (fun b=>.cells #[.pointer (some ⟨T.O.blk,0,none⟩),.pointer (some ⟨cb,0,none⟩),.pointer (some ⟨kb,0,none⟩),v3,v4,.pointer (some ⟨tb,0,none⟩),.pointer (some ⟨P.blk,0,none⟩),.pointer (some ⟨b7,0,none⟩),.pointer (some ⟨b,0,none⟩),.pointer none,.pointer (some ⟨T.D.blk,0,none⟩),now] 47 (0,0)) (.cells #[.pointer (some ⟨T.O.blk,0,none⟩),.pointer (some ⟨P.blk,0,none⟩),.pointer (some ⟨tb,0,none⟩),.int .i64 (T.R.b:Int),.slice none 0 0] 229 (0,0))))] (OnceG B w19.heap.size (fun b=>.cells #[.pointer (some ⟨T.O.blk,0,none⟩),.pointer (some ⟨cb,0,none⟩),.pointer (some ⟨kb,0,none⟩),v3,v4,.pointer (some ⟨tb,0,none⟩),.pointer (some ⟨P.blk,0,none⟩),.pointer (some ⟨b7,0,none⟩),.pointer (some ⟨b,0,none⟩),.pointer none,.pointer (some ⟨T.D.blk,0,none⟩),now] 47 (0,0)) (.cells #[.pointer (some ⟨T.O.blk,0,none⟩),.pointer (some ⟨P.blk,0,none⟩),.pointer (some ⟨tb,0,none⟩),.int .i64 (T.R.b:Int),.slice none 0 0] 229 (0,0))) (by kernel_rfl) (by kernel_rfl) (by kernel_rfl) (OnceG.refl _ _ _ _) (fun _ _ _=>OnceG.trans hBl20) ?_ ?_
    · intro K hK Y hY l v w w' hR
      simp only [List.mem_cons,List.not_mem_nil,or_false] at hK
      rcases hK with rfl | rfl | rfl | rfl | rfl | rfl | rfl | rfl | rfl | rfl | rfl | rfl | rfl | rfl | rfl | rfl | rfl | rfl | rfl | rfl <;> simp only [reduceCtorEq,Option.some.injEq,Sum.inr.injEq] at hY
      iterate 3
       · subst hY; exact fun ⟨b,h1,h2,h3⟩=>⟨b,h1,OnceG.keep hBl20 hR h3 h2,h3⟩
      · subst hY; exact fun ⟨b,h1,h2,h3⟩=>hR.2.elim (fun e=>⟨b,e.trans h1,OnceG.keep hBl20 hR h3 h2,h3⟩) fun h=>h
    simp only [List.take_succ_cons,List.take_zero,List.drop_succ_cons,List.drop_zero]
    iterate 4
     refine GrowN.g_det rfl ?_
     apply Exists.intro
     refine ⟨fun w hw hF=>?_,?_⟩
     · clear hF
       go_simp
       exact ⟨rfl,OnceG.refl _ _ _ _ _⟩
     go_frame
    iterate 2
     refine GrowN.g_det rfl ?_
     apply Exists.intro
     refine ⟨fun w hw hF=>?_,?_⟩
     · clear hF
       have hc:=(HCC.out w hw)
       obtain ⟨e0,e6,e5⟩:=hc
       go_simp
       exact ⟨rfl,OnceG.refl _ _ _ _ _⟩
     go_frame
     refine GrowN.g_det rfl ?_
     apply Exists.intro
     refine ⟨fun w hw hF=>?_,?_⟩
     · clear hF
       go_simp
       exact ⟨rfl,OnceG.refl _ _ _ _ _⟩
     go_frame
     refine GrowN.g_det rfl ?_
     apply Exists.intro
     refine ⟨fun w hw hF=>?_,?_⟩
     · clear hF
       go_simp
       exact ⟨rfl,OnceG.refl _ _ _ _ _⟩
     go_frame
     refine GrowN.g_det rfl ?_
     apply Exists.intro
     refine ⟨fun w hw hF=>?_,?_⟩
     · clear hF
       go_simp
       exact ⟨rfl,OnceG.refl _ _ _ _ _⟩
     go_frame
    refine GrowN.g_det rfl ?_
    apply Exists.intro
    refine ⟨fun w hw hF=>?_,?_⟩
    · clear hF
      have hc:=(HCC.out w hw)
      obtain ⟨e0,e6,e5⟩:=hc
      go_simp
      exact ⟨rfl,OnceG.refl _ _ _ _ _⟩
    go_frame
    refine GrowN.g_new rfl (fun w hw hF=>?_) (fun v13=>?_)
    · clear hF
      go_simp
      exact (HNEW.out w hw).mono fun e w' ⟨b,h1,h2,h3,h4⟩=>⟨_,h1,⟨b,rfl,h2,h3⟩,h4⟩
    go_frame
    refine GrowN.g_new rfl (fun w hw hF=>?_) (fun v14=>?_)
    · skip
      obtain ⟨b,rfl,h2,h3⟩:=hF _ (.head _) (by kernel_rfl)
      clear hF
      go_simp
      exact ⟨⟨b,rfl,h2,h3⟩,OnceG.refl _ _ _ _ _⟩
    go_frame
    refine GrowN.g_new rfl (fun w hw hF=>?_) (fun v15=>?_)
    · skip
      obtain ⟨b,rfl,h2,h3⟩:=hF _ (.head _) (by kernel_rfl)
      clear hF
      go_simp
      exact ⟨⟨b,rfl,h2,h3⟩,OnceG.refl _ _ _ _ _⟩
    go_frame
    refine GrowN.g_con rfl (fun w hw hF=>?_) ?_
    · obtain ⟨b,rfl,h2,h3⟩:=hF _ (.tail _ (.head _)) (by kernel_rfl)
      clear hF
      go_simp
      exact OnceG.refl _ _ _ _ _
    iterate 2
     go_frame
     refine GrowN.g_det rfl ?_
     apply Exists.intro
     refine ⟨fun w hw hF=>?_,?_⟩
     · clear hF
       go_simp
       exact ⟨rfl,OnceG.refl _ _ _ _ _⟩
    go_frame
    refine GrowN.g_new rfl (fun w hw hF=>?_) (fun vS=>?_)
    ·
     obtain ⟨b,rfl,h2,h3⟩:=hF _ (.head _) (by kernel_rfl)
     clear hF
     rcases hw.2 with e | ⟨b',e,_⟩
     · have hBw:=e.trans (show w19.drew.heap[B]?=_ from HB19.out)
       have fz:=frozen_at hBw 8
       have dz:=cell_at hBw 8 _ rfl
       go_simp
       have hs:=heap_setCell_same w B 8 _ _ (.pointer (some ⟨b,0,none⟩)) hBw
       have hm:Mod (fun k=>k=B) w (w.setCell ⟨B,8,none⟩ (.pointer (some ⟨b,0,none⟩))):=(Mod.refl (fun k=>k=B) w).setCell (.inl rfl) _
       exact ⟨⟨b,hs,heap_mod hm h2 (by omega),h3⟩,hm,.inr ⟨b,hs,heap_mod hm h2 (by omega),h3⟩⟩
     · have hBw:=e
       have fz:=frozen_at hBw 8
       have dz:=cell_at hBw 8 _ rfl
       go_simp
       have hs:=heap_setCell_same w B 8 _ _ (.pointer (some ⟨b,0,none⟩)) hBw
       have hm:Mod (fun k=>k=B) w (w.setCell ⟨B,8,none⟩ (.pointer (some ⟨b,0,none⟩))):=(Mod.refl (fun k=>k=B) w).setCell (.inl rfl) _
       exact ⟨⟨b,hs,heap_mod hm h2 (by omega),h3⟩,hm,.inr ⟨b,hs,heap_mod hm h2 (by omega),h3⟩⟩
    go_frame
    refine GrowN.g_nil fun w20 hwz hF=>?_
    obtain ⟨b8,hBw20,hNb8,hnb8⟩:=hF _ (.head _)
    clear hF
    have hmw20:Mod (fun k=>k=B) w19 w20:=(Mod.of_below (M:=fun k=>k=B) ((Below.refl w19.heap.size w19).drew)).trans hwz.1
    have HMZw20:=Lib.hid hmw20
    have HNCb8:=Lib.hid hNb8
    have HNNb8:=Lib.hid hnb8
    have HM20:Hid (Mod (fun k=>k=B∨P.foot k) W w20):=HM19.out.trans (hmw20.mono fun k _ e=>.inl e)
    have HB20:Hid (w20.heap[B]?=_):=hBw20
    have HT20:Hid (TapeAt base w20 T):=HT19.out.mod hmw20 (fun j hj=>(HAW.out.1 j hj).1)
    have HP20:Hid (PendAt base w20 { P with all:=notesP T.O.recs P.all }):=HP19.out.mod hmw20 (fun j hj=>HAW.out.2 j hj)
    have HG8:Hid (W.heap.size≤b8):=Nat.le_trans HM19.out.size hnb8
    clear hwz hBw20 hmw20 hNb8 hnb8 HCC HNEW vS
    have hBl21:B < w20.heap.size:=(Array.getElem?_eq_some_iff.1 HB20.out).1
    have HCC:Hid (∀ w,OnceG B w20.heap.size (fun b=>.cells #[.pointer (some ⟨T.O.blk,0,none⟩),.pointer (some ⟨cb,0,none⟩),.pointer (some ⟨kb,0,none⟩),v3,v4,.pointer (some ⟨tb,0,none⟩),.pointer (some ⟨P.blk,0,none⟩),.pointer (some ⟨b7,0,none⟩),.pointer (some ⟨b8,0,none⟩),.pointer (some ⟨b,0,none⟩),.pointer (some ⟨T.D.blk,0,none⟩),now] 47 (0,0)) (.cells #[.pointer (some ⟨T.O.blk,0,none⟩),.pointer (some ⟨P.blk,0,none⟩),.pointer (some ⟨tb,0,none⟩),.slice none 0 0] 231 (0,0)) w20.drew w→w.cell? ⟨B,0,none⟩=some (.pointer (some ⟨T.O.blk,0,none⟩))∧w.cell? ⟨B,6,none⟩=some (.pointer (some ⟨P.blk,0,none⟩))∧w.cell? ⟨B,5,none⟩=some (.pointer (some ⟨tb,0,none⟩))):=fun w hw=>by
     rcases hw.2 with e | ⟨b,e,_⟩
     · have hb:=e.trans (show w20.drew.heap[B]?=_ from HB20.out)
       exact ⟨cell_at hb 0 _ rfl,cell_at hb 6 _ rfl,cell_at hb 5 _ rfl⟩
     · exact ⟨cell_at e 0 _ rfl,cell_at e 6 _ rfl,cell_at e 5 _ rfl⟩
    have HNEW:Hid (∀ w,OnceG B w20.heap.size (fun b=>.cells #[.pointer (some ⟨T.O.blk,0,none⟩),.pointer (some ⟨cb,0,none⟩),.pointer (some ⟨kb,0,none⟩),v3,v4,.pointer (some ⟨tb,0,none⟩),.pointer (some ⟨P.blk,0,none⟩),.pointer (some ⟨b7,0,none⟩),.pointer (some ⟨b8,0,none⟩),.pointer (some ⟨b,0,none⟩),.pointer (some ⟨T.D.blk,0,none⟩),now] 47 (0,0)) (.cells #[.pointer (some ⟨T.O.blk,0,none⟩),.pointer (some ⟨P.blk,0,none⟩),.pointer (some ⟨tb,0,none⟩),.slice none 0 0] 231 (0,0)) w20.drew w→Calls Tryz.prog 74 #[.pointer (some ⟨T.O.blk,0,none⟩),.pointer (some ⟨P.blk,0,none⟩),.pointer (some ⟨tb,0,none⟩)] w fun e w'=>∃ b,e=.returned (.tuple #[.pointer (some ⟨b,0,none⟩),.int .i64 0])∧w'.heap[b]?=some (.cells #[.pointer (some ⟨T.O.blk,0,none⟩),.pointer (some ⟨P.blk,0,none⟩),.pointer (some ⟨tb,0,none⟩),.slice none 0 0] 231 (0,0))∧w20.heap.size≤b∧OnceG B w20.heap.size (fun b=>.cells #[.pointer (some ⟨T.O.blk,0,none⟩),.pointer (some ⟨cb,0,none⟩),.pointer (some ⟨kb,0,none⟩),v3,v4,.pointer (some ⟨tb,0,none⟩),.pointer (some ⟨P.blk,0,none⟩),.pointer (some ⟨b7,0,none⟩),.pointer (some ⟨b8,0,none⟩),.pointer (some ⟨b,0,none⟩),.pointer (some ⟨T.D.blk,0,none⟩),now] 47 (0,0)) (.cells #[.pointer (some ⟨T.O.blk,0,none⟩),.pointer (some ⟨P.blk,0,none⟩),.pointer (some ⟨tb,0,none⟩),.slice none 0 0] 231 (0,0)) w w'):=fun w hw =>
     (deqnew_any T.O.blk P.blk tb w).mono fun e w' ⟨b,h1,h2⟩=>⟨b,h1,h2.cells,Nat.le_trans hw.1.size h2.new,OnceG.below h2.below (Nat.lt_of_lt_of_le hBl21 hw.1.size)⟩
    go_upto_region 21 with fail
    refine GrowN.wp_region_n 20 [none,none,none,none,none,none,none,none,none,none,none,none,none,some (.inr (fun _=>YT w20.heap.size (.cells #[.pointer (some ⟨T.O.blk,0,none⟩),.pointer (some ⟨P.blk,0,none⟩),.pointer (some ⟨tb,0,none⟩),.slice none 0 0] 231 (0,0)))),some (.inr (fun _=>YT w20.heap.size (.cells #[.pointer (some ⟨T.O.blk,0,none⟩),.pointer (some ⟨P.blk,0,none⟩),.pointer (some ⟨tb,0,none⟩),.slice none 0 0] 231 (0,0)))),some (.inr (fun _=>YP w20.heap.size (.cells #[.pointer (some ⟨T.O.blk,0,none⟩),.pointer (some ⟨P.blk,0,none⟩),.pointer (some ⟨tb,0,none⟩),.slice none 0 0] 231 (0,0)))),some (.inl (.int .i64 0)),none,none,some (.inr (fun _ _=>YS B w20.heap.size (fun b=>.cells #[.pointer (some ⟨T.O.blk,0,none⟩),.pointer (some ⟨cb,0,none⟩),.pointer (some ⟨kb,0,none⟩),v3,v4,.pointer (some ⟨tb,0,none⟩),.pointer (some ⟨P.blk,0,none⟩),.pointer (some ⟨b7,0,none⟩),.pointer (some ⟨b8,0,none⟩),.pointer (some ⟨b,0,none⟩),.pointer (some ⟨T.D.blk,0,none⟩),now] 47 (0,0)) (.cells #[.pointer (some ⟨T.O.blk,0,none⟩),.pointer (some ⟨P.blk,0,none⟩),.pointer (some ⟨tb,0,none⟩),.slice none 0 0] 231 (0,0))))] (OnceG B w20.heap.size (fun b=>.cells #[.pointer (some ⟨T.O.blk,0,none⟩),.pointer (some ⟨cb,0,none⟩),.pointer (some ⟨kb,0,none⟩),v3,v4,.pointer (some ⟨tb,0,none⟩),.pointer (some ⟨P.blk,0,none⟩),.pointer (some ⟨b7,0,none⟩),.pointer (some ⟨b8,0,none⟩),.pointer (some ⟨b,0,none⟩),.pointer (some ⟨T.D.blk,0,none⟩),now] 47 (0,0)) (.cells #[.pointer (some ⟨T.O.blk,0,none⟩),.pointer (some ⟨P.blk,0,none⟩),.pointer (some ⟨tb,0,none⟩),.slice none 0 0] 231 (0,0))) (by kernel_rfl) (by kernel_rfl) (by kernel_rfl) (OnceG.refl _ _ _ _) (fun _ _ _=>OnceG.trans hBl21) ?_ ?_
    · intro K hK Y hY l v w w' hR
      simp only [List.mem_cons,List.not_mem_nil,or_false] at hK
      rcases hK with rfl | rfl | rfl | rfl | rfl | rfl | rfl | rfl | rfl | rfl | rfl | rfl | rfl | rfl | rfl | rfl | rfl | rfl | rfl | rfl <;> simp only [reduceCtorEq,Option.some.injEq,Sum.inr.injEq] at hY
      iterate 3
       · subst hY; exact fun ⟨b,h1,h2,h3⟩=>⟨b,h1,OnceG.keep hBl21 hR h3 h2,h3⟩
      · subst hY; exact fun ⟨b,h1,h2,h3⟩=>hR.2.elim (fun e=>⟨b,e.trans h1,OnceG.keep hBl21 hR h3 h2,h3⟩) fun h=>h
    simp only [List.take_succ_cons,List.take_zero,List.drop_succ_cons,List.drop_zero]
    iterate 4
     refine GrowN.g_det rfl ?_
     apply Exists.intro
     refine ⟨fun w hw hF=>?_,?_⟩
     · clear hF
       go_simp
       exact ⟨rfl,OnceG.refl _ _ _ _ _⟩
     go_frame
    iterate 2
     refine GrowN.g_det rfl ?_
     apply Exists.intro
     refine ⟨fun w hw hF=>?_,?_⟩
     · clear hF
       have hc:=(HCC.out w hw)
       obtain ⟨e0,e6,e5⟩:=hc
       go_simp
       exact ⟨rfl,OnceG.refl _ _ _ _ _⟩
     go_frame
     refine GrowN.g_det rfl ?_
     apply Exists.intro
     refine ⟨fun w hw hF=>?_,?_⟩
     · clear hF
       go_simp
       exact ⟨rfl,OnceG.refl _ _ _ _ _⟩
     go_frame
     refine GrowN.g_det rfl ?_
     apply Exists.intro
     refine ⟨fun w hw hF=>?_,?_⟩
     · clear hF
       go_simp
       exact ⟨rfl,OnceG.refl _ _ _ _ _⟩
     go_frame
     refine GrowN.g_det rfl ?_
     apply Exists.intro
     refine ⟨fun w hw hF=>?_,?_⟩
     · clear hF
       go_simp
       exact ⟨rfl,OnceG.refl _ _ _ _ _⟩
     go_frame
    refine GrowN.g_det rfl ?_
    apply Exists.intro
    refine ⟨fun w hw hF=>?_,?_⟩
    · clear hF
      have hc:=(HCC.out w hw)
      obtain ⟨e0,e6,e5⟩:=hc
      go_simp
      exact ⟨rfl,OnceG.refl _ _ _ _ _⟩
    go_frame
    refine GrowN.g_new rfl (fun w hw hF=>?_) (fun v13=>?_)
    · clear hF
      go_simp
      exact (HNEW.out w hw).mono fun e w' ⟨b,h1,h2,h3,h4⟩=>⟨_,h1,⟨b,rfl,h2,h3⟩,h4⟩
    go_frame
    refine GrowN.g_new rfl (fun w hw hF=>?_) (fun v14=>?_)
    · skip
      obtain ⟨b,rfl,h2,h3⟩:=hF _ (.head _) (by kernel_rfl)
      clear hF
      go_simp
      exact ⟨⟨b,rfl,h2,h3⟩,OnceG.refl _ _ _ _ _⟩
    go_frame
    refine GrowN.g_new rfl (fun w hw hF=>?_) (fun v15=>?_)
    · skip
      obtain ⟨b,rfl,h2,h3⟩:=hF _ (.head _) (by kernel_rfl)
      clear hF
      go_simp
      exact ⟨⟨b,rfl,h2,h3⟩,OnceG.refl _ _ _ _ _⟩
    go_frame
    refine GrowN.g_con rfl (fun w hw hF=>?_) ?_
    · obtain ⟨b,rfl,h2,h3⟩:=hF _ (.tail _ (.head _)) (by kernel_rfl)
      clear hF
      go_simp
      exact OnceG.refl _ _ _ _ _
    iterate 2
     go_frame
     refine GrowN.g_det rfl ?_
     apply Exists.intro
     refine ⟨fun w hw hF=>?_,?_⟩
     · clear hF
       go_simp
       exact ⟨rfl,OnceG.refl _ _ _ _ _⟩
    go_frame
    refine GrowN.g_new rfl (fun w hw hF=>?_) (fun vS=>?_)
    ·
     obtain ⟨b,rfl,h2,h3⟩:=hF _ (.head _) (by kernel_rfl)
     clear hF
     rcases hw.2 with e | ⟨b',e,_⟩
     · have hBw:=e.trans (show w20.drew.heap[B]?=_ from HB20.out)
       have fz:=frozen_at hBw 9
       have dz:=cell_at hBw 9 _ rfl
       go_simp
       have hs:=heap_setCell_same w B 9 _ _ (.pointer (some ⟨b,0,none⟩)) hBw
       have hm:Mod (fun k=>k=B) w (w.setCell ⟨B,9,none⟩ (.pointer (some ⟨b,0,none⟩))):=(Mod.refl (fun k=>k=B) w).setCell (.inl rfl) _
       exact ⟨⟨b,hs,heap_mod hm h2 (by omega),h3⟩,hm,.inr ⟨b,hs,heap_mod hm h2 (by omega),h3⟩⟩
     · have hBw:=e
       have fz:=frozen_at hBw 9
       have dz:=cell_at hBw 9 _ rfl
       go_simp
       have hs:=heap_setCell_same w B 9 _ _ (.pointer (some ⟨b,0,none⟩)) hBw
       have hm:Mod (fun k=>k=B) w (w.setCell ⟨B,9,none⟩ (.pointer (some ⟨b,0,none⟩))):=(Mod.refl (fun k=>k=B) w).setCell (.inl rfl) _
       exact ⟨⟨b,hs,heap_mod hm h2 (by omega),h3⟩,hm,.inr ⟨b,hs,heap_mod hm h2 (by omega),h3⟩⟩
    go_frame
    refine GrowN.g_nil fun w21 hwz hF=>?_
    obtain ⟨b9,hBw21,hNb9,hnb9⟩:=hF _ (.head _)
    clear hF
    have hmw21:Mod (fun k=>k=B) w20 w21:=(Mod.of_below (M:=fun k=>k=B) ((Below.refl w20.heap.size w20).drew)).trans hwz.1
    have HMZw21:=Lib.hid hmw21
    have HNCb9:=Lib.hid hNb9
    have HNNb9:=Lib.hid hnb9
    have HM21:Hid (Mod (fun k=>k=B∨P.foot k) W w21):=HM20.out.trans (hmw21.mono fun k _ e=>.inl e)
    have HB21:Hid (w21.heap[B]?=_):=hBw21
    have HT21:Hid (TapeAt base w21 T):=HT20.out.mod hmw21 (fun j hj=>(HAW.out.1 j hj).1)
    have HP21:Hid (PendAt base w21 { P with all:=notesP T.O.recs P.all }):=HP20.out.mod hmw21 (fun j hj=>HAW.out.2 j hj)
    have HG9:Hid (W.heap.size≤b9):=Nat.le_trans HM20.out.size hnb9
    clear hwz hBw21 hmw21 hNb9 hnb9 HCC HNEW vS
    have hne:∀ b,W.heap.size≤b→b≠B:=fun b hb=>by omega
    have HN7c:Hid (w21.heap[b7]?=_):=heap_mod HMZw21.out (heap_mod HMZw20.out HNCb7.out (hne _ HG7.out)) (hne _ HG7.out)
    have HN8c:Hid (w21.heap[b8]?=_):=heap_mod HMZw21.out HNCb8.out (hne _ HG8.out)
    have HN9c:Hid (w21.heap[b9]?=_):=HNCb9.out
    have HS8:Hid (b8 < w21.heap.size):=(Array.getElem?_eq_some_iff.1 HN8c.out).1
    have HS9:Hid (b9 < w21.heap.size):=(Array.getElem?_eq_some_iff.1 HN9c.out).1
    have h78:b7≠b8:=by have:=HNNb8.out; have:=(Array.getElem?_eq_some_iff.1 HNCb7.out).1; omega
    have h79:b7≠b9:=by have:=HNNb9.out; have:=(Array.getElem?_eq_some_iff.1 HNCb7.out).1; have:=HMZw20.out.size; omega
    have h89:b8≠b9:=by have:=HNNb9.out; have:=(Array.getElem?_eq_some_iff.1 HNCb8.out).1; omega
    have HNE:=Lib.hid (show b7≠b8∧b7≠b9∧b8≠b9 from ⟨h78,h79,h89⟩)
    have HNEB:=Lib.hid hne
    have c7:=cell_at HB21.out 7 _ rfl
    have HA:=Lib.hid (HALL.out w21 b7 HM21.out HG7.out HN7c.out)
    clear hne h78 h79 h89
    go_wp2_with fail
    refine HA.out.mono ?_
    rintro e w22 ⟨n,rfl,hpost,hm22⟩
    have hnB:¬ (M B∨B=b7):=fun h=>h.elim (fun h=>(HM.out B h).2.1 rfl) fun e=>HNEB.out b7 HG7.out e.symm
    have hn8:¬ (M b8∨b8=b7):=fun h=>h.elim (fun h=>by have:=(HM.out b8 h).1; have:=HG8.out; omega) fun e=>HNE.out.1 e.symm
    have hn9:¬ (M b9∨b9=b7):=fun h=>h.elim (fun h=>by have:=(HM.out b9 h).1; have:=HG9.out; omega) fun e=>HNE.out.2.1 e.symm
    have HB22:Hid (w22.heap[B]?=_):=heap_mod hm22 HB21.out hnB
    have HN822:Hid (w22.heap[b8]?=_):=heap_mod hm22 HN8c.out hn8
    have HN922:Hid (w22.heap[b9]?=_):=heap_mod hm22 HN9c.out hn9
    have HT22:Hid (TapeAt base w22 T):=HT21.out.mod hm22 (fun j hj h=>h.elim (fun h=>(HM.out j h).2.2.1 hj) fun e=>by have:=HH.out.lt hj; have:=HG7.out; omega)
    have HP22:Hid (PendAt base w22 { P with all:=notesP T.O.recs P.all }):=HP21.out.mod hm22 (fun j hj h=>h.elim (fun h=>(HM.out j h).2.2.2 hj) fun e=>by have:=HP.out.lt (show P.foot j from hj); have:=HG7.out; omega)
    have HM22:Hid (Mod (fun k=>k=B∨P.foot k∨M k) W w22):=((HM21.out.mono (N:=fun k=>(k=B∨P.foot k∨M k)∨W.heap.size≤k) (fun k _ e=>.inl (e.imp (fun h=>h) fun h=>.inl h))).trans (hm22.mono (fun k _ e=>e.elim (fun h=>.inl (.inr (.inr h))) fun e=>.inr (by have:=HG7.out; omega)))).mono (fun k hk e=>e.elim (fun h=>h) fun h=>by omega)
    have HPST:=Lib.hid hpost
    have hw22:W.heap.size≤w22.heap.size:=HM22.out.size
    have HTB22:Hid (TabB base w22):=HTB.out.mod (M:=fun k=>(k=B∨P.foot k∨M k)∧base≤k) (HM22.out.mono (fun k hk e=>⟨e,e.elim (fun h=>h ▸ HBB.out) fun h=>h.elim (fun h=>h.elim (fun e=>e ▸ HP.out.low.1) fun e=>e ▸ HP.out.low.2) fun h=>HMB.out k h⟩)) (fun k h=>h.2)
    have hrb:0≤(T.R.b:Int)∧(T.R.b:Int)≤200000000:=by
     have h1:=HT22.out.whole.seg.e_le
     have h2:T.R.b≤T.R.e:=by unfold SegD.e; omega
     omega
    have HEA:=Lib.hid (eall_none (B:=b8) _ _ _ _ w22 HT22.out HTB22.out (Nat.le_trans HBS.out hw22) HQ.out.up HN822.out (by have:=HL.out; omega) HK2.out hrb)
    have c8:=cell_at HB22.out 8 _ rfl
    clear hpost hm22 hnB hn8 hn9 hw22 c7 HA HALL
    go_wp2_with fail
    refine HEA.out.mono ?_
    rintro e w23 ⟨rfl,hb23⟩
    have HB23:Hid (w23.heap[B]?=_):=heap_below hb23 HB22.out
    have HN823:Hid (w23.heap[b8]?=_):=heap_below hb23 HN822.out
    have HN923:Hid (w23.heap[b9]?=_):=heap_below hb23 HN922.out
    have HBW23:=Lib.hid hb23
    have d8:=cell_at HB23.out 8 _ rfl
    have d9:=cell_at HB23.out 9 _ rfl
    clear hb23 HEA c8
    go_upto_region 26 with fail
    have hoe:w23.drew.heap[b8]?=_:=HN823.out
    have HLT:Hid (∀ w,Once b8 (.cells #[.pointer (some ⟨T.O.blk,0,none⟩),.pointer (some ⟨P.blk,0,none⟩),.pointer (some ⟨tb,0,none⟩),.int .i64 (T.R.b:Int),.slice none 0 0] 229 (0,0)) w23.drew w→Calls Tryz.prog 77 #[.pointer (some ⟨b8,0,none⟩)] w fun e w'=>e=.returned (.slice none 0 0)∧Once b8 (.cells #[.pointer (some ⟨T.O.blk,0,none⟩),.pointer (some ⟨P.blk,0,none⟩),.pointer (some ⟨tb,0,none⟩),.int .i64 (T.R.b:Int),.slice none 0 0] 229 (0,0)) w w'):=fun w hw =>
     (late_nil w (hw.stays hoe)).mono fun e w' h=>⟨h.1,h.2.2,.inr h.2.1⟩
    have HD9:Hid (∀ w,Once b8 (.cells #[.pointer (some ⟨T.O.blk,0,none⟩),.pointer (some ⟨P.blk,0,none⟩),.pointer (some ⟨tb,0,none⟩),.int .i64 (T.R.b:Int),.slice none 0 0] 229 (0,0)) w23.drew w→w.cell? ⟨B,8,none⟩=some (.pointer (some ⟨b8,0,none⟩))∧w.cell? ⟨B,9,none⟩=some (.pointer (some ⟨b9,0,none⟩))):=fun w hw=>by
     have hBw:=heap_mod hw.1 (show w23.drew.heap[B]?=_ from HB23.out) (fun e=>HNEB.out b8 HG8.out e.symm)
     exact ⟨cell_at hBw 8 _ rfl,cell_at hBw 9 _ rfl⟩
    clear hoe d8 d9
    refine GrowM.wp_region_s (by kernel_rfl) ?_
    refine GrowM.st_grow 9 [none,none,none,none,none,none,none,none,some (.inl (.slice none 0 0))] (Once b8 (.cells #[.pointer (some ⟨T.O.blk,0,none⟩),.pointer (some ⟨P.blk,0,none⟩),.pointer (some ⟨tb,0,none⟩),.int .i64 (T.R.b:Int),.slice none 0 0] 229 (0,0))) (by kernel_rfl) (by kernel_rfl) (Once.refl _ _) (fun _ _ _=>Once.trans) ?_ ?_
    · exact GrowN.stab0 rfl
    simp only [List.take_succ_cons,List.take_zero,List.drop_succ_cons,List.drop_zero,Nat.reduceSub]
    iterate 3
     refine GrowN.g_det rfl ?_
     apply Exists.intro
     refine ⟨fun w hw hF=>?_,?_⟩
     · clear hF
       go_simp
       exact ⟨rfl,Once.refl _ _ _⟩
     go_frame
    refine GrowN.g_det rfl ?_
    apply Exists.intro
    refine ⟨fun w hw hF=>?_,?_⟩
    · clear hF
      have c9:=(HD9.out w hw).2
      go_simp
      exact ⟨rfl,Once.refl _ _ _⟩
    iterate 3
     go_frame
     refine GrowN.g_det rfl ?_
     apply Exists.intro
     refine ⟨fun w hw hF=>?_,?_⟩
     · clear hF
       go_simp
       exact ⟨rfl,Once.refl _ _ _⟩
    go_frame
    refine GrowN.g_det rfl ?_
    apply Exists.intro
    refine ⟨fun w hw hF=>?_,?_⟩
    · clear hF
      have c8:=(HD9.out w hw).1
      go_simp
      exact ⟨rfl,Once.refl _ _ _⟩
    go_frame
    refine GrowN.g_con rfl (fun w hw hF=>?_) ?_
    · clear hF
      go_simp
      exact (HLT.out w hw).mono fun e w' h=>⟨_,h.1,rfl,h.2⟩
    go_frame
    refine GrowN.g_nil fun w24 hw24 hF=>?_
    clear hF
    have HDA:=Lib.hid (dadd_nil w24 (heap_mod hw24.1 (show w23.drew.heap[b9]?=_ from HN923.out) (fun e=>HNE.out.2.2 e.symm)))
    refine GrowM.st_call (fun v w'=>w'.heap[b9]?=some (.cells #[.pointer (some ⟨T.O.blk,0,none⟩),.pointer (some ⟨P.blk,0,none⟩),.pointer (some ⟨tb,0,none⟩),.slice none 0 0] 231 (0,0))∧Mod (fun k=>k=b9) w24 w') (by kernel_rfl) rfl rfl ?_ ?_
    · go_simp
      refine HDA.out.mono ?_
      rintro e w' ⟨v,rfl,hb⟩
      first | exact ⟨⟨_,rfl⟩,hb⟩ | exact ⟨_,hb⟩
    rintro v w25 hb25
    go_frame
    refine GrowM.st_end rfl ?_
    have hm25:Mod (fun k=>k=b8∨k=b9) w22 w25:=(((Mod.of_below (M:=fun k=>k=b8∨k=b9) HBW23.out).trans (Mod.of_below (M:=fun k=>k=b8∨k=b9) ((Below.refl _ w23).drew))).trans (hw24.1.mono fun k _ e=>.inl e)).trans (hb25.2.mono fun k _ e=>.inr e)
    have HM25:=Lib.hid hm25
    clear hm25 hb25 hw24 HDA HLT HD9
    go_wp2_with fail
    go_ret
    have h8:=HG8.out
    have h9:=HG9.out
    refine ⟨rfl,b7,b8,b9,w21,heap_mod HM25.out HB22.out (fun e=>e.elim (fun e=>HNEB.out b8 h8 e.symm) fun e=>HNEB.out b9 h9 e.symm),HT22.out.mod HM25.out (fun j hj e=>?_),HP22.out.mod HM25.out (fun j hj e=>?_),HSTAB.out b7 w21 w22 w25 b8 b9 HPST.out h8 HS8.out h9 HS9.out (fun e=>HNE.out.1 e.symm) (fun e=>HNE.out.2.1 e.symm) HM25.out,HG7.out,(Array.getElem?_eq_some_iff.1 HN7c.out).1,?_⟩
    · have:=HH.out.lt hj
      rcases e with e | e <;> omega
    · have:=HP.out.lt (show P.foot j from hj)
      rcases e with e | e <;> omega
    · exact ((HM22.out.mono (N:=fun k=>(k=B∨P.foot k∨M k)∨W.heap.size≤k) (fun k _ e=>.inl e)).trans (HM25.out.mono (fun k _ e=>.inr (by rcases e with e | e <;> omega)))).mono (fun k hk e=>e.elim (fun h=>h) fun h=>by omega)
open CacheW CqW
open KxW
theorem size_disk:(Tryz.prog.info? 78).map (·.size)=some 5:=by kernel_rfl
theorem eql_disk {a b:Nat} {ca cb:Array Value} {ta tb:TypeId} {w:World} (h:a≠b) (ha:w.heap[a]?=some (.cells ca ta (0,0))) (hb:w.heap[b]?=some (.cells cb tb (0,0))):Sem.run Tryz.prog (binOp .eql 26 (.pointer (some ⟨a,0,none⟩)) (.pointer (some ⟨b,0,none⟩))) w=.ok (.bool false) w:=by
 obtain ⟨j,hj,hs⟩:=Option.map_eq_some_iff.1 size_disk
 exact run_eql_ptr_other w Tryz.underlying26 hj (by rw [hs]; decide) (fun e=>h (congrArg Addr.block e)) ha hb
theorem sopen_any {base:Nat} {D D2:DiskD} {R:SegD} {its:List TapeMath.Item} (now:Nat) (W:World) (hL:LaidOn D R) (hD:DiskAt base W D) (hq:Quiet D) (hfl:D.files.length≤1048576) (hnl:∀ p∈D.files,p.1.length≤1073741824) (hbase:base≤W.heap.size) (hT:TabB base W)
 (hh:R.head=tapeH) (hs:R.size=1024) (ht:R.txt=bytesL its) (hf:Fits R.b its) (hil:its.length≤1000000) (hwt:D.waits=[]) {tl:List (List UInt8×Nat)} (hn1:TabIn D tl) (hn2:D.find TopW.groupsN=none) (hn3:D.find TopW.baseN=none)
 (h2:DiskAt base W D2) (hq2:Quiet D2) (hf2:D2.files=[]) (hr2:120≤D2.room) (hw2:D2.waits=[]) (hdd:∀ k,D.foot k→¬ D2.foot k) (hnow:now≤1099511626776) (hk2:∀ p∈recsOf R.b its,p.2.kind≠2) (hrl:(recsOf R.b its).length≤1000000)
 {Post:TapeD→CqD→DiskD→Nat→Nat→World→World→Prop}
 (hall:∀ (T:TapeD) (C:CqD) (D':DiskD) (kb:Nat) (w:World) (b7:Nat),TapeAt base w T→T.its=its→T.R.b=R.b→T.R.synced=T.R.e→Quiet T.D→TabB base w→base≤w.heap.size→CqAt base w C→C.qs=[]→C.db=D'.blk→DiskAt base w D'→Grows D2 D' [xlinks,xslots,wslots,wmarks] 120 2→(∀ k,C.foot k→¬ D'.foot k)→(∀ k,T.foot k→¬ C.foot k∧¬ D'.foot k∧k≠kb)→(¬ T.foot b7∧¬ C.foot b7∧¬ D'.foot b7∧kb≠b7)→KxAt base w ⟨kb,0⟩ D'→¬ C.foot kb→base≤b7 →
  w.heap[b7]?=some (.cells #[.pointer (some ⟨T.O.blk,0,none⟩),.pointer (some ⟨C.blk,0,none⟩),.pointer (some ⟨kb,0,none⟩),.int .i64 (T.R.b:Int)] 164 (0,0)) →
  Calls Tryz.prog 18 #[.pointer (some ⟨b7,0,none⟩)] w fun e w'=>∃ n:Int,e=.returned (.tuple #[.int .i64 n,.int .i64 0])∧Post T C D' kb b7 w w'∧Mod (fun k=>(C.foot k∨D'.foot k∨k=kb)∨k=b7) w w')
 (hstab:∀ T C D' kb b7 w0 w1 w2 (M:Nat→Prop),Post T C D' kb b7 w0 w1→Mod M w1 w2→(∀ k,M k→k < w0.heap.size∧¬ C.foot k∧¬ D'.foot k∧k≠kb∧k≠b7)→Post T C D' kb b7 w0 w2) :
 Calls Tryz.prog 16 #[.pointer (some ⟨D.blk,0,none⟩),.pointer (some ⟨D2.blk,0,none⟩),.int .i64 (now:Int)] W fun e w'=>∃ S C D' kb b7 w0,e=.returned (.tuple #[.pointer (some ⟨S.blk,0,none⟩),.int .i64 0])∧StoAt base w' S∧S.now=(now:Int)∧S.cq=.pointer (some ⟨C.blk,0,none⟩)∧(S.kx=.pointer (some ⟨kb,0,none⟩)∧S.dp=.pointer (some ⟨b7,0,none⟩)∧W.heap.size≤b7∧(∀ k,S.foot k→k < w0.heap.size∧¬ C.foot k∧¬ D'.foot k∧k≠kb∧k≠b7)∧(∀ k,C.foot k∨D'.foot k∨k=kb→D2.foot k∨W.heap.size≤k))∧S.T.its=its∧S.T.R.b=R.b∧S.T.R.synced=S.T.R.e∧S.T.D.waits=[]∧Quiet S.T.D∧S.T.D.blk=D.blk∧S.T.D.room=D.room∧(∀ n,(S.T.D.find n).isSome=(D.find n).isSome) ∧
  (∃ b3 b4 v,S.top=.pointer (some ⟨b3,0,none⟩)∧S.off=.pointer (some ⟨b4,0,none⟩)∧S.dk=.pointer (some ⟨D.blk,0,none⟩)∧Pair w' W.heap.size b3 b4 D.blk v tl S.T∧S.P.all=notesP S.T.O.recs []∧∀ b,PB b3 b4 v b→¬ S.foot b∧¬ (C.foot b∨D'.foot b∨b=kb∨b=b7)∧b < w0.heap.size)∧Post S.T C D' kb b7 w0 w'∧Mod (fun k=>D.foot k∨D2.foot k) W w'∧(∀ k,S.foot k→D.foot k∨W.heap.size≤k):=by
 have HPN:=Lib.hid (PendW.new_any base W hbase)
 have hne:D.blk≠D2.blk:=fun e=>hdd D.blk (.inl rfl) (e ▸ .inl rfl)
 have heq:=eql_disk (w:=W) hne hD.head h2.head
 have hnow':(0:Int)≤(now:Int)∧(now:Int)≤1099511626776:=by omega
 have HLA:Hid (∀ w B v6,Below W.heap.size W w→w.heap[B]?=some (.cells #[.pointer none,.pointer none,.pointer none,.pointer none,.pointer none,.pointer none,v6,.pointer none,.pointer none,.pointer none,.pointer (some ⟨D.blk,0,none⟩),.int .i64 (now:Int)] 47 (0,0))→W.heap.size≤B →
  Calls Tryz.prog 34 #[.pointer (some ⟨B,0,none⟩)] w fun e w'=>e=.returned (.int .i64 0)∧∃ T b3 b4 v,Lasts base B w w' D its R.b T∧Pair w' w.heap.size b3 b4 D.blk v tl T ∧
  w'.heap[B]?=some (.cells #[.pointer (some ⟨T.O.blk,0,none⟩),.pointer none,.pointer none,.pointer (some ⟨b3,0,none⟩),.pointer (some ⟨b4,0,none⟩),.pointer none,v6,.pointer none,.pointer none,.pointer none,.pointer (some ⟨D.blk,0,none⟩),.int .i64 (now:Int)] 47 (0,0))):=fun w B v6 hb hB hBW =>
  lasting_any _ _ _ _ _ _ _ _ w hB (fun h=>by have:=hD.lt h; omega) hL (hD.below hb) hq hfl hnl (Nat.le_trans hbase hb.size) (hT.below hb) hh hs ht hf hil hwt hn1 hn2
 have HDER:Hid (∀ w B v0 v3 v4 v6 (hw:DiskAt base w D2) (hz:base≤w.heap.size),¬ D2.foot B→w.heap[B]?=some (.cells #[v0,.pointer none,.pointer none,v3,v4,.pointer none,v6,.pointer none,.pointer none,.pointer none,.pointer (some ⟨D.blk,0,none⟩),.int .i64 (now:Int)] 47 (0,0))→Calls Tryz.prog 36 #[.pointer (some ⟨B,0,none⟩),.pointer (some ⟨D2.blk,0,none⟩)] w fun e w'=>e=.returned (.int .i64 0)∧∃ C D' kb tb,Derivd base B kb w w' D2 D' C ∧
  w'.heap[B]?=some (.cells #[v0,.pointer (some ⟨C.blk,0,none⟩),.pointer (some ⟨kb,0,none⟩),v3,v4,.pointer (some ⟨tb,0,none⟩),v6,.pointer none,.pointer none,.pointer none,.pointer (some ⟨D.blk,0,none⟩),.int .i64 (now:Int)] 47 (0,0))):=fun w B v0 v3 v4 v6 hw hz hBD hB =>
  derived_q _ _ _ _ _ _ _ _ _ _ _ now (by omega) w hB hBD hw hq2 hf2 hr2 hw2 hz
 have HD2:=Lib.hid h2
 have HDD:=Lib.hid hdd
 have HBS:=Lib.hid hbase
 have HALL:=Lib.hid hall
 have HSTAB:=Lib.hid hstab
 have HK2:=Lib.hid hk2
 have HRL:=Lib.hid hrl
 have HTB:=Lib.hid hT
 have HN3:=Lib.hid hn3
 have HD:=Lib.hid hD
 have HQ:=Lib.hid hq
 have HDL:Hid (∀ k,D.foot k→k < W.heap.size):=fun k hk=>hD.lt hk
 clear hL hD hq hfl hnl hbase hT hh hs ht hf hil hwt hn1 hn2 hn3 h2 hq2 hf2 hr2 hw2 hdd hk2 hrl hall hstab
 go_enter Tryz.func16,Tryz.ntmps16
 go_wp2_with fail
 refine HPN.out.mono ?_
 rintro e w2 ⟨P,rfl,hP,hall0,hb2,hg1,hg2⟩
 clear HPN
 go_wp2_with fail
 have hb3:Below W.heap.size W ((w2.alloc (.cells #[.pointer none,.pointer none,.pointer none,.pointer none,.pointer none,.pointer none,.pointer (some ⟨P.blk,0,none⟩),.pointer none,.pointer none,.pointer none,.pointer (some ⟨D.blk,0,none⟩),.int .i64 (now:Int)] 47)).alloc (.cells #[.func (.func 34) #[] #[],.func (.func 35) #[] #[]] 98)):=(hb2.alloc hb2.size _).alloc (Nat.le_trans hb2.size (by rw [World.size_alloc]; omega)) _
 have hB3:((w2.alloc (.cells #[.pointer none,.pointer none,.pointer none,.pointer none,.pointer none,.pointer none,.pointer (some ⟨P.blk,0,none⟩),.pointer none,.pointer none,.pointer none,.pointer (some ⟨D.blk,0,none⟩),.int .i64 (now:Int)] 47)).alloc (.cells #[.func (.func 34) #[] #[],.func (.func 35) #[] #[]] 98)).heap[w2.heap.size]?=some (.cells #[.pointer none,.pointer none,.pointer none,.pointer none,.pointer none,.pointer none,.pointer (some ⟨P.blk,0,none⟩),.pointer none,.pointer none,.pointer none,.pointer (some ⟨D.blk,0,none⟩),.int .i64 (now:Int)] 47 (0,0)):=heap_below ((Below.refl _ _).alloc (Nat.le_refl _) _) (heap_alloc_new w2 _)
 have hG3:((w2.alloc (.cells #[.pointer none,.pointer none,.pointer none,.pointer none,.pointer none,.pointer none,.pointer (some ⟨P.blk,0,none⟩),.pointer none,.pointer none,.pointer none,.pointer (some ⟨D.blk,0,none⟩),.int .i64 (now:Int)] 47)).alloc (.cells #[.func (.func 34) #[] #[],.func (.func 35) #[] #[]] 98)).heap[w2.heap.size+1]?=some (.cells #[.func (.func 34) #[] #[],.func (.func 35) #[] #[]] 98 (0,0)):=by
  have:=heap_alloc_new (w2.alloc (.cells #[.pointer none,.pointer none,.pointer none,.pointer none,.pointer none,.pointer none,.pointer (some ⟨P.blk,0,none⟩),.pointer none,.pointer none,.pointer none,.pointer (some ⟨D.blk,0,none⟩),.int .i64 (now:Int)] 47)) (.cells #[.func (.func 34) #[] #[],.func (.func 35) #[] #[]] 98)
  rw [World.size_alloc] at this
  exact this
 have hP3:=(hP.below ((Below.refl w2.heap.size w2).alloc (Nat.le_refl _) (.cells #[.pointer none,.pointer none,.pointer none,.pointer none,.pointer none,.pointer none,.pointer (some ⟨P.blk,0,none⟩),.pointer none,.pointer none,.pointer none,.pointer (some ⟨D.blk,0,none⟩),.int .i64 (now:Int)] 47))).below ((Below.refl (w2.alloc (.cells #[.pointer none,.pointer none,.pointer none,.pointer none,.pointer none,.pointer none,.pointer (some ⟨P.blk,0,none⟩),.pointer none,.pointer none,.pointer none,.pointer (some ⟨D.blk,0,none⟩),.int .i64 (now:Int)] 47)).heap.size _).alloc (Nat.le_refl _) (.cells #[.func (.func 34) #[] #[],.func (.func 35) #[] #[]] 98))
 generalize (w2.alloc (.cells #[.pointer none,.pointer none,.pointer none,.pointer none,.pointer none,.pointer none,.pointer (some ⟨P.blk,0,none⟩),.pointer none,.pointer none,.pointer none,.pointer (some ⟨D.blk,0,none⟩),.int .i64 (now:Int)] 47)).alloc (.cells #[.func (.func 34) #[] #[],.func (.func 35) #[] #[]] 98)=w3 at *
 have hBW:W.heap.size≤w2.heap.size:=hb2.size
 have HPL:Hid (∀ k,P.foot k→W.heap.size≤k∧k < w2.heap.size):=fun k hk=>⟨hk.elim (fun e=>e ▸ hg1) fun e=>e ▸ hg2,hP.lt hk⟩
 generalize w2.heap.size=B at *
 have HB3:=Lib.hid hB3
 have HG3:=Lib.hid hG3
 have HBW:=Lib.hid hBW
 have HBE:=Lib.hid hb3
 have HL0:=Lib.hid (HLA.out w3 B _ hb3 hB3 hBW)
 clear hB3 hG3 hBW hb3 HLA hb2 hP
 go_loopw [41] (fun i wr=>∃ k:Nat,k≤2∧i=.int .i64 (k:Int)∧Hid ((k=0→wr=w3)∧(1≤k→∃ T b3 b4 v,Lasts base B w3 wr D its R.b T∧Pair wr w3.heap.size b3 b4 D.blk v tl T∧wr.heap[B]?=some (.cells #[.pointer (some ⟨T.O.blk,0,none⟩),.pointer none,.pointer none,.pointer (some ⟨b3,0,none⟩),.pointer (some ⟨b4,0,none⟩),.pointer none,.pointer (some ⟨P.blk,0,none⟩),.pointer none,.pointer none,.pointer none,.pointer (some ⟨D.blk,0,none⟩),.int .i64 (now:Int)] 47 (0,0))))) (fun i _=>2 - (intOf i).toNat)
 case atStart=>exact ⟨0,by omega,rfl,fun _=>rfl,fun h=>by omega⟩
 case round =>
  obtain ⟨k,hk,rfl,HS⟩:=hrel
  rcases (show k=0∨k=1∨k=2 by omega) with rfl | rfl | rfl
  ·
   obtain rfl:=(HS.out.1 rfl).symm
   have g0:=cell_at HG3.out 0 _ rfl
   clear HS
   go_wp2_with fail
   refine HL0.out.mono ?_
   rintro e w4 ⟨rfl,hpost⟩
   have HPO:=Lib.hid hpost
   clear hpost HL0 g0
   go_wp2_with fail
   go_roundw
   case rel=>exact ⟨1,by omega,by go_num,fun h=>by omega,fun _=>HPO.out⟩
   case measure=>simp [intOf]
  ·
   obtain ⟨T,b3,b4,tv,hls,hpr,hBr⟩:=HS.out.2 (by omega)
   have HPR:=Lib.hid hpr
   clear hpr
   have hBl:=(Array.getElem?_eq_some_iff.1 HB3.out).1
   have hBD:¬ D.foot B:=fun h=>by have:=HDL.out B h; have:=HBW.out; omega
   have hGr:wr.heap[B+1]?=_:=heap_mod hls.mod HG3.out (fun h=>h.elim (fun h=>by have:=HDL.out _ h; have:=HBW.out; omega) fun h=>by omega)
   have g1:=cell_at hGr 1 _ rfl
   have HBA:=Lib.hid (based_none (D:=T.D) wr hBr (by rw [hls.dblk]; rfl) hls.tape.whole.dsk hls.quiet.up (hls.none HN3.out))
   have HLS:=Lib.hid hls
   have HBR:=Lib.hid hBr
   clear hls hBr hGr HS HL0
   go_wp2_with fail
   refine HBA.out.mono ?_
   rintro e w4 ⟨rfl,hb4⟩
   have HB4:=Lib.hid hb4
   clear hb4 HBA g1
   go_wp2_with fail
   go_roundw
   case rel=>exact ⟨2,by omega,by go_num,fun h=>by omega,fun _=>⟨T,b3,b4,tv,HLS.out.then (Mod.of_below (M:=fun k=>k=B) HB4.out) hBl hBD,HPR.out.mod (M:=fun _=>False) (Mod.of_below HB4.out) (fun _ _ h=>h),heap_below HB4.out HBR.out⟩⟩
   case measure=>simp [intOf]
  ·
   obtain ⟨T,b3,b4,tv,hls,hpr,hBr⟩:=HS.out.2 (by omega)
   have HPR:=Lib.hid hpr
   clear hpr
   have HLS:=Lib.hid hls
   have HBR:=Lib.hid hBr
   have h2l:∀ k,D2.foot k→k < W.heap.size:=fun k hk=>HD2.out.lt hk
   have hD2r:DiskAt base wr D2:=(HD2.out.below HBE.out).mod hls.mod (fun k hk h=>h.elim (fun h=>HDD.out k h hk) fun h=>by have:=h2l k hk; have:=HBW.out; omega)
   have hB2:¬ D2.foot B:=fun h=>by have:=h2l B h; have:=HBW.out; omega
   have HDE:=Lib.hid (HDER.out wr B _ _ _ _ hD2r (Nat.le_trans HBS.out (Nat.le_trans HBE.out.size hls.mod.size)) hB2 hBr)
   clear hls hBr HS HL0 h2l hD2r hB2 HDER
   go_wp2_with fail
   refine HDE.out.mono ?_
   rintro e w5 ⟨rfl,C,D',kb,tb,hder,hB5⟩
   have HDR:=Lib.hid hder
   have HB5:=Lib.hid hB5
   clear hder hB5 HDE
   have hBl:B < w3.heap.size:=(Array.getElem?_eq_some_iff.1 HB3.out).1
   have hBWo:=HBW.out
   have hDl:=HDL.out
   have h2l:∀ k,D2.foot k→k < W.heap.size:=fun k hk=>HD2.out.lt hk
   have hW3:W.heap.size≤w3.heap.size:=HBE.out.size
   have h3r:w3.heap.size≤wr.heap.size:=HLS.out.mod.size
   have hTf:∀ k,T.foot k→D.foot k∨w3.heap.size≤k:=fun k hk=>by
    rcases hk with h | h | h
    · exact .inr (HLS.out.fresh k (.inl h))
    · exact .inl ((HLS.out.dfoot k).1 h)
    · exact .inr (HLS.out.fresh k (.inr h))
   have hPf:∀ k,P.foot k→W.heap.size≤k∧k < B:=HPL.out
   have hTr:∀ k,T.foot k→k < wr.heap.size:=fun k hk=>HLS.out.tape.lt hk
   have hCf:∀ k,C.foot k→wr.heap.size≤k:=HDR.out.cnew
   have hD'f:∀ k,D'.foot k→D2.foot k∨wr.heap.size≤k:=HDR.out.dnew
   have hTM:∀ k,T.foot k→¬ (D2.foot k∨k=B):=fun k hk h=>by
    rcases hTf k hk with h1 | h1
    · exact h.elim (fun h=>HDD.out k h1 h) fun h=>by have:=hDl k h1; omega
    · exact h.elim (fun h=>by have:=h2l k h; omega) fun h=>by omega
   have hT5:TapeAt base w5 T:=HLS.out.tape.mod HDR.out.mod hTM
   have hP5:PendAt base w5 P:=(hP3.mod HLS.out.mod (fun k hk h=>by
    have h1:=hPf k hk
    rcases h with h | h
    · have:=hDl k h; omega
    · omega)).mod HDR.out.mod (fun k hk h=>by
    have h1:=hPf k hk
    rcases h with h | h
    · have:=h2l k h; omega
    · omega)
   have hawx:(∀ k,T.foot k→k≠B∧¬ P.foot k)∧∀ k,P.foot k→k≠B:=⟨fun k hk=>by
    rcases hTf k hk with h1 | h1
    · have h2:=hDl k h1
      exact ⟨by omega,fun h=>by have:=hPf k h; omega⟩
    · exact ⟨by omega,fun h=>by have:=hPf k h; omega⟩,fun k hk=>by have:=hPf k hk; omega⟩
   have hBb:base≤B:=Nat.le_trans HBS.out hBWo
   have hTb5:TabB base w5:=((HTB.out.below HBE.out).mod HLS.out.mod (fun k hk=>hk.elim (fun h=>HD.out.base_le h) fun e=>e ▸ hBb)).mod HDR.out.mod (fun k hk=>hk.elim (fun h=>HD2.out.base_le h) fun e=>e ▸ hBb)
   have h5r:wr.heap.size≤w5.heap.size:=HDR.out.mod.size
   have hMb:∀ k,C.foot k∨D'.foot k∨k=kb→base≤k:=fun k hk=>hk.elim (fun h=>by have:=hCf k h; have:=HBS.out; omega) fun h=>h.elim (fun h=>HDR.out.dsk.base_le h) fun h=>h ▸ HDR.out.kx.low
   have hM:∀ k,C.foot k∨D'.foot k∨k=kb→k < w5.heap.size∧k≠B∧¬ T.foot k∧¬ P.foot k:=fun k hk=>by
    have hlt:k < w5.heap.size:=hk.elim (fun h=>HDR.out.cq.lt h) fun h=>h.elim (fun h=>HDR.out.dsk.lt h) fun h=>h ▸ (Array.getElem?_eq_some_iff.1 HDR.out.kx.cells).1
    have ho:D2.foot k∨wr.heap.size≤k:=hk.elim (fun h=>.inr (hCf k h)) fun h=>h.elim (fun h=>hD'f k h) fun h=>.inr (h ▸ HDR.out.knew)
    rcases ho with h | h
    · have:=h2l k h
      exact ⟨hlt,by omega,fun h3=>hTM k h3 (.inl h),fun h3=>by have:=hPf k h3; omega⟩
    · exact ⟨hlt,by omega,fun h3=>by have:=hTr k h3; omega,fun h3=>by have:=hPf k h3; omega⟩
   have hdb:C.db=D'.blk:=by rw [HDR.out.db,HDR.out.grow.blk]
   have hall5:∀ (w:World) (b7:Nat),Mod (fun k=>k=B∨P.foot k) w5 w→w5.heap.size≤b7→w.heap[b7]?=some (.cells #[.pointer (some ⟨T.O.blk,0,none⟩),.pointer (some ⟨C.blk,0,none⟩),.pointer (some ⟨kb,0,none⟩),.int .i64 (T.R.b:Int)] 164 (0,0)) →
    Calls Tryz.prog 18 #[.pointer (some ⟨b7,0,none⟩)] w fun e w'=>∃ n:Int,e=.returned (.tuple #[.int .i64 n,.int .i64 0])∧Post T C D' kb b7 w w'∧Mod (fun k=>(C.foot k∨D'.foot k∨k=kb)∨k=b7) w w':=fun w b7 hm hb7 hc =>
    HALL.out T C D' kb w b7 (hT5.mod hm (fun k hk h=>h.elim (fun h=>(hawx.1 k hk).1 h) fun h=>(hawx.1 k hk).2 h)) HLS.out.its HLS.out.b HLS.out.syn HLS.out.quiet
     (hTb5.mod hm (fun k hk=>hk.elim (fun e=>e ▸ hBb) fun h=>by have:=hPf k h; have:=HBS.out; omega)) (by have:=hm.size; have:=HBS.out; omega) (HDR.out.cq.mod hm (fun k hk h=>h.elim (fun h=>(hM k (.inl hk)).2.1 h) fun h=>(hM k (.inl hk)).2.2.2 h)) HDR.out.qs hdb
     (HDR.out.dsk.mod hm (fun k hk h=>h.elim (fun h=>(hM k (.inr (.inl hk))).2.1 h) fun h=>(hM k (.inr (.inl hk))).2.2.2 h)) HDR.out.grow HDR.out.away (fun k hk=>⟨fun h=>(hM k (.inl h)).2.2.1 hk,fun h=>(hM k (.inr (.inl h))).2.2.1 hk,fun h=>(hM k (.inr (.inr h))).2.2.1 hk⟩)
     ⟨fun h=>by have:=hTr _ h; omega,fun h=>by have:=(hM _ (.inl h)).1; omega,fun h=>by have:=(hM _ (.inr (.inl h))).1; omega,fun h=>by have:=(hM kb (.inr (.inr rfl))).1; omega⟩
     { HDR.out.kx with cells:=(hm.block kb (hM kb (.inr (.inr rfl))).1 (fun h=>h.elim (hM kb (.inr (.inr rfl))).2.1 (hM kb (.inr (.inr rfl))).2.2.2)).trans HDR.out.kx.cells } HDR.out.kaway (by have:=HBS.out; omega) hc
   have hstab5:∀ b7 w0 w1 w2 b8 b9,Post T C D' kb b7 w0 w1→w5.heap.size≤b8→b8 < w0.heap.size→w5.heap.size≤b9→b9 < w0.heap.size→b8≠b7→b9≠b7→Mod (fun k=>k=b8∨k=b9) w1 w2→Post T C D' kb b7 w0 w2:=fun b7 w0 w1 w2 b8 b9 hp i1 i2 i3 i4 i5 i6 hm =>
    HSTAB.out T C D' kb b7 w0 w1 w2 _ hp hm (fun k hk=>⟨by rcases hk with e | e <;> omega,fun h=>by have:=(hM _ (.inl h)).1; rcases hk with e | e <;> omega,fun h=>by have:=(hM _ (.inr (.inl h))).1; rcases hk with e | e <;> omega,fun h=>by have:=(hM kb (.inr (.inr rfl))).1; rcases hk with e | e <;> omega,fun h=>by rcases hk with e | e <;> omega⟩)
   have hrecs:T.O.recs=recsOf R.b its:=by rw [hT5.recs,HLS.out.its,HLS.out.b]
   have HRP:=Lib.hid (replay_any (M:=fun k=>C.foot k∨D'.foot k∨k=kb) (Post:=Post T C D' kb) (T:=T) (P:=P) (cb:=C.blk) (kb:=kb) (tb:=tb) _ _ _ w5 (by rw [HLS.out.dblk]; exact HB5.out) hT5 hP5 hawx hTb5 (by have:=HBS.out; omega) HLS.out.quiet (HLS.out.none HN3.out) (by rw [hrecs]; exact HRL.out) (by rw [hrecs]; exact HK2.out) hBb hMb hM hall5 hstab5)
   have HF:Hid ((∀ k,T.foot k→D.foot k∨w3.heap.size≤k)∧(∀ k,P.foot k→W.heap.size≤k∧k < B)∧(∀ k,C.foot k→wr.heap.size≤k)∧(∀ k,D'.foot k→D2.foot k∨wr.heap.size≤k)∧wr.heap.size≤kb∧(∀ k,C.foot k∨D'.foot k∨k=kb→k < w5.heap.size∧k≠B∧¬ T.foot k∧¬ P.foot k)∧w3.heap.size≤wr.heap.size∧wr.heap.size≤w5.heap.size∧B < w3.heap.size∧(∀ k,T.foot k→k < wr.heap.size)):=⟨hTf,hPf,hCf,hD'f,HDR.out.knew,hM,h3r,h5r,hBl,hTr⟩
   have HAWX:=Lib.hid hawx
   have hnot:∀ b,w3.heap.size≤b→b < wr.heap.size→¬ (D2.foot b∨b=B)∧¬ (b=B∨P.foot b∨C.foot b∨D'.foot b∨b=kb):=fun b h1 h2 =>
    ⟨fun h=>h.elim (fun h=>by have:=h2l b h; omega) fun h=>by omega,fun h=>h.elim (fun h=>by omega) fun h=>h.elim (fun h=>by have:=hPf b h; omega) fun h=>h.elim (fun h=>by have:=hCf b h; omega) fun h=>h.elim (fun h=>(hD'f b h).elim (fun h=>by have:=h2l b h; omega) fun h=>by omega) fun h=>by have:=HDR.out.knew; omega⟩
   have HPS5:Hid (∀ w6,Mod (fun k=>k=B∨P.foot k∨C.foot k∨D'.foot k∨k=kb) w5 w6→Pair w6 W.heap.size b3 b4 D.blk tv tl T∧∀ b,PB b3 b4 tv b→¬ (b=B∨T.foot b∨P.foot b)∧¬ (C.foot b∨D'.foot b∨b=kb)∧b < wr.heap.size):=fun w6 hm=>by
    have q:=HPR.out
    have q1:∀ b,PB b3 b4 tv b→¬ (D2.foot b∨b=B)∧¬ (b=B∨P.foot b∨C.foot b∨D'.foot b∨b=kb):=fun b hb=>hnot b (q.lo_all hb).1 (q.lo_all hb).2
    have q3:=(q.mod HDR.out.mod (fun k hk=>(q1 k hk).1)).mod hm (fun k hk=>(q1 k hk).2)
    refine ⟨{ q3 with lo:=⟨by have:=q.lo; omega,by have:=q.lo; omega,q.lo.2.2⟩,r:=ownb q3.r (by omega) },fun b hb=>⟨fun h=>?_,fun h=>(q1 b hb).2 (.inr (.inr h)),(q.lo_all hb).2⟩⟩
    rcases h with h | h | h
    · exact (q1 b hb).2 (.inl h)
    · exact q.away _ h hb
    · exact (q1 b hb).2 (.inr (.inl h))
   clear hnot
   clear hTf hPf hTr hCf hD'f hTM hall5 hstab5 hM hMb hdb hTb5 hawx hT5 hP5 hrecs h2l hDl
   go_wp2_with fail
   refine HRP.out.mono ?_
   rintro e w6 ⟨rfl,b7,b8,b9,w0,hB6,hT6,hP6,hpost,hb7,hb70,hm6⟩
   clear HRP
   have HPS:=Lib.hid (HPS5.out w6 hm6)
   go_wp2_with fail
   go_ret2
   obtain ⟨f1,f2,f3,f4,f5,f6,f7,f8,f9,f10⟩:=HF.out
   have hW3':W.heap.size≤w3.heap.size:=HBE.out.size
   have hBWo:=HBW.out
   refine ⟨⟨B,T,{ P with all:=notesP T.O.recs P.all },.pointer (some ⟨C.blk,0,none⟩),.pointer (some ⟨kb,0,none⟩),.pointer (some ⟨b3,0,none⟩),.pointer (some ⟨b4,0,none⟩),.pointer (some ⟨tb,0,none⟩),.pointer (some ⟨b7,0,none⟩),.pointer (some ⟨b8,0,none⟩),.pointer (some ⟨b9,0,none⟩),.pointer (some ⟨T.D.blk,0,none⟩),(now:Int)⟩,C,D',kb,b7,w0,rfl,
    ⟨hB6,hT6,hP6,Nat.le_trans HBS.out hBWo,HAWX.out⟩,rfl,rfl,⟨rfl,rfl,by omega,fun k hk=>?_,fun k hk=>?_⟩,HLS.out.its,HLS.out.b,HLS.out.syn,HLS.out.waits,HLS.out.quiet,HLS.out.dblk,HLS.out.room,HLS.out.find,?_,hpost,?_,fun k hk=>?_⟩
   ·
    have h1:k < w5.heap.size:=by
     rcases hk with h | h | h
     · have h':k=B:=h; omega
     · have:=f10 k h; omega
     · have:=f2 k h; omega
    have h2:∀ j,C.foot j∨D'.foot j∨j=kb→k≠j:=fun j hj e=>by
     subst e
     have g:=f6 _ hj
     rcases hk with h | h | h
     · exact g.2.1 h
     · exact g.2.2.1 h
     · exact g.2.2.2 h
    exact ⟨by omega,fun h=>h2 k (.inl h) rfl,fun h=>h2 k (.inr (.inl h)) rfl,fun h=>h2 kb (.inr (.inr rfl)) h,fun h=>by omega⟩
   · rcases hk with h | h | h
     · exact .inr (by have:=f3 k h; omega)
     · exact (f4 k h).imp (fun h=>h) fun h=>by omega
     · exact .inr (by omega)
   · refine ⟨b3,b4,tv,rfl,rfl,by show Value.pointer (some ⟨T.D.blk,0,none⟩)=_; rw [HLS.out.dblk],HPS.out.1,by show notesP T.O.recs P.all=_; rw [hall0],fun b hb=>?_⟩
     obtain ⟨g0,g1,g2⟩:=HPS.out.2 b hb
     exact ⟨g0,fun h=>h.elim (fun h=>g1 (.inl h)) fun h=>h.elim (fun h=>g1 (.inr (.inl h))) fun h=>h.elim (fun h=>g1 (.inr (.inr h))) fun h=>by omega,by omega⟩
   · have m1:Mod (fun k=>(D.foot k∨D2.foot k)∨W.heap.size≤k) W w3:=Mod.of_below HBE.out
     have m2:=m1.trans (HLS.out.mod.mono (N:=fun k=>(D.foot k∨D2.foot k)∨W.heap.size≤k) fun k _ h=>h.elim (fun h=>.inl (.inl h)) fun h=>.inr (by omega))
     have m3:=m2.trans (HDR.out.mod.mono (N:=fun k=>(D.foot k∨D2.foot k)∨W.heap.size≤k) fun k _ h=>h.elim (fun h=>.inl (.inr h)) fun h=>.inr (by omega))
     have m4:=m3.trans (hm6.mono (N:=fun k=>(D.foot k∨D2.foot k)∨W.heap.size≤k) fun k _ h=>h.elim (fun h=>.inr (by omega)) fun h=>h.elim (fun h=>.inr (f2 k h).1) fun h=>h.elim (fun h=>.inr (by have:=f3 k h; omega)) fun h=>h.elim (fun h=>(f4 k h).elim (fun h=>.inl (.inr h)) fun h=>.inr (by omega)) fun h=>.inr (by omega))
     exact m4.mono fun k hk h=>h.elim (fun h=>h) fun h=>by omega
   · rcases hk with h | h | h
     · exact .inr (by have h':k=B:=h; omega)
     · exact (f1 k h).imp (fun h=>h) fun h=>by omega
     · exact .inr (f2 k h).1
end Go.Proofs.YtnoehodmmkioaaaGreatDoor.StoW
namespace Go.Proofs.YtnoehodmmkioaaaGreatDoor.CacheW
open Go.RowKit OctMath DskW SegW MapG
theorem over_q {base:Nat} {D:DiskD} (n:List UInt8) (f:FileD) (t:List UInt8) (o:Nat) (w:World) (h:DiskAt base w D) (hq:Quiet D) (hf:D.find n=some f) (ho:o+t.length≤f.now.length) (ht:t≠[]) (htl:t.length≤1048576) (hwl:D.waits.length≤1048576) (hbase:base≤w.heap.size) :
 Calls Tryz.prog 126 #[.pointer (some ⟨D.blk,0,none⟩),.string (S n),.int .i64 (o:Int),.string (S t)] w fun e w'=>e=.returned (.int .i64 0)∧∃ D',DiskAt base w' D'∧Grows D D' [] 0 1∧Mod D.foot w w'∧(∀ k,D'.foot k→D.foot k∨w.heap.size≤k)∧(∃ f',D'.find n=some f'∧f'.now.length=f.now.length)∧∀ m,m≠n→D'.find m=D.find m:=by
 have hnow:=h.small n
 have hnl:f.now.length≤16777216:=by
  unfold DiskD.bytes at hnow; rw [hf] at hnow; exact hnow
 refine (write_any n (o:Int) (by omega) t (by omega) hwl w h hbase).mono ?_
 rintro e w' ⟨wv,rfl,hd,hm,hk⟩
 have hb:D.bars [n]=0:=by rw [bars_one,hq.up,hf]; rfl
 have hrm:0≤D.room:=by
  have:=h.fits
  unfold DiskD.room
  omega
 have hfit:D.fitB f (o:Int) t=0:=by
  unfold DiskD.fitB
  rw [if_neg (by omega),if_neg (by omega)]
 have h1:D.writeE n (o:Int) t=0:=by
  unfold DiskD.writeE
  rw [if_pos hb,hf]
  simp only
  rw [if_pos hfit,hq.done]
 have h2:D.write n (o:Int) t wv={ D with files:=setNow D.files n (laidL f.now o t),wv:=wv,waits:=D.waits++[⟨f.blk,o,t⟩] }:=by
  unfold DiskD.write
  rw [if_pos hb,hf]
  simp only
  rw [if_pos hfit,if_neg (by rw [hq.left]; simp [ht]),hq.burn,Int.toNat_natCast]
 have hll:(laidL f.now o t).length=f.now.length:=by
  unfold laidL
  rw [if_neg ht,show o+t.length - f.now.length=0 by omega,List.replicate_zero,List.append_nil,over_length _ _ _ (by omega)]
  omega
 have hmem:=find_some hf
 refine ⟨by rw [h1],D.write n (o:Int) t wv,hd,?_,hm,hk,?_,fun m hmn=>?_⟩
 ·
  rw [h2]
  refine ⟨⟨hq.left,hq.up⟩,rfl,rfl,by rw [List.append_nil]; exact setNow_fst _ _ _,?_,by simp⟩
  have:=sizeL_set D.files n (laidL f.now o t) f h.names hmem
  show sizeL (setNow D.files n (laidL f.now o t))=sizeL D.files+0
  omega
 ·
  rw [h2]
  have:=find_setNow D.files n (laidL f.now o t) n
  rw [if_pos rfl] at this
  refine ⟨{ f with now:=laidL f.now o t },?_,hll⟩
  have hf2:(D.files.find? fun p=>p.1 == n).map (·.2)=some f:=hf
  show (((setNow D.files n (laidL f.now o t)).find? fun p=>p.1 == n).map (·.2))=_
  rw [this,hf2]; rfl
 ·
  rw [h2]
  have:=find_setNow D.files n (laidL f.now o t) m
  rw [if_neg hmn] at this
  exact this
end Go.Proofs.YtnoehodmmkioaaaGreatDoor.CacheW
namespace Go.Proofs.YtnoehodmmkioaaaGreatDoor.KxW
open Go.RowKit OctMath DskW SegW MapG CacheW NameW EntW OctW
theorem link_len (a b c d:Nat) (ha:a < 4294967296) (hb:b≤1099511627776) (hc:c≤1099511627776) (hd:d < 16777216):widOk (linkWs (a:Int) (b:Int) (c:Int) (d:Int))=true∧(widW (linkWs (a:Int) (b:Int) (c:Int) (d:Int))).length=20:=by
 have ho:widOk (linkWs (a:Int) (b:Int) (c:Int) (d:Int))=true:=by
  refine decide_eq_true fun p hp=>?_
  simp only [linkWs,List.mem_cons,List.not_mem_nil,or_false] at hp
  rcases hp with rfl | rfl | rfl | rfl
  · exact ⟨Int.natCast_nonneg _,by show (a:Int) < ((1099511627776:Nat):Int); omega⟩
  · exact ⟨Int.natCast_nonneg _,by show (b:Int) < ((281474976710656:Nat):Int); omega⟩
  · exact ⟨Int.natCast_nonneg _,by show (c:Int) < ((281474976710656:Nat):Int); omega⟩
  · exact ⟨Int.natCast_nonneg _,by show (d:Int) < ((16777216:Nat):Int); omega⟩
 refine ⟨ho,?_⟩
 unfold widW
 rw [ho,if_pos rfl]
 simp [linkWs,widL,be_length]
structure KAdded (base:Nat) (W w':World) (X:KxD) (D D':DiskD):Prop where
 kx:KxAt base w' { X with many:=X.many+1 } D'
 dsk:DiskAt base w' D'
 grows:Grows D D' [] 20 2
 mod:Mod (fun k=>D.foot k∨k=X.blk) W w'
 foot:∀ k,D'.foot k→D.foot k∨W.heap.size≤k
 other:∀ m,m≠xslots→m≠xlinks→D'.find m=D.find m
theorem kadd_q {base:Nat} {X:KxD} {D:DiskD} (t k:List UInt8) (a b:Nat) (W:World) (h:KxAt base W X D) (hD:DiskAt base W D) (hq:Quiet D) (hbase:base≤W.heap.size) (ht:NameMath.topicL t=true) (hk:RecMath.keyL k=true) (htl:t.length≤1000) (hkl:k.length≤1000)
 (ha:a≤1099511627776) (hb:b≤1099511627776) (hm:X.many≤700000) (hroom:20≤D.room) (hwl:D.waits.length≤1000000) :
 Calls Tryz.prog 135 #[.pointer (some ⟨X.blk,0,none⟩),.string (S t),.string (S k),.int .i64 (a:Int),.int .i64 (b:Int)] W fun e w'=>e=.returned (.int .i64 0)∧∃ D',KAdded base W w' X D D':=by
 have HTO:=Lib.hid (fun w=>topic_any t (by omega) w)
 rw [ht] at HTO
 have HKE:=Lib.hid (fun w=>RecW.key_any k (by omega) w)
 rw [hk] at HKE
 have HNU:=Lib.hid (fun w=>number_any t k (by omega) (by omega) w)
 have hnl:=numberL_lt t k
 generalize numberL t k=n at *
 have HLA:=Lib.hid (fun (w:World) (hb:Below W.heap.size W w)=>last_any (X:=X) (n % 8) (Nat.mod_lt _ (by decide)) w (h.below hb) (hD.below hb) hq)
 have hn8:IntKind.i64.wrap ((n:Int) % 8)=((n % 8:Nat):Int):=IntWalk.i64_in _ (by omega)
 have ha0:(decide ((a:Int) < 0))=false:=by simp
 have ha1:(decide ((1099511627776:Int) < (a:Int)))=false:=by simp; omega
 have hb0:(decide ((b:Int) < 0))=false:=by simp
 have hb1:(decide ((1099511627776:Int) < (b:Int)))=false:=by simp; omega
 obtain ⟨fs,hfs,hfsl⟩:=h.slots
 obtain ⟨fl,hfl,hfll⟩:=h.links
 have HX:=Lib.hid h
 have HD:=Lib.hid hD
 have HQ:=Lib.hid hq
 have HBS:=Lib.hid hbase
 have HFS:=Lib.hid hfs
 have HFSL:=Lib.hid hfsl
 have HFLL:=Lib.hid hfll
 have HWL:=Lib.hid hwl
 have hw20:IntKind.i64.wrap ((X.many:Int) * 20)=((20 * X.many:Nat):Int):=by rw [IntWalk.i64_in _ (by omega)]; omega
 have hw1:IntKind.i64.wrap ((X.many:Int)+1)=((X.many+1:Nat):Int):=by rw [IntWalk.i64_in _ (by omega)]; omega
 have hw3:IntKind.i64.wrap (3 * ((n:Int) % 8))=((3 * (n % 8):Nat):Int):=by rw [IntWalk.i64_in _ (by omega)]; omega
 have HWR:=Lib.hid (fun (s:List UInt8) (hs:s.length=20) (w:World) (hb:Below W.heap.size W w)=>write_q xlinks fl s w (hD.below hb) hq hfl (20 * X.many) hfll.symm (by intro e; rw [e] at hs; cases hs) (by omega) (by rw [hs]; exact hroom) (by omega) (Nat.le_trans hbase hb.size))
 have HM:=Lib.hid hm
 have HN:=Lib.hid hnl
 have HA:=Lib.hid ha
 have HB:=Lib.hid hb
 clear h hD hq hbase ht hk htl hkl hroom hwl hfs hfsl hfl hfll hm hnl ha hb
 go_enter Tryz.func135,Tryz.ntmps135
 go_wp2_with fail
 refine (HTO.out _).mono ?_
 rintro e w1 ⟨rfl,hb⟩
 have HB1:=Lib.hid hb
 clear hb HTO
 go_wp2_with fail
 refine (HKE.out _).mono ?_
 rintro e w2 ⟨rfl,hb⟩
 have HB2:=Lib.hid (HB1.out.trans (hb.mono HB1.out.size))
 clear hb HKE HB1
 go_wp2_with fail
 refine (HNU.out _).mono ?_
 rintro e w3 ⟨rfl,hb⟩
 have HB3:=Lib.hid (HB2.out.trans (hb.mono HB2.out.size))
 clear hb HNU HB2
 go_wp2_with fail
 refine (HLA.out _ HB3.out).mono ?_
 rintro e w4 ⟨u,rfl,hu,hb⟩
 have HB4:=Lib.hid (HB3.out.trans (hb.mono HB3.out.size))
 clear hb HLA HB3
 obtain ⟨l1,l2⟩:=link_len n a b u HN.out HA.out HB.out hu
 have HLP:=Lib.hid (fun w=>link_put (n:Int) (a:Int) (b:Int) (u:Int) (by have:=HN.out; omega) (by have:=HA.out; omega) (by have:=HB.out; omega) (by omega) w)
 rw [l1] at HLP
 generalize widW (linkWs (n:Int) (a:Int) (b:Int) (u:Int))=s at *
 have HS:=Lib.hid l2
 clear l1 l2
 go_wp2_with fail
 refine (HLP.out _).mono ?_
 rintro e w5 ⟨rfl,hb⟩
 have HB5:=Lib.hid (HB4.out.trans (hb.mono HB4.out.size))
 clear hb HLP HB4
 go_upto_region 13 with fail
 have c5:w5.heap[X.blk]?=some (.cells #[.pointer (some ⟨D.blk,0,none⟩),.int .i64 (X.many:Int)] 215 (0,0)):=(HX.out.below HB5.out).cells
 have k0:w5.drew.cell? ⟨X.blk,0,none⟩=some (.pointer (some ⟨D.blk,0,none⟩)):=by rw [Lib.cell_of_heap (show w5.drew.heap[X.blk]?=_ from c5)]; rfl
 have k1:w5.drew.cell? ⟨X.blk,1,none⟩=some (.int .i64 (X.many:Int)):=by rw [Lib.cell_of_heap (show w5.drew.heap[X.blk]?=_ from c5)]; rfl
 clear c5
 have HWP:=Lib.hid (HWR.out s HS.out w5.drew (HB5.out.drew))
 rw [show S xlinks=⟨#[120,45,108,105,110,107,115]⟩ from rfl,HS.out] at HWP
 clear HWR
 refine GrowM.wp_region_s (by kernel_rfl) ?_
 refine GrowM.st_grow 10 [none,none,none,none,none,none,none,none,none,none] (fun u v=>v=u) (by kernel_rfl) (by kernel_rfl) (fun _=>rfl) (fun _ _ _ h k=>k.trans h) ?_ ?_
 · exact GrowN.stab0 rfl
 simp only [List.take_succ_cons,List.take_zero,List.drop_succ_cons,List.drop_zero,Nat.reduceSub]
 iterate 10
  refine GrowN.g_det rfl ?_
  apply Exists.intro
  refine ⟨fun w hw hF=>?_,?_⟩
  · obtain rfl:=hw.symm
    clear hF
    go_simp
    first | exact rfl | exact ⟨rfl,rfl⟩
  go_frame
 refine GrowN.g_nil fun wz hwz hF=>?_
 obtain rfl:=hwz.symm
 clear hF
 refine GrowM.st_call (fun v w'=>v=.int .i64 0∧∃ D',DiskAt base w' D'∧Grows D D' [] 20 1∧Mod D.foot w5.drew w'∧(∀ k,D'.foot k→D.foot k∨w5.drew.heap.size≤k)∧(∃ f',D'.find xlinks=some f'∧f'.now=fl.now++s)∧∀ m,m≠xlinks→D'.find m=D.find m) (by kernel_rfl) rfl rfl ?_ ?_
 ·
  go_simp
  refine HWP.out.mono ?_
  rintro e w' ⟨rfl,hb⟩
  exact ⟨_,rfl,rfl,hb⟩
 rintro v w6 ⟨rfl,D1,hD1,hg1,hm1,hf1,hx1,ho1⟩
 go_frame
 have HD1:=Lib.hid hD1
 have HG1:=Lib.hid hg1
 have HM1:Hid (Mod D.foot W w6):=(Mod.of_below (M:=D.foot) HB5.out.drew).trans hm1
 have HF1:Hid (∀ k,D1.foot k→D.foot k∨W.heap.size≤k):=fun k hk=>(hf1 k hk).imp_right fun h=>Nat.le_trans HB5.out.size h
 have HX1:=Lib.hid hx1
 have HO1:=Lib.hid ho1
 clear hD1 hg1 hm1 hf1 hx1 ho1 HWP k0 k1
 refine GrowM.st_grow 12 [none] (fun u v=>v=u) (by kernel_rfl) (by kernel_rfl) (fun _=>rfl) (fun _ _ _ h k=>k.trans h) ?_ ?_
 · exact GrowN.stab0 rfl
 simp only [List.take_succ_cons,List.take_zero,List.drop_succ_cons,List.drop_zero,Nat.reduceSub]
 refine GrowN.g_det rfl ?_
 apply Exists.intro
 refine ⟨fun w hw hF=>?_,?_⟩
 ·
  obtain rfl:=hw.symm
  clear hF
  go_simp
  first | exact rfl | exact ⟨rfl,rfl⟩
 go_frame
 refine GrowN.g_nil fun wz hwz hF=>?_
 obtain rfl:=hwz.symm
 clear hF
 refine GrowM.st_end rfl ?_
 have hlt:=(Array.getElem?_eq_some_iff.1 HX.out.cells).1
 have c6:w6.heap[X.blk]?=some (.cells #[.pointer (some ⟨D.blk,0,none⟩),.int .i64 (X.many:Int)] 215 (0,0)):=(HM1.out.block _ hlt HX.out.away).trans HX.out.cells
 have k0:w6.cell? ⟨X.blk,0,none⟩=some (.pointer (some ⟨D.blk,0,none⟩)):=by rw [Lib.cell_of_heap c6]; rfl
 have k1:w6.cell? ⟨X.blk,1,none⟩=some (.int .i64 (X.many:Int)):=by rw [Lib.cell_of_heap c6]; rfl
 clear c6 hlt
 go_upto_region 16 with fail
 go_wp2_with fail
 have HN3:=Lib.hid (OctW.nums_any 3 (by omega) (by omega) (some ⟨w6.heap.size,0,none⟩) 1 [(X.many:Int)+1] (by simp) (fun y hy=>by
  have hm:=HM.out
  have e:y=(X.many:Int)+1:=by simpa using hy
  omega) (w6.alloc (.cells #[.int .i64 ((X.many:Int)+1)] 3)) (fun i hi=>by
  obtain rfl:i=0:=by simpa using hi
  refine ⟨_,_,rfl,?_⟩
  rw [World.cell?_alloc_new]; rfl))
 have hnw:numsW 3 [(X.many:Int)+1]=(be 3 (X.many+1),0):=by
  have:=numsW_single 3 ((X.many:Int)+1) (by decide) (by decide)
  rw [if_pos ⟨by omega,by show (X.many:Int)+1 < ((16777216:Nat):Int); have:=HM.out; omega⟩] at this
  rw [show ((X.many:Int)+1).toNat=X.many+1 by omega] at this
  exact this
 rw [hnw] at HN3
 have HB7:Hid (Below w6.heap.size w6 (w6.alloc (.cells #[.int .i64 ((X.many:Int)+1)] 3))):=(Below.refl _ _).alloc (Nat.le_refl _) _
 clear hnw
 refine HN3.out.mono ?_
 rintro e w7 ⟨rfl,hb⟩
 have HB7:=Lib.hid (HB7.out.trans (hb.mono HB7.out.size))
 clear hb HN3
 have hlt:=(Array.getElem?_eq_some_iff.1 HX.out.cells).1
 have c7:w7.heap[X.blk]?=some (.cells #[.pointer (some ⟨D.blk,0,none⟩),.int .i64 (X.many:Int)] 215 (0,0)):=(HB7.out.block _ (Nat.lt_of_lt_of_le hlt HM1.out.size)).trans ((HM1.out.block _ hlt HX.out.away).trans HX.out.cells)
 have k0:w7.cell? ⟨X.blk,0,none⟩=some (.pointer (some ⟨D.blk,0,none⟩)):=by rw [Lib.cell_of_heap c7]; rfl
 clear c7 hlt k1
 have hs1:D1.find xslots=some fs:=(HO1.out xslots (by decide)).trans HFS.out
 have hbl:(be 3 (X.many+1)).length=3:=be_length _ _
 have HOV:=Lib.hid (over_q xslots fs (be 3 (X.many+1)) (3 * (n % 8)) w7 (HD1.out.below HB7.out) HG1.out.quiet hs1 (by rw [hbl,HFSL.out]; omega) (by intro e; rw [e] at hbl; cases hbl) (by rw [hbl]; omega) (by rw [HG1.out.waits]; have:=HWL.out; omega) (by have h1:=HBS.out; have h2:=HM1.out.size; have h3:=HB7.out.size; omega))
 rw [show S xslots=⟨#[120,45,115,108,111,116,115]⟩ from rfl,HG1.out.blk,show ((3 * (n % 8):Nat):Int)=3 * ((n:Int) % 8) by omega] at HOV
 rw [show ((3 * (n % 8):Nat):Int)=3 * ((n:Int) % 8) by omega] at hw3
 go_wp2_with fail
 refine HOV.out.mono ?_
 rintro e w8 ⟨rfl,D2,hD2,hg2,hm2,hf2,hx2,ho2⟩
 have HD2:=Lib.hid hD2
 have HG2:=Lib.hid (HG1.out.trans hg2)
 have HF2:Hid (∀ k,D2.foot k→D.foot k∨W.heap.size≤k):=fun k hk=>(hf2 k hk).elim (fun h=>HF1.out k h) fun h=>.inr (Nat.le_trans HM1.out.size (Nat.le_trans HB7.out.size h))
 have HM2:Hid (Mod D.foot W w8):=(((HM1.out.mono (N:=fun k=>D.foot k∨W.heap.size≤k) (fun k _ h=>.inl h)).trans (Mod.of_below (M:=fun k=>D.foot k∨W.heap.size≤k) HB7.out)).trans (hm2.mono (fun k _ h=>HF1.out k h))).mono (fun k hk h=>h.elim (fun h=>h) fun h=>by omega)
 have HX2:=Lib.hid hx2
 have HO2:=Lib.hid ho2
 clear hD2 hg2 hm2 hf2 hx2 ho2 HOV k0
 have hlt:=(Array.getElem?_eq_some_iff.1 HX.out.cells).1
 have c8:w8.heap[X.blk]?=some (.cells #[.pointer (some ⟨D.blk,0,none⟩),.int .i64 (X.many:Int)] 215 (0,0)):=(HM2.out.block _ hlt HX.out.away).trans HX.out.cells
 have HC8:=Lib.hid c8
 have k1:w8.cell? ⟨X.blk,1,none⟩=some (.int .i64 (X.many:Int)):=by rw [Lib.cell_of_heap c8]; rfl
 have f1:w8.frozen? ⟨X.blk,1,none⟩=false:=Lib.frozen_of_heap c8 1
 clear c8
 go_wp2_with fail
 go_ret
 have hms:Mod (fun k=>k=X.blk) w8 (w8.setCell ⟨X.blk,1,none⟩ (.int .i64 ((X.many:Int)+1))):=mod_set _ _ _ _
 have haw:¬ D2.foot X.blk:=fun h=>(HF2.out _ h).elim HX.out.away fun h=>by omega
 obtain ⟨f1,x1,x2⟩:=HX1.out
 obtain ⟨f2,y1,y2⟩:=HX2.out
 refine ⟨rfl,D2,⟨?_,⟨f2,y1,y2.trans HFSL.out⟩,⟨f1,(HO2.out xlinks (by decide)).trans x1,by rw [x2,List.length_append,HS.out,HFLL.out]; show _=20 * (X.many+1); omega⟩,HX.out.low,haw⟩,HD2.out.mod hms (fun k hk e=>haw (e ▸ hk)),HG2.out,(HM2.out.mono (fun k _ h=>.inl h)).trans (hms.mono (fun k _ h=>.inr h)),HF2.out,fun m h1 h2=>(HO2.out m h1).trans (HO1.out m h2)⟩
 rw [HG2.out.blk]
 exact heap_set1 HC8.out _ rfl
end Go.Proofs.YtnoehodmmkioaaaGreatDoor.KxW
namespace Go.Proofs.YtnoehodmmkioaaaGreatDoor.CqW
open Go.RowKit Go.MapKept OctMath RecMath DskW SegW MapG CacheW EntW NameW KxW
theorem qname_inj {t t':List UInt8} {q q' n n':Nat} (hq:q < 3) (hq':q' < 3) (hn:n≤99999999) (hn':n'≤99999999) (h:nameL (qHead t q) n=nameL (qHead t' q') n'):t=t'∧q=q':=by
 have h1:qHead t q=qHead t' q':=(List.append_inj' h (by rw [pad_len n hn,pad_len n' hn'])).1
 have hd:∀ k < 3,Lib.decDigits k=[UInt8.ofNat (48+k)]:=fun k hk=>Lib.decDigits_one (by omega)
 unfold qHead at h1
 rw [hd q hq,hd q' hq'] at h1
 have h2:=(List.append_inj' h1 rfl).1
 have h3:=List.append_inj' h2 rfl
 have h4:=(List.append_inj' h3.1 rfl).1
 refine ⟨(List.append_inj h4 rfl).2,?_⟩
 have h5:=h3.2
 have:q=0∨q=1∨q=2:=by omega
 have:q'=0∨q'=1∨q'=2:=by omega
 rcases ‹q=0∨q=1∨q=2› with rfl | rfl | rfl <;> rcases ‹q'=0∨q'=1∨q'=2› with rfl | rfl | rfl <;> first | rfl | (exact absurd h5 (by decide))
theorem qname_len (t:List UInt8) {q:Nat} (hq:q < 3):(qHead t q).length=t.length+5:=by
 have hd:∀ k < 3,(Lib.decDigits k).length=1:=fun k hk=>by rw [Lib.decDigits_one (by omega)]; rfl
 unfold qHead
 simp only [List.length_append,hd q hq,List.length_cons,List.length_nil]
 omega
theorem qname_x (t:List UInt8) (q n:Nat):nameL (qHead t q) n≠xslots∧nameL (qHead t q) n≠xlinks:=by
 constructor <;> (intro h; injection h with h1 h2; exact absurd h1 (by decide))
def entL (p:Nat×Msg):List UInt8:=widW (placeWs (p.1:Int) ((recL p.2).length:Int) ((hashL [p.2.tag]:Nat):Int) p.2.born)
def isQ (t:List UInt8) (q:Int) (p:Nat×Msg):Bool:=decide (p.2.topic=t) && decide (p.2.queue=q)
def ofQ (t:List UInt8) (q:Int) (l:List (Nat×Msg)):List UInt8:=(l.filter (isQ t q)).flatMap entL
theorem ofQ_yes {t:List UInt8} {q:Int} (l:List (Nat×Msg)) {p:Nat×Msg} (h1:p.2.topic=t) (h2:p.2.queue=q):ofQ t q (l++[p])=ofQ t q l++entL p:=by
 have h:isQ t q p=true:=by unfold isQ; simp [h1,h2]
 unfold ofQ
 rw [List.filter_append,List.filter_cons_of_pos h,List.filter_nil,List.flatMap_append]
 simp
theorem ofQ_no {t:List UInt8} {q:Int} (l:List (Nat×Msg)) {p:Nat×Msg} (h:¬ (p.2.topic=t∧p.2.queue=q)):ofQ t q (l++[p])=ofQ t q l:=by
 have h:¬ isQ t q p=true:=by unfold isQ; simpa using fun h1 h2=>h ⟨h1,h2⟩
 unfold ofQ
 rw [List.filter_append,List.filter_cons_of_neg h,List.filter_nil,List.append_nil]
theorem ofQ_none {t:List UInt8} {q:Int} {l:List (Nat×Msg)} (h:∀ p∈l,¬ (p.2.topic=t∧p.2.queue=q)):ofQ t q l=[]:=by
 have:l.filter (isQ t q)=[]:=List.filter_eq_nil_iff.2 fun p hp=>by unfold isQ; simpa using fun h1 h2=>h p hp ⟨h1,h2⟩
 unfold ofQ
 rw [this]; rfl
structure EntOk (p:Nat×Msg):Prop where
 id:p.1≤99999999
 len:(recL p.2).length≤1024
 born:0≤p.2.born∧p.2.born≤1099511627776
 top:NameMath.topicL p.2.topic=true
 tl:p.2.topic.length≤1000
 q:∃ q:Nat,p.2.queue=(q:Int)∧q < 3
theorem entL_len {p:Nat×Msg} (h:EntOk p):widOk (placeWs (p.1:Int) ((recL p.2).length:Int) ((hashL [p.2.tag]:Nat):Int) p.2.born)=true∧(entL p).length=20:=by
 have h1:=h.id
 have h2:=h.len
 have h3:=h.born
 have h4:=hashL_lt [p.2.tag]
 have ho:widOk (placeWs (p.1:Int) ((recL p.2).length:Int) ((hashL [p.2.tag]:Nat):Int) p.2.born)=true:=by
  refine decide_eq_true fun x hx=>?_
  simp only [placeWs,List.mem_cons,List.not_mem_nil,or_false] at hx
  rcases hx with rfl | rfl | rfl | rfl
  · exact ⟨Int.natCast_nonneg _,by show (p.1:Int) < ((281474976710656:Nat):Int); omega⟩
  · exact ⟨Int.natCast_nonneg _,by show ((recL p.2).length:Int) < ((65536:Nat):Int); omega⟩
  · exact ⟨Int.natCast_nonneg _,by show ((hashL [p.2.tag]:Nat):Int) < ((1099511627776:Nat):Int); omega⟩
  · exact ⟨h3.1,by show p.2.born < ((72057594037927936:Nat):Int); omega⟩
 refine ⟨ho,?_⟩
 unfold entL widW
 rw [ho,if_pos rfl]
 simp [placeWs,widL,be_length]
theorem ofQ_len (t:List UInt8) (q:Int):∀ (l:List (Nat×Msg)),(∀ p∈l,EntOk p)→(ofQ t q l).length=20 * (l.filter (isQ t q)).length
 | [],_=>rfl
 | p :: l,h=>by
   have ih:=ofQ_len t q l (fun x hx=>h x (.tail _ hx))
   unfold ofQ at *
   by_cases hp:isQ t q p=true
   · rw [List.filter_cons_of_pos hp,List.flatMap_cons,List.length_append,ih,(entL_len (h p (.head _))).2,List.length_cons]; omega
   · rw [List.filter_cons_of_neg hp]; exact ih
structure QueOk (D:DiskD) (x:QueD) (done:List (Nat×Msg)):Prop where
 q:∃ q:Nat,x.q=(q:Int)∧q < 3∧x.R.head=qHead x.topic q
 top:NameMath.topicL x.topic=true
 tl:x.topic.length≤1000
 b0:x.b0=0
 least:x.least=0
 b:x.R.b=0
 sz:x.R.size=200
 ok:SegOk D x.R
 only:SegOnly D x.R
 txt:x.R.txt=ofQ x.topic x.q done
structure DisI (base:Nat) (w:World) (C:CqD) (D:DiskD) (X:KxD) (done:List (Nat×Msg)) (mk:Nat):Prop where
 cq:CqAt base w C
 dsk:DiskAt base w D
 kx:KxAt base w X D
 db:C.db=D.blk
 quiet:Quiet D
 awc:∀ k,C.foot k→¬ D.foot k
 awx:¬ C.foot X.blk
 ents:∀ p∈done,EntOk p
 que:∀ x∈C.qs,QueOk D x done
 uniq:C.qs.Pairwise fun x y=>¬ (x.topic=y.topic∧x.q=y.q)
 has:∀ p∈done,∃ x∈C.qs,x.topic=p.2.topic∧x.q=p.2.queue
 absent:∀ (t:List UInt8) (q:Nat),q < 3→(∀ x∈C.qs,¬ (x.topic=t∧x.q=(q:Int)))→∀ n,n≤99999999→D.find (nameL (qHead t q) n)=none
 files:D.files.length≤4+done.length
 names:∀ p∈D.files,p.1.length≤2000
 many:X.many=mk
 waits:D.waits.length≤10+done.length+2 * mk
def DisF (C:CqD) (D:DiskD) (X:KxD) (k:Nat):Prop:=C.foot k∨D.foot k∨k=X.blk
theorem DisI.lt {base:Nat} {w:World} {C:CqD} {D:DiskD} {X:KxD} {done:List (Nat×Msg)} {mk:Nat} (h:DisI base w C D X done mk) {k:Nat} (hk:DisF C D X k):k < w.heap.size:=by
 rcases hk with hk | hk | rfl
 · exact h.cq.lt hk
 · exact h.dsk.lt hk
 · exact (Array.getElem?_eq_some_iff.1 h.kx.cells).1
theorem DisI.mod {base:Nat} {w w':World} {C:CqD} {D:DiskD} {X:KxD} {done:List (Nat×Msg)} {mk:Nat} {M:Nat→Prop} (h:DisI base w C D X done mk) (hm:Mod M w w') (hM:∀ k,DisF C D X k→¬ M k):DisI base w' C D X done mk :=
 { h with cq:=h.cq.mod hm (fun k hk=>hM k (.inl hk)),dsk:=h.dsk.mod hm (fun k hk=>hM k (.inr (.inl hk))),
          kx:={ h.kx with cells:=(hm.block _ (Array.getElem?_eq_some_iff.1 h.kx.cells).1 (hM _ (.inr (.inr rfl)))).trans h.kx.cells } }
theorem DisI.below {base:Nat} {w w':World} {C:CqD} {D:DiskD} {X:KxD} {done:List (Nat×Msg)} {mk:Nat} (h:DisI base w C D X done mk) (hb:Below w.heap.size w w'):DisI base w' C D X done mk :=
 h.mod (M:=fun _=>False) (Mod.of_below hb) (fun _ _ h=>h)
theorem QueOk.other {D D':DiskD} {x:QueD} {done:List (Nat×Msg)} {p:Nat×Msg} {t:List UInt8} {q:Nat} (hq:q < 3) (h:QueOk D x done) (hl:0 < x.R.n→x.R.b+(x.R.n - 1) * x.R.size≤99999999) (ht:p.2.topic=t) (hpq:p.2.queue=(q:Int)) (hne:¬ (x.topic=t∧x.q=(q:Int)))
 (ho:∀ n,(∀ m,m≤99999999→n≠nameL (qHead t q) m)→D'.find n=D.find n):QueOk D' x (done++[p]):=by
 obtain ⟨xq,h1,h2,h3⟩:=h.q
 have hnm:∀ n,n≤99999999→D'.find (nameL x.R.head n)=D.find (nameL x.R.head n):=fun n hn=>ho _ fun m hm e=>by
  rw [h3] at e
  obtain ⟨e1,e2⟩:=qname_inj h2 hq hn hm e
  exact hne ⟨e1,by rw [h1,e2]⟩
 have hpl:∀ i,i < x.R.n→x.R.b+i * x.R.size≤99999999:=fun i hi=>by
  have h4:=hl (by omega)
  have h5:i * x.R.size≤(x.R.n - 1) * x.R.size:=Nat.mul_le_mul_right _ (by omega)
  omega
 have hby:∀ n,n≤99999999→D'.bytes (nameL x.R.head n)=D.bytes (nameL x.R.head n):=fun n hn=>by unfold DiskD.bytes; rw [hnm n hn]
 refine { h with ok:=fun i hi=>?_,only:=fun m hm hi=>?_,txt:=?_ }
 · rw [hby _ (hpl i hi),hnm _ (hpl i hi)]; exact h.ok i hi
 · rw [hnm m hm]; exact h.only m hm hi
 · rw [ofQ_no done (fun e=>hne ⟨e.1.symm.trans ht |>.symm ▸ rfl,e.2.symm.trans hpq⟩)]; exact h.txt
theorem QueOk.keep {D D':DiskD} {x:QueD} {done:List (Nat×Msg)} (h:QueOk D x done) (ho:∀ (t:List UInt8) (q n:Nat),D'.find (nameL (qHead t q) n)=D.find (nameL (qHead t q) n)):QueOk D' x done:=by
 obtain ⟨xq,h1,h2,h3⟩:=h.q
 refine { h with ok:=fun i hi=>?_,only:=fun m hm hi=>?_ }
 ·
  have h4:=h.ok i hi
  unfold DiskD.bytes at h4 ⊢
  rw [h3] at h4 ⊢
  rw [ho]; exact h4
 · have h4:=h.only m hm hi
   rw [h3] at h4 ⊢
   rw [ho]; exact h4
theorem key_ne {x:QueD} {t:List UInt8} {q:Nat} (h:¬ (x.topic=t∧x.q=(q:Int))):x.key≠.agg #[.string (S t),.int .i64 (q:Int)]:=fun e=>by
 unfold QueD.key at e
 injection e with e
 injection e with e
 injection e with e1 e2
 injection e2 with e2 _
 injection e1 with e1
 injection e2 with _ e2
 exact h ⟨OctMath.S_inj e1,e2⟩
theorem kx_grow {base:Nat} {w w':World} {X:KxD} {D D':DiskD} {M:Nat→Prop} (h:KxAt base w X D) (hm:Mod M w w') (hM:¬ M X.blk) (hb:D'.blk=D.blk) (h1:D'.find xslots=D.find xslots) (h2:D'.find xlinks=D.find xlinks) (hf:∀ k,D'.foot k→D.foot k∨w.heap.size≤k):KxAt base w' X D' where
 cells:=by rw [hb]; exact (hm.block _ (Array.getElem?_eq_some_iff.1 h.cells).1 hM).trans h.cells
 slots:=by rw [h1]; exact h.slots
 links:=by rw [h2]; exact h.links
 low:=h.low
 away:=fun hk=>(hf _ hk).elim h.away fun h3=>by have:=(Array.getElem?_eq_some_iff.1 h.cells).1; omega
structure DisS (base:Nat) (W w':World) (C:CqD) (D:DiskD) (X:KxD) (done:List (Nat×Msg)) (mk:Nat) (C':CqD) (D':DiskD) (X':KxD):Prop where
 inv:DisI base w' C' D' X' done mk
 cb:C'.blk=C.blk
 db:D'.blk=D.blk
 xb:X'.blk=X.blk
 room:D'.room=D.room - 20
 foot:∀ k,DisF C' D' X' k→DisF C D X k∨W.heap.size≤k
 mod:Mod (DisF C D X) W w'
theorem dis_add {base:Nat} {C:CqD} {D:DiskD} {X:KxD} {done:List (Nat×Msg)} {mk:Nat} (p:Nat×Msg) (t:List UInt8) (qi sz hv born:Int) (W:World) (h:DisI base W C D X done mk) (hp:EntOk p) (ht:p.2.topic=t) (hqi:p.2.queue=qi) (hsz:((recL p.2).length:Int)=sz) (hhv:((hashL [p.2.tag]:Nat):Int)=hv) (hborn:p.2.born=born)
 (hT:TabB base W) (hbase:base≤W.heap.size) (hroom:20≤D.room) (hdl:done.length≤10000) (hmk:mk≤100000) :
 Calls Tryz.prog 134 #[.pointer (some ⟨C.blk,0,none⟩),.string (S t),.int .i64 qi,.agg #[.int .i64 (p.1:Int),.int .i64 sz,.int .i64 hv,.int .i64 born]] W fun e w'=>∃ pos:Int,e=.returned (.tuple #[.int .i64 pos,.int .i64 0])∧∃ C' D',DisS base W w' C D X (done++[p]) mk C' D' X:=by
 obtain ⟨q,hq,hql⟩:=hp.q
 have hqi':qi=(q:Int):=hqi.symm.trans hq
 subst hqi'
 have htop:NameMath.topicL t=true:=by rw [← ht]; exact hp.top
 have htl:t.length≤1000:=by rw [← ht]; exact hp.tl
 obtain ⟨hok,hel⟩:=entL_len hp
 have hput:∀ w,Calls Tryz.prog 191 #[.agg #[.int .i64 (p.1:Int),.int .i64 sz,.int .i64 hv,.int .i64 born]] w fun e w'=>e=.returned (.tuple #[.string (S (entL p)),.bool true])∧Below w.heap.size w w':=fun w=>by
  have h1:=hp.id
  have h2:=hp.len
  have h3:=hp.born
  have h4:=hashL_lt [p.2.tag]
  have h5:=place_put (p.1:Int) ((recL p.2).length:Int) ((hashL [p.2.tag]:Nat):Int) p.2.born (by omega) (by omega) (by omega) (by omega) w
  rw [hok] at h5
  rw [← hsz,← hhv,← hborn]
  exact h5
 have hwl:D.waits.length≤1000000:=by have:=h.waits; omega
 have hents:∀ y∈done++[p],EntOk y:=fun y hy=>by
  rcases List.mem_append.1 hy with hy | hy
  · exact h.ents y hy
  · rw [List.mem_singleton] at hy; subst hy; exact hp
 have hcl:∀ k,C.foot k→k < W.heap.size:=fun k hk=>h.cq.lt hk
 have hxl:X.blk < W.heap.size:=h.lt (.inr (.inr rfl))
 by_cases hex:∃ x∈C.qs,x.topic=t∧x.q=(q:Int)
 ·
  obtain ⟨x,hx,hx1,hx2⟩:=hex
  obtain ⟨l1,l2,hl⟩:=List.append_of_mem hx
  have ho:=h.que x hx
  have hlen:x.R.txt.length=20 * (done.filter (isQ x.topic x.q)).length:=by rw [ho.txt,ofQ_len _ _ done h.ents]
  have hfl:(done.filter (isQ x.topic x.q)).length≤done.length:=List.length_filter_le ..
  refine (add_old t q (p.1:Int) sz hv born W h.cq h.dsk h.db h.quiet hbase hT hl ⟨hx1,hx2⟩ htop htl hql h.awc ho.ok ho.only ho.sz (by rw [hlen]; omega) (by unfold SegD.e; rw [ho.b,hlen]; omega) (by rw [ho.b0]; omega) (entL p) hel hput hroom hwl).mono ?_
  rintro e w' ⟨rfl,R',D',ha⟩
  have happ:=ha.app
  have hrow:=ha.row
  obtain ⟨xq,hxq,hxq3,hhd⟩:=ho.q
  have hxqq:xq=q:=by rw [hxq] at hx2; omega
  subst hxqq
  have hot:∀ n,(∀ m,m≤99999999→n≠nameL (qHead t xq) m)→D'.find n=D.find n:=fun n hn=>happ.other n (by rw [hhd,hx1]; exact hn)
  have hun:=h.uniq
  rw [hl] at hun
  have hun1:=List.pairwise_append.1 hun
  have hun2:=List.pairwise_cons.1 hun1.2.1
  have hne:∀ y,y∈l1∨y∈l2→¬ (y.topic=t∧y.q=(xq:Int)):=fun y hy e=>by
   rcases hy with hy | hy
   · exact hun1.2.2 y hy x (.head _) ⟨e.1.trans hx1.symm,e.2.trans hx2.symm⟩
   · exact hun2.1 y hy ⟨hx1.trans e.1.symm,hx2.trans e.2.symm⟩
  have hmq:∀ y,y∈l1∨y∈l2→y∈C.qs:=fun y hy=>by
   rw [hl]
   rcases hy with hy | hy
   · exact List.mem_append_left _ hy
   · exact List.mem_append_right _ (.tail _ hy)
  have hcf:∀ k,CqD.foot { C with qs:=l1++{ x with R:=R' } :: l2 } k→C.foot k∨W.heap.size≤k:=fun k hk=>by
   rcases hk with hk | hk | ⟨y,hy,hk⟩
   · exact .inl (.inl hk)
   · exact .inl (.inr (.inl hk))
   ·
    have hy':y∈l1++{ x with R:=R' } :: l2:=hy
    rcases List.mem_append.1 hy' with hy | hy
    · exact .inl (.inr (.inr ⟨y,hmq y (.inl hy),hk⟩))
    · rcases List.mem_cons.1 hy with rfl | hy
      · rcases hk with hk | hk
        · exact .inl (.inr (.inr ⟨x,hx,.inl hk⟩))
        · exact (ha.rfoot k hk).imp_left fun h2=>.inr (.inr ⟨x,hx,.inr h2⟩)
      · exact .inl (.inr (.inr ⟨y,hmq y (.inr hy),hk⟩))
  have hx':QueOk D' { x with R:=R' } (done++[p]):=by
   refine ⟨⟨xq,hxq,hxq3,by show R'.head=_; rw [hrow]; exact hhd⟩,ho.top,ho.tl,ho.b0,ho.least,by show R'.b=0; rw [hrow]; exact ho.b,by show R'.size=200; rw [hrow]; exact ho.sz,happ.ok,happ.only,?_⟩
   show R'.txt=ofQ x.topic x.q (done++[p])
   rw [ofQ_yes done (ht.trans hx1.symm) (hq.trans hx2.symm),← ho.txt,hrow]
  refine ⟨_,rfl,{ C with qs:=l1++{ x with R:=R' } :: l2 },D',⟨⟨ha.cq,ha.whole.dsk,?_,h.db.trans happ.blk.symm,happ.quiet,?_,?_,hents,?_,?_,?_,?_,?_,?_,h.many,?_⟩,rfl,happ.blk,rfl,?_,?_,?_⟩⟩
  · refine kx_grow h.kx ha.mod ?_ happ.blk (hot _ fun m _=>(qname_x t xq m).1.symm) (hot _ fun m _=>(qname_x t xq m).2.symm) ha.dfoot
    rintro (h1 | h1)
    · exact h.kx.away h1
    · exact h.awx (.inr (.inr ⟨x,hx,.inr h1⟩))
  ·
   intro k hk hk2
   rcases hk with hk | hk | ⟨y,hy,hk⟩
   · rcases ha.dfoot k hk2 with h2 | h2
     · exact h.awc k (.inl hk) h2
     · have:=hcl k (.inl hk); omega
   · rcases ha.dfoot k hk2 with h2 | h2
     · exact h.awc k (.inr (.inl hk)) h2
     · have:=hcl k (.inr (.inl hk)); omega
   ·
    have hold:∀ y∈C.qs,(k=y.blk∨y.R.foot k)→False:=fun y hy hk=>by
     rcases ha.dfoot k hk2 with h2 | h2
     · exact h.awc k (.inr (.inr ⟨y,hy,hk⟩)) h2
     · have:=hcl k (.inr (.inr ⟨y,hy,hk⟩)); omega
    have hy':y∈l1++{ x with R:=R' } :: l2:=hy
    rcases List.mem_append.1 hy' with hy | hy
    · exact hold y (hmq y (.inl hy)) hk
    · rcases List.mem_cons.1 hy with rfl | hy
      · rcases hk with hk | hk
        · exact hold x hx (.inl hk)
        · exact ha.whole.ap k hk2 hk
      · exact hold y (hmq y (.inr hy)) hk
  · exact fun hk=>(hcf _ hk).elim h.awx fun h2=>by omega
  ·
   intro y hy
   have hy':y∈l1++{ x with R:=R' } :: l2:=hy
   have hoth:y∈l1∨y∈l2→QueOk D' y (done++[p]):=fun hy=>(h.que y (hmq y hy)).other hql (fun hn=>((h.cq.que y (hmq y hy)).2.1.long hn).2.2) ht hq (hne y hy) hot
   rcases List.mem_append.1 hy' with hy | hy
   · exact hoth (.inl hy)
   · rcases List.mem_cons.1 hy with rfl | hy
     · exact hx'
     · exact hoth (.inr hy)
  · exact List.pairwise_append.2 ⟨hun1.1,List.pairwise_cons.2 ⟨fun y hy=>hun2.1 y hy,hun2.2⟩,fun y hy z hz=>by
     rcases List.mem_cons.1 hz with rfl | hz
     · exact hun1.2.2 y hy x (.head _)
     · exact hun1.2.2 y hy z (.tail _ hz)⟩
  ·
   have hin:∀ y∈C.qs,∃ z∈l1++{ x with R:=R' } :: l2,z.topic=y.topic∧z.q=y.q:=fun y hy=>by
    rw [hl] at hy
    rcases List.mem_append.1 hy with hy | hy
    · exact ⟨y,List.mem_append_left _ hy,rfl,rfl⟩
    · rcases List.mem_cons.1 hy with rfl | hy
      · exact ⟨_,List.mem_append_right _ (.head _),rfl,rfl⟩
      · exact ⟨y,List.mem_append_right _ (.tail _ hy),rfl,rfl⟩
   intro r hr
   rcases List.mem_append.1 hr with hr | hr
   · obtain ⟨y,hy,e1,e2⟩:=h.has r hr
     obtain ⟨z,hz,e3,e4⟩:=hin y hy
     exact ⟨z,hz,e3.trans e1,e4.trans e2⟩
   · rw [List.mem_singleton] at hr
     subst hr
     obtain ⟨z,hz,e3,e4⟩:=hin x hx
     exact ⟨z,hz,e3.trans (hx1.trans ht.symm),e4.trans (hx2.trans hq.symm)⟩
  ·
   intro t' q' hq' hno n hn
   have hno2:∀ y∈C.qs,¬ (y.topic=t'∧y.q=(q':Int)):=fun y hy=>by
    rw [hl] at hy
    rcases List.mem_append.1 hy with hy | hy
    · exact hno y (List.mem_append_left _ hy)
    · rcases List.mem_cons.1 hy with rfl | hy
      · exact hno { y with R:=R' } (List.mem_append_right _ (.head _))
      · exact hno y (List.mem_append_right _ (.tail _ hy))
   rw [hot _ fun m hm e=>by
    obtain ⟨e1,e2⟩:=qname_inj hq' hql hn hm e
    exact hno2 x hx ⟨hx1.trans e1.symm,by rw [hx2,e2]⟩]
   exact h.absent t' q' hq' hno2 n hn
  · have:=happ.files; have:=h.files; rw [List.length_append]; show _≤4+(done.length+1); omega
  · intro r hr
    rcases happ.names r hr with h2 | ⟨r2,h3,h4⟩
    · rw [hhd,qname_len _ hxq3] at h2; have:=ho.tl; omega
    · rw [← h4]; exact h.names r2 h3
  ·
   obtain ⟨f,o,_,hw⟩:=happ.waits
   rw [hw,List.length_append,List.length_append]
   have:=h.waits
   show _+1≤10+(_+1)+_
   omega
  · rw [happ.room,hel]; rfl
  ·
   intro k hk
   rcases hk with hk | hk | hk
   · exact (hcf k hk).imp_left .inl
   · exact (ha.dfoot k hk).imp_left fun h2=>.inr (.inl h2)
   · exact .inl (.inr (.inr hk))
  · exact ha.mod.mono fun k _ hk=>hk.elim (fun h2=>.inr (.inl h2)) fun h2=>.inl (.inr (.inr ⟨x,hx,.inr h2⟩))
 ·
  have hno:∀ x∈C.qs,¬ (x.topic=t∧x.q=(q:Int)):=fun x hx e=>hex ⟨x,hx,e⟩
  refine (add_new t q (p.1:Int) sz hv born W h.cq h.dsk h.db h.quiet (by have:=h.files; omega) (fun r hr=>by have:=h.names r hr; omega) hbase hT (fun x hx=>key_ne (hno x hx)) htop htl hql (h.absent t q hql hno) h.awc (entL p) hel hput hroom hwl).mono ?_
  rintro e w' ⟨rfl,x,D',ha⟩
  have hcf:∀ k,CqD.foot { C with qs:=C.qs++[x] } k→C.foot k∨W.heap.size≤k:=fun k hk=>by
   rcases hk with hk | hk | ⟨y,hy,hk⟩
   · exact .inl (.inl hk)
   · exact .inl (.inr (.inl hk))
   ·
    have hy':y∈C.qs++[x]:=hy
    rcases List.mem_append.1 hy' with hy | hy
    · exact .inl (.inr (.inr ⟨y,hy,hk⟩))
    · rw [List.mem_singleton] at hy
      subst hy
      exact .inr (ha.xfoot k hk)
  refine ⟨_,rfl,{ C with qs:=C.qs++[x] },D',⟨⟨ha.cq,ha.dsk,?_,h.db.trans ha.dblk.symm,ha.quiet,ha.away,?_,hents,?_,?_,?_,?_,?_,?_,h.many,?_⟩,rfl,ha.dblk,rfl,?_,?_,?_⟩⟩
  · refine kx_grow h.kx ha.mod ?_ ha.dblk (ha.other _ fun m _=>(qname_x t q m).1.symm) (ha.other _ fun m _=>(qname_x t q m).2.symm) ha.dfoot
    rintro (h1 | h1)
    · exact h.awx (.inr (.inl h1))
    · exact h.kx.away h1
  · exact fun hk=>(hcf _ hk).elim h.awx fun h2=>by omega
  ·
   intro y hy
   have hy':y∈C.qs++[x]:=hy
   rcases List.mem_append.1 hy' with hy | hy
   · exact (h.que y hy).other hql (fun hn=>((h.cq.que y hy).2.1.long hn).2.2) ht hq (hno y hy) ha.other
   ·
    rw [List.mem_singleton] at hy
    subst hy
    refine ⟨⟨q,ha.qq,hql,by rw [ha.topic]; exact ha.hd⟩,by rw [ha.topic]; exact htop,by rw [ha.topic]; exact htl,ha.b0,ha.least,ha.b,ha.sz,ha.whole.ok,ha.whole.only,?_⟩
    rw [ofQ_yes done (ht.trans ha.topic.symm) (hq.trans ha.qq.symm),ofQ_none fun r hr e=>by
     obtain ⟨z,hz,e1,e2⟩:=h.has r hr
     exact hno z hz ⟨e1.trans (e.1.trans ha.topic),e2.trans (e.2.trans ha.qq)⟩]
    rw [List.nil_append]; exact ha.txt
  · refine List.pairwise_append.2 ⟨h.uniq,List.pairwise_singleton ..,fun y hy z hz e=>?_⟩
    rw [List.mem_singleton] at hz
    subst hz
    exact hno y hy ⟨e.1.trans ha.topic,e.2.trans ha.qq⟩
  ·
   intro r hr
   rcases List.mem_append.1 hr with hr | hr
   · obtain ⟨y,hy,e1,e2⟩:=h.has r hr
     exact ⟨y,List.mem_append_left _ hy,e1,e2⟩
   · rw [List.mem_singleton] at hr
     subst hr
     exact ⟨x,List.mem_append_right _ (.head _),ha.topic.trans ht.symm,ha.qq.trans hq.symm⟩
  ·
   intro t' q' hq' hn' n hn
   have hx':=hn' x (List.mem_append_right _ (.head _))
   rw [ha.other _ fun m hm e=>by
    obtain ⟨e1,e2⟩:=qname_inj hq' hql hn hm e
    exact hx' ⟨ha.topic.trans e1.symm,by rw [ha.qq,e2]⟩]
   exact h.absent t' q' hq' (fun y hy=>hn' y (List.mem_append_left _ hy)) n hn
  · have:=ha.files; have:=h.files; rw [List.length_append]; show _≤4+(done.length+1); omega
  · intro r hr
    rcases ha.names r hr with h2 | ⟨r2,h3,h4⟩
    · rw [qname_len _ hql] at h2; omega
    · rw [← h4]; exact h.names r2 h3
  · rw [ha.waits,List.length_append]
    have:=h.waits
    show _+1≤10+(_+1)+_
    omega
  · rw [ha.room,hel]; rfl
  ·
   intro k hk
   rcases hk with hk | hk | hk
   · exact (hcf k hk).imp_left .inl
   · exact (ha.dfoot k hk).imp_left fun h2=>.inr (.inl h2)
   · exact .inl (.inr (.inr hk))
  · exact ha.mod.mono fun k _ hk=>hk.elim (fun h2=>.inl (.inr (.inl h2))) fun h2=>.inr (.inl h2)
theorem dis_key {base:Nat} {C:CqD} {D:DiskD} {X:KxD} {done:List (Nat×Msg)} {mk:Nat} (t k:List UInt8) (id:Nat) (born:Int) (W:World) (h:DisI base W C D X done mk) (ht:NameMath.topicL t=true) (hk:RecMath.keyL k=true) (htl:t.length≤1000) (hkl:k.length≤1000)
 (hid:id≤99999999) (hborn:0≤born∧born≤1099511627776) (hbase:base≤W.heap.size) (hroom:20≤D.room) (hdl:done.length≤10000) (hmk:mk≤100000) :
 Calls Tryz.prog 135 #[.pointer (some ⟨X.blk,0,none⟩),.string (S t),.string (S k),.int .i64 (id:Int),.int .i64 born] W fun e w'=>e=.returned (.int .i64 0)∧∃ D' X',DisS base W w' C D X done (mk+1) C D' X':=by
 obtain ⟨b,rfl⟩:∃ b:Nat,born=(b:Int):=⟨born.toNat,by omega⟩
 refine (kadd_q t k id b W h.kx h.dsk h.quiet hbase ht hk htl hkl (by omega) (by omega) (by have:=h.many; omega) hroom (by have:=h.waits; omega)).mono ?_
 rintro e w' ⟨rfl,D',ha⟩
 have hg:=ha.grows
 have hn:D'.files.map (·.1)=D.files.map (·.1):=by have:=hg.names; rw [List.append_nil] at this; exact this
 have hfind:∀ (t:List UInt8) (q n:Nat),D'.find (nameL (qHead t q) n)=D.find (nameL (qHead t q) n):=fun t q n=>ha.other _ (qname_x t q n).1 (qname_x t q n).2
 have hcl:∀ k,C.foot k→k < W.heap.size:=fun k hk=>h.cq.lt hk
 refine ⟨rfl,D',{ X with many:=X.many+1 },⟨⟨h.cq.mod ha.mod ?_,ha.dsk,ha.kx,h.db.trans hg.blk.symm,hg.quiet,?_,h.awx,h.ents,fun x hx=>(h.que x hx).keep hfind,h.uniq,h.has,fun t q hq hno n hn=>?_,?_,?_,?_,?_⟩,rfl,hg.blk,rfl,hg.room,?_,?_⟩⟩
 · rintro j hj (h1 | h1)
   · exact h.awc j hj h1
   · rw [h1] at hj; exact h.awx hj
 ·
  intro j hj h1
  rcases ha.foot j h1 with h2 | h2
  · exact h.awc j hj h2
  · have:=hcl j hj; omega
 · rw [hfind]; exact h.absent t q hq hno n hn
 · have:=congrArg List.length hn; rw [List.length_map,List.length_map] at this; have:=h.files; omega
 ·
  intro r hr
  have h1:r.1∈D.files.map (·.1):=by rw [← hn]; exact List.mem_map.2 ⟨r,hr,rfl⟩
  obtain ⟨r2,h2,h3⟩:=List.mem_map.1 h1
  rw [← h3]; exact h.names r2 h2
 · show X.many+1=mk+1; rw [h.many]
 · rw [hg.waits]; have:=h.waits; omega
 ·
  intro j hj
  rcases hj with hj | hj | hj
  · exact .inl (.inl hj)
  · exact (ha.foot j hj).imp_left fun h2=>.inr (.inl h2)
  · exact .inl (.inr (.inr hj))
 · exact ha.mod.mono fun j _ hj=>hj.elim (fun h2=>.inr (.inl h2)) fun h2=>.inr (.inr h2)
end Go.Proofs.YtnoehodmmkioaaaGreatDoor.CqW
namespace Go.Proofs.YtnoehodmmkioaaaGreatDoor.StoW
open Go.RowKit Go.MapKept OctMath RecMath RecW TapeMath DskW SegW MapG TapeW PendW
def OneT (w1:World) (t:List UInt8) (v:Value) (w:World):Prop:=∃ g,v=.slice (some ⟨g,0,none⟩) 1 1∧w.heap[g]?=some (.cells #[.string (S t)] 9 (0,0))∧w1.heap.size≤g
theorem hash_tag (t:List UInt8) (ht:t.length≤1048576) (g:Nat) (w:World) (h:w.heap[g]?=some (.cells #[.string (S t)] 9 (0,0))) :
 Calls Tryz.prog 133 #[.slice (some ⟨g,0,none⟩) 1 1] w fun e w'=>e=.returned (.int .i64 ((NameW.hashL [t]:Nat):Int))∧w'=w :=
 NameW.hash_any [t] (by simp) (fun l hl=>by rw [List.mem_singleton] at hl; subst hl; omega) (some ⟨g,0,none⟩) 1 w (fun i hi=>by
  obtain rfl:i=0:=by simpa using hi
  exact ⟨g,0,rfl,cell_at h 0 _ rfl⟩)
theorem look_any {base B:Nat} {T:OwnD} (id:Nat) (m:Msg) (q cb xb:Nat) (sz:Int) (d:Value) (a:Option Addr) (c:Nat) (W:World) (hT:OwnAt base W T) (hB:W.heap[B]?=some (.cells #[.pointer (some ⟨T.blk,0,none⟩),.pointer (some ⟨cb,0,none⟩),.pointer (some ⟨xb,0,none⟩),d] 164 (0,0)))
 (hsz:sizeR T.recs (id:Int)=sz) {M:Nat→Prop} {I:World→Nat→World→Prop} (hM:∀ k,M k→k < W.heap.size) (hBM:¬ M B) (κ:Int) (hκ:κ=1∨κ=3) (htl:m.tag.length≤1048576) (hkn:m.keys.length≤1048576) (hv:Int) (hhv:((NameW.hashL [m.tag]:Nat):Int)=hv)
 (hks:∀ w,Mod M W w→Strs w a (m.keys.map S)) (hdr:∀ U j w,I U j w→I U j w.drew)
 (hkey:∀ U j (h:j < m.keys.length) w,Below W.heap.size W U→I U j w→Mod M U w→Calls Tryz.prog 135 #[.pointer (some ⟨xb,0,none⟩),.string (S m.topic),.string (S m.keys[j]),.int .i64 (id:Int),.int .i64 m.born] w fun e w'=>e=.returned (.int .i64 0)∧I U (j+1) w'∧Mod M U w')
 (hadd:∀ w,Below W.heap.size W w→Calls Tryz.prog 134 #[.pointer (some ⟨cb,0,none⟩),.string (S m.topic),.int .i64 (q:Int),.agg #[.int .i64 (id:Int),.int .i64 sz,.int .i64 hv,.int .i64 m.born]] w fun e w'=>∃ p:Int,e=.returned (.tuple #[.int .i64 p,.int .i64 0])∧I w 0 w'∧Mod M w w') :
 Calls Tryz.prog 80 #[.pointer (some ⟨B,0,none⟩),.int .i64 (id:Int),.agg #[.int .i64 κ,.int .i64 (q:Int),.int .i64 m.due,.int .i64 m.retry,.int .i64 m.ref,.int .i64 m.born,.string (S m.topic),.string (S m.tag),.string (S m.body),.slice a m.keys.length c]] W fun e w'=>e=.returned (.int .i64 0)∧(∃ U,Below W.heap.size W U∧I U m.keys.length w')∧Mod M W w':=by
 have HB0:Hid (Below W.heap.size W (W.alloc (.cells #[.int .i64 κ,.int .i64 (q:Int),.int .i64 m.due,.int .i64 m.retry,.int .i64 m.ref,.int .i64 m.born,.string (S m.topic),.string (S m.tag),.string (S m.body),.slice a m.keys.length c] 53))):=(Below.refl _ W).alloc (Nat.le_refl _) _
 have HX0:Hid (RecW.Boxed (W.alloc (.cells #[.int .i64 κ,.int .i64 (q:Int),.int .i64 m.due,.int .i64 m.retry,.int .i64 m.ref,.int .i64 m.born,.string (S m.topic),.string (S m.tag),.string (S m.body),.slice a m.keys.length c] 53)) W.heap.size #[.int .i64 κ,.int .i64 (q:Int),.int .i64 m.due,.int .i64 m.retry,.int .i64 m.ref,.int .i64 m.born,.string (S m.topic),.string (S m.tag),.string (S m.body),.slice a m.keys.length c]):=RecW.Boxed.new W _ _
 have HH0:Hid ((W.alloc (.cells #[.int .i64 κ,.int .i64 (q:Int),.int .i64 m.due,.int .i64 m.retry,.int .i64 m.ref,.int .i64 m.born,.string (S m.topic),.string (S m.tag),.string (S m.body),.slice a m.keys.length c] 53)).heap.size=W.heap.size+1):=by exact Array.size_push _
 have HT0:=Lib.hid (hT.below HB0.out)
 have HB1:Hid ((W.alloc (.cells #[.int .i64 κ,.int .i64 (q:Int),.int .i64 m.due,.int .i64 m.retry,.int .i64 m.ref,.int .i64 m.born,.string (S m.topic),.string (S m.tag),.string (S m.body),.slice a m.keys.length c] 53)).heap[B]?=_):=(HB0.out.block B (Array.getElem?_eq_some_iff.1 hB).1).trans hB
 have HSZ:=Lib.hid hsz
 have HM:=Lib.hid hM
 have HADD:=Lib.hid hadd
 have HBM:=Lib.hid hBM
 have HKS:=Lib.hid hks
 have HDR:=Lib.hid hdr
 have HKY:=Lib.hid hkey
 have HHS:Hid (∀ g w,w.heap[g]?=some (.cells #[.string (S m.tag)] 9 (0,0))→Calls Tryz.prog 133 #[.slice (some ⟨g,0,none⟩) 1 1] w fun e w'=>e=.returned (.int .i64 hv)∧w'=w):=fun g w h=>by rw [← hhv]; exact hash_tag m.tag htl g w h
 have HKN:=Lib.hid hkn
 clear hT hB hsz hM hadd hBM htl hkn hks hdr hkey hhv
 have hκ2:(κ != 1)=false∨((κ != 1)=true∧(κ != 3)=false):=by
  rcases hκ with h | h <;> subst h
  · exact .inl rfl
  · exact .inr ⟨rfl,rfl⟩
 clear hκ
 rcases hκ2 with κ1 | ⟨κ1,κ3⟩
 all_goals
  go_enter Tryz.func80,Tryz.ntmps80
  go_upto_region 3 with fail
  generalize W.alloc (.cells #[.int .i64 κ,.int .i64 (q:Int),.int .i64 m.due,.int .i64 m.retry,.int .i64 m.ref,.int .i64 m.born,.string (S m.topic),.string (S m.tag),.string (S m.body),.slice a m.keys.length c] 53)=w1 at *
  obtain ⟨A,hA⟩:∃ A,W.heap.size=A:=⟨_,rfl⟩
  rw [hA] at HX0 HH0
  have HAA:=Lib.hid hA
  have HSI:Hid (∀ w,RecW.ExtR w1.drew w→Calls Tryz.prog 81 #[.pointer (some ⟨T.blk,0,none⟩),.int .i64 (id:Int)] w fun e w'=>e=.returned (.int .i64 sz)∧w'=w):=fun w hw=>by
   have:=size_any (id:Int) w (HT0.out.below (((Below.refl w1.heap.size w1).drew).trans hw))
   rw [HSZ.out] at this
   exact this
  have HC0:Hid (∀ w,RecW.ExtR w1.drew w→w.cell? ⟨B,0,none⟩=some (.pointer (some ⟨T.blk,0,none⟩))):=fun w hw=>cell_at (ext_heap hw HB1.out) 0 _ rfl
  have HK:Hid (∀ w,RecW.ExtR w1.drew w→∀ j v,#[.int .i64 κ,.int .i64 (q:Int),.int .i64 m.due,.int .i64 m.retry,.int .i64 m.ref,.int .i64 m.born,.string (S m.topic),.string (S m.tag),.string (S m.body),.slice a m.keys.length c][j]?=some v→w.cell? ⟨A,j,none⟩=some v):=fun w hw j v hv=>by
   have h1:=HX0.out j v hv
   have h2:w.heap[A]?=w1.heap[A]?:=(((Below.refl w1.heap.size w1).drew).trans hw).block A (by have:=HH0.out; omega)
   unfold World.cell? at h1 ⊢
   show (match w.heap[A]? with | _=>_)=_
   rw [h2]; exact h1
  clear hA
  rw [HAA.out]
  refine GrowM.wp_region_s (by kernel_rfl) ?_
  refine GrowM.st_grow 15 [none,none,none,none,none,none,some (.inl (.int .i64 sz)),none,none,some (.inr (fun _=>OneT w1.drew m.tag)),some (.inl (.int .i64 hv)),none,none,none,some (.inr (fun _=>FreshP w1.drew))] RecW.ExtR (by kernel_rfl) (by kernel_rfl) RecW.ExtR.refl (fun _ _ _=>RecW.ExtR.trans) ?_ ?_
  ·
   intro K hK Y hY l v w w' hR
   simp only [List.mem_cons,List.not_mem_nil,or_false] at hK
   rcases hK with rfl | rfl | rfl | rfl | rfl | rfl | rfl | rfl | rfl | rfl | rfl | rfl | rfl | rfl | rfl <;> simp only [reduceCtorEq,Option.some.injEq,Sum.inr.injEq] at hY
   iterate 2
    · subst hY; exact fun ⟨g,h1,h2,h3⟩=>⟨g,h1,ext_heap hR h2,h3⟩
  simp only [List.take_succ_cons,List.take_zero,List.drop_succ_cons,List.drop_zero,Nat.reduceSub]
  iterate 4
   refine GrowN.g_det rfl ?_
   apply Exists.intro
   refine ⟨fun w hw hF=>?_,?_⟩
   · clear hF
     go_simp
     exact ⟨rfl,RecW.ExtR.refl _⟩
   go_frame
  refine GrowN.g_det rfl ?_
  apply Exists.intro
  refine ⟨fun w hw hF=>?_,?_⟩
  · clear hF
    have c0:=HC0.out w hw
    go_simp
    exact ⟨rfl,RecW.ExtR.refl _⟩
  go_frame
  refine GrowN.g_det rfl ?_
  apply Exists.intro
  refine ⟨fun w hw hF=>?_,?_⟩
  · clear hF
    go_simp
    exact ⟨rfl,RecW.ExtR.refl _⟩
  go_frame
  refine GrowN.g_con rfl (fun w hw hF=>?_) ?_
  · clear hF
    go_simp
    exact (HSI.out w hw).mono fun e w' h=>⟨_,h.1,rfl,h.2 ▸ RecW.ExtR.refl _⟩
  go_frame
  refine GrowN.g_det rfl ?_
  apply Exists.intro
  refine ⟨fun w hw hF=>?_,?_⟩
  · clear hF
    go_simp
    exact ⟨rfl,RecW.ExtR.refl _⟩
  go_frame
  refine GrowN.g_det rfl ?_
  apply Exists.intro
  refine ⟨fun w hw hF=>?_,?_⟩
  · clear hF
    have k7:=HK.out w hw 7 _ rfl
    go_simp
    exact ⟨rfl,RecW.ExtR.refl _⟩
  go_frame
  refine GrowN.g_new rfl (fun w hw hF=>?_) (fun v9=>?_)
  · clear hF
    go_simp
    exact ⟨⟨_,rfl,heap_alloc_new w _,hw.size⟩,(Below.refl _ w).alloc (Nat.le_refl _) _⟩
  go_frame
  refine GrowN.g_con rfl (fun w hw hF=>?_) ?_
  ·
   obtain ⟨g,hg,hh,_⟩:=hF _ (.head _) (by kernel_rfl)
   clear hF
   subst hg
   go_simp
   exact (HHS.out g w hh).mono fun e w' h=>⟨_,h.1,rfl,h.2 ▸ RecW.ExtR.refl _⟩
  go_frame
  refine GrowN.g_det rfl ?_
  apply Exists.intro
  refine ⟨fun w hw hF=>?_,?_⟩
  · clear hF
    go_simp
    exact ⟨rfl,RecW.ExtR.refl _⟩
  go_frame
  refine GrowN.g_det rfl ?_
  apply Exists.intro
  refine ⟨fun w hw hF=>?_,?_⟩
  · clear hF
    have k5:=HK.out w hw 5 _ rfl
    go_simp
    exact ⟨rfl,RecW.ExtR.refl _⟩
  go_frame
  refine GrowN.g_det rfl ?_
  apply Exists.intro
  refine ⟨fun w hw hF=>?_,?_⟩
  · clear hF
    go_simp
    exact ⟨rfl,RecW.ExtR.refl _⟩
  go_frame
  refine GrowN.g_new rfl (fun w hw hF=>?_) (fun v14=>?_)
  · clear hF
    go_simp
    exact ⟨⟨_,rfl,heap_alloc_new w _,hw.size⟩,(Below.refl _ w).alloc (Nat.le_refl _) _⟩
  go_frame
  refine GrowN.g_nil fun w2 hw2 hF=>?_
  obtain ⟨g,hg,hh,hgA⟩:=hF _ (.head _)
  clear hF
  subst hg
  refine GrowM.st_call (fun v w'=>w'.heap[g]?=some (.cells #[.int .i64 (id:Int),.int .i64 sz,.int .i64 hv,.int .i64 m.born] 68 (0,0))∧Mod (fun k=>k=g) w2 w') (by kernel_rfl) rfl rfl ?_ ?_
  ·
   have f0:=frozen_at hh 0
   have f1:=frozen_at hh 1
   have f2:=frozen_at hh 2
   have f3:=frozen_at hh 3
   have z0:=cell_at hh 0 _ rfl
   have z1:=cell_at hh 1 _ rfl
   have z2:=cell_at hh 2 _ rfl
   have z3:=cell_at hh 3 _ rfl
   go_simp
   exact ⟨heap_setCell_same _ g 3 _ _ _ (heap_setCell_same _ g 2 _ _ _ (heap_setCell_same _ g 1 _ _ _ (heap_setCell_same _ g 0 _ _ _ hh))),((((Mod.refl (fun k=>k=g) w2).setCell (.inl rfl) _).setCell (.inl rfl) _).setCell (.inl rfl) _).setCell (.inl rfl) _⟩
  rintro v w3 ⟨h3,hm3⟩
  go_frame
  refine GrowM.st_end rfl ?_
  have hw1:RecW.ExtR w1 w2:=((Below.refl w1.heap.size w1).drew).trans hw2
  have hAw:A < w1.heap.size:=by have:=HH0.out; omega
  have hgA':w1.heap.size≤g:=hgA
  have hb3:Below w1.heap.size w1 w3:=Below.trans (show Below w1.heap.size w1 w2 from hw1) ((hm3.to_below w1.heap.size hw1.size (fun k hk=>hk ▸ hgA')))
  have HB3:Hid (Below W.heap.size W w3):=HB0.out.trans (hb3.mono HB0.out.size)
  have b1:w3.cell? ⟨B,1,none⟩=some (.pointer (some ⟨cb,0,none⟩)):=cell_at ((hb3.block B (Array.getElem?_eq_some_iff.1 HB1.out).1).trans HB1.out) 1 _ rfl
  have HX3:Hid (RecW.Boxed w3 A #[.int .i64 κ,.int .i64 (q:Int),.int .i64 m.due,.int .i64 m.retry,.int .i64 m.ref,.int .i64 m.born,.string (S m.topic),.string (S m.tag),.string (S m.body),.slice a m.keys.length c]):=HX0.out.below hb3
  have HBX:Hid (w3.heap[B]?=_):=(hb3.block B (Array.getElem?_eq_some_iff.1 HB1.out).1).trans HB1.out
  have k0:w3.cell? ⟨A,0,none⟩=some (.int .i64 κ):=HX3.out 0 _ rfl
  have k1:w3.cell? ⟨A,1,none⟩=some (.int .i64 (q:Int)):=HX3.out 1 _ rfl
  have k2:w3.cell? ⟨A,2,none⟩=some (.int .i64 m.due):=HX3.out 2 _ rfl
  have k3:w3.cell? ⟨A,3,none⟩=some (.int .i64 m.retry):=HX3.out 3 _ rfl
  have k4:w3.cell? ⟨A,4,none⟩=some (.int .i64 m.ref):=HX3.out 4 _ rfl
  have k5:w3.cell? ⟨A,5,none⟩=some (.int .i64 m.born):=HX3.out 5 _ rfl
  have k6:w3.cell? ⟨A,6,none⟩=some (.string (S m.topic)):=HX3.out 6 _ rfl
  have k7:w3.cell? ⟨A,7,none⟩=some (.string (S m.tag)):=HX3.out 7 _ rfl
  have k8:w3.cell? ⟨A,8,none⟩=some (.string (S m.body)):=HX3.out 8 _ rfl
  have k9:w3.cell? ⟨A,9,none⟩=some (.slice a m.keys.length c):=HX3.out 9 _ rfl
  have y0:w3.cell? ⟨g,0,none⟩=some (.int .i64 (id:Int)):=cell_at h3 0 _ rfl
  have y1:w3.cell? ⟨g,1,none⟩=some (.int .i64 sz):=cell_at h3 1 _ rfl
  have y2:w3.cell? ⟨g,2,none⟩=some (.int .i64 hv):=cell_at h3 2 _ rfl
  have y3:w3.cell? ⟨g,3,none⟩=some (.int .i64 m.born):=cell_at h3 3 _ rfl
  have HAW:Hid (A < w3.heap.size):=Nat.lt_of_lt_of_le hAw hb3.size
  have HAD:=Lib.hid (HADD.out w3.drew (HB3.out.drew))
  clear h3 hm3 hw2 hw1 hh hgA hgA' hb3 HC0 HK HSI hAw HADD
  go_upto_region 4 with fail
  refine GrowM.wp_region_s (by kernel_rfl) ?_
  refine GrowM.st_grow 9 [none,none,none,none,none,none,none,none,none] (fun u v=>v=u) (by kernel_rfl) (by kernel_rfl) (fun _=>rfl) (fun _ _ _ h k=>k.trans h) ?_ ?_
  · exact GrowN.stab0 rfl
  simp only [List.take_succ_cons,List.take_zero,List.drop_succ_cons,List.drop_zero,Nat.reduceSub]
  iterate 9
   refine GrowN.g_det rfl ?_
   apply Exists.intro
   refine ⟨fun w hw hF=>?_,?_⟩
   · obtain rfl:=hw.symm
     clear hF
     go_simp
     first | exact rfl | exact ⟨rfl,rfl⟩
   go_frame
  refine GrowN.g_nil fun wz hwz hF=>?_
  obtain rfl:=hwz.symm
  clear hF
  refine GrowM.st_call (fun v w'=>(∃ p:Int,v=.tuple #[.int .i64 p,.int .i64 0])∧I w3.drew 0 w'∧Mod M w3.drew w') (by kernel_rfl) rfl rfl ?_ ?_
  · go_simp
    refine HAD.out.mono ?_
    rintro e w' ⟨p,rfl,hb⟩
    exact ⟨_,rfl,⟨p,rfl⟩,hb⟩
  rintro v w4 ⟨⟨p,rfl⟩,hb⟩
  go_frame
  refine GrowM.st_grow 15 [none,none,none,none,none] (fun u v=>v=u) (by kernel_rfl) (by kernel_rfl) (fun _=>rfl) (fun _ _ _ h k=>k.trans h) ?_ ?_
  · exact GrowN.stab0 rfl
  simp only [List.take_succ_cons,List.take_zero,List.drop_succ_cons,List.drop_zero,Nat.reduceSub]
  iterate 5
   refine GrowN.g_det rfl ?_
   apply Exists.intro
   refine ⟨fun w hw hF=>?_,?_⟩
   · obtain rfl:=hw.symm
     clear hF
     go_simp
     first | exact rfl | exact ⟨rfl,rfl⟩
   go_frame
  refine GrowN.g_nil fun wz hwz hF=>?_
  obtain rfl:=hwz.symm
  clear hF
  refine GrowM.st_end rfl ?_
  obtain ⟨U,hU⟩:∃ U,U=w3.drew:=⟨_,rfl⟩
  have HI4:Hid (I U 0 w4):=by show I U 0 w4; rw [hU]; exact hb.1
  have HM4:Hid (Mod M U w4):=by show Mod M U w4; rw [hU]; exact hb.2
  have HBU:Hid (Below W.heap.size W U):=by show Below W.heap.size W U; rw [hU]; exact HB3.out.drew
  have HAU:Hid (A < U.heap.size):=by show A < U.heap.size; rw [hU]; exact HAW.out
  have HXU:Hid (RecW.Boxed U A #[.int .i64 κ,.int .i64 (q:Int),.int .i64 m.due,.int .i64 m.retry,.int .i64 m.ref,.int .i64 m.born,.string (S m.topic),.string (S m.tag),.string (S m.body),.slice a m.keys.length c]):=by show RecW.Boxed U A #[.int .i64 κ,.int .i64 (q:Int),.int .i64 m.due,.int .i64 m.retry,.int .i64 m.ref,.int .i64 m.born,.string (S m.topic),.string (S m.tag),.string (S m.body),.slice a m.keys.length c]; rw [hU]; exact HX3.out
  have HBY:Hid (U.heap[B]?=some (.cells #[.pointer (some ⟨T.blk,0,none⟩),.pointer (some ⟨cb,0,none⟩),.pointer (some ⟨xb,0,none⟩),d] 164 (0,0))):=by show U.heap[B]?=_; rw [hU]; exact HBX.out
  have HX4:Hid (RecW.Boxed w4 A #[.int .i64 κ,.int .i64 (q:Int),.int .i64 m.due,.int .i64 m.retry,.int .i64 m.ref,.int .i64 m.born,.string (S m.topic),.string (S m.tag),.string (S m.body),.slice a m.keys.length c]):=fun j v e=>by
   have:=HX3.out j v e
   rw [← this]
   exact hb.2.cell (show A < w3.heap.size from HAW.out) (fun h=>by have h5:A < W.heap.size:=HM.out _ h; have:=HAA.out; omega)
  clear hU hb HAD k0 k1 k2 k3 k4 k5 k6 k7 k8 k9 y0 y1 y2 y3 b1 HX3 HBX HB3 HAW HX0 HH0 HT0 HB1
  have k9:w4.cell? ⟨A,9,none⟩=some (.slice a m.keys.length c):=HX4.out 9 _ rfl
  go_wp2_with fail
  go_loopw [54] (fun i wr=>∃ j:Nat,j≤m.keys.length∧i=.int .i64 (j:Int)∧Hid (I U j wr)∧Hid (Mod M U wr)) (fun i _=>m.keys.length+1 - (intOf i).toNat)
  case atStart=>exact ⟨0,by omega,rfl,HI4.out,HM4.out⟩
  case round =>
   obtain ⟨j,hj,rfl,HIJ,HMJ⟩:=hrel
   have hkn:=HKN.out
   by_cases hlt:j < m.keys.length
   ·
    have HWR:Hid (Mod M W wr):=(Mod.of_below (M:=M) HBU.out).trans HMJ.out
    obtain ⟨kb,ko,rfl,hkc⟩:=HKS.out wr HWR.out j (by rw [List.length_map]; exact hlt)
    rw [List.getElem_map] at hkc
    have HKJ:=Lib.hid (HKY.out U j hlt wr.drew HBU.out (HDR.out _ _ _ HIJ.out) (HMJ.out.trans (Mod.of_below (M:=M) ((Below.refl _ wr).drew))))
    generalize m.keys[j]=ky at *
    have hAM:¬ M A:=fun h=>by have h5:A < W.heap.size:=HM.out _ h; have:=HAA.out; omega
    have e5:wr.drew.cell? ⟨A,5,none⟩=some (.int .i64 m.born):=(HMJ.out.cell HAU.out hAM).trans (HXU.out 5 _ rfl)
    have e6:wr.drew.cell? ⟨A,6,none⟩=some (.string (S m.topic)):=(HMJ.out.cell HAU.out hAM).trans (HXU.out 6 _ rfl)
    have b2:wr.drew.cell? ⟨B,2,none⟩=some (.pointer (some ⟨xb,0,none⟩)):=cell_at (w:=wr.drew) ((HMJ.out.block B (Array.getElem?_eq_some_iff.1 HBY.out).1 HBM.out).trans HBY.out) 2 _ rfl
    clear hAM
    go_wp2_with fail
    refine GrowM.wp_region_s (by kernel_rfl) ?_
    refine GrowM.st_grow 10 [none,none,none,none,none,none,none,none,none,none] (fun u v=>v=u) (by kernel_rfl) (by kernel_rfl) (fun _=>rfl) (fun _ _ _ h k=>k.trans h) ?_ ?_
    · exact GrowN.stab0 rfl
    simp only [List.take_succ_cons,List.take_zero,List.drop_succ_cons,List.drop_zero,Nat.reduceSub]
    iterate 10
     refine GrowN.g_det rfl ?_
     apply Exists.intro
     refine ⟨fun w hw hF=>?_,?_⟩
     · obtain rfl:=hw.symm
       clear hF
       go_simp
       first | exact rfl | exact ⟨rfl,rfl⟩
     go_frame
    refine GrowN.g_nil fun wz hwz hF=>?_
    obtain rfl:=hwz.symm
    clear hF
    refine GrowM.st_call (fun v w'=>v=.int .i64 0∧I U (j+1) w'∧Mod M U w') (by kernel_rfl) rfl rfl ?_ ?_
    · go_simp
      refine HKJ.out.mono ?_
      rintro e w' ⟨rfl,hb⟩
      exact ⟨_,rfl,rfl,hb⟩
    rintro v w5 ⟨rfl,hb⟩
    go_frame
    refine GrowM.st_grow 12 [none] (fun u v=>v=u) (by kernel_rfl) (by kernel_rfl) (fun _=>rfl) (fun _ _ _ h k=>k.trans h) ?_ ?_
    · exact GrowN.stab0 rfl
    simp only [List.take_succ_cons,List.take_zero,List.drop_succ_cons,List.drop_zero,Nat.reduceSub]
    refine GrowN.g_det rfl ?_
    apply Exists.intro
    refine ⟨fun w hw hF=>?_,?_⟩
    · obtain rfl:=hw.symm
      clear hF
      go_simp
      first | exact rfl | exact ⟨rfl,rfl⟩
    go_frame
    refine GrowN.g_nil fun wz hwz hF=>?_
    obtain rfl:=hwz.symm
    clear hF
    refine GrowM.st_end rfl ?_
    have HI5:Hid (I U (j+1) w5):=hb.1
    have HM5:Hid (Mod M U w5):=hb.2
    clear hb e5 e6 b2 HKJ hkc
    go_wp2_with fail
    go_roundw
    case rel=>exact ⟨j+1,by omega,by go_num,HI5,HM5⟩
    case measure=>simp [intOf]; omega
   · obtain rfl:j=m.keys.length:=by omega
     go_wp2_with fail
     go_ret
     exact ⟨rfl,⟨U,HBU.out,HIJ.out⟩,(Mod.of_below (M:=M) HBU.out).trans HMJ.out⟩
end Go.Proofs.YtnoehodmmkioaaaGreatDoor.StoW
