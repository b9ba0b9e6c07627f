/- The dispatcher's step at any record: what look does comes as a hypothesis. And what follows. -/
import Derived.Test.YtnoehodmmkioaaaGreatDoorF07
import Derived.Test.YtnoehodmmkioaaaGreatDoorF09
import Derived.Test.YtnoehodmmkioaaaGreatDoorF05
import Derived.Test.YtnoehodmmkioaaaGreatDoorF02
import Derived.Test.YtnoehodmmkioaaaGreatDoorF03
import Derived.Test.YtnoehodmmkioaaaGreatDoorF04
import Derived.Test.YtnoehodmmkioaaaGreatDoorF01
import Derived.ArgAppend
import Derived.Lib.SliceRun
set_option maxHeartbeats 25600000
set_option maxRecDepth 100000
set_option linter.unusedVariables false
set_option linter.unusedSimpArgs false
namespace Go.Proofs.YtnoehodmmkioaaaGreatDoor.StoW
open Go.RowKit Go.MapKept OctMath RecMath RecW TapeMath DskW SegW MapG TapeW PendW
theorem dstep_any {base B:Nat} {T:TapeD} (id:Nat) (m:Msg) (y:Value) (sz:Int) (x:Value) (d:Int) (W:World) (h:TapeAt base W T) (hT:TabB base W) (hbase:base≤W.heap.size) (hup:T.D.down=false)
 (hB:W.heap[B]?=some (.cells #[.pointer (some ⟨T.O.blk,0,none⟩),y,x,.int .i64 d] 164 (0,0))) (hl:T.O.recs.length≤1073741824) (hn:nextL T.O.recs d=((id:Int),true)) (hsy:id < T.R.synced) (hmem:(id,m)∈T.O.recs)
 (hsz:sizeR T.O.recs (id:Int)=sz) (hszb:0≤sz∧sz≤1024∧(id:Int)≤99999999)
 {M:Nat→Prop} {J:World→Prop} (hM:∀ k,M k→k < W.heap.size∧k≠B∧¬ T.O.foot k)
 (hlk:∀ w a c,Below W.heap.size W w→Strs w a (m.keys.map S)→(∀ ad,a=some ad→W.heap.size≤ad.block)→Calls Tryz.prog 80 #[.pointer (some ⟨B,0,none⟩),.int .i64 (id:Int),.agg #[.int .i64 m.kind,.int .i64 m.queue,.int .i64 m.due,.int .i64 m.retry,.int .i64 m.ref,.int .i64 m.born,.string (S m.topic),.string (S m.tag),.string (S m.body),.slice a m.keys.length c]] w fun e w'=>e=.returned (.int .i64 0)∧J w'∧Mod M W w') :
 Calls Tryz.prog 38 #[.pointer (some ⟨B,0,none⟩)] W fun e w'=>e=.returned (.tuple #[.bool true,.int .i64 0])∧∃ w3,J w3∧Mod M W w3∧Mod (fun k=>k=B) w3 w' ∧
  w'.heap[B]?=some (.cells #[.pointer (some ⟨T.O.blk,0,none⟩),y,x,.int .i64 ((id:Int)+sz)] 164 (0,0)):=by
 have c0:=cell_at hB 0 _ rfl
 have c3:=cell_at hB 3 _ rfl
 have hBl:=(Array.getElem?_eq_some_iff.1 hB).1
 have hss:(T.O.recs.map (·.1)).Pairwise (· < ·):=by rw [h.recs]; exact (recs_sorted h.fits).2
 have HNX:=Lib.hid (next_any d W.drew (h.own.below ((Below.refl _ W).drew)) hss hl)
 rw [hn] at HNX
 have HSY:Hid (∀ w,Below W.heap.size W w→Calls Tryz.prog 79 #[.pointer (some ⟨T.O.blk,0,none⟩)] w fun e w'=>e=.returned (.int .i64 (T.R.synced:Int))∧w'=w):=fun w hb=>TapeW.synced_any w (h.below hb)
 have HRD:Hid (∀ w,Below W.heap.size W w→Calls Tryz.prog 71 #[.pointer (some ⟨T.O.blk,0,none⟩),.int .i64 (id:Int)] w fun e w'=>∃ a c,e=.returned (.tuple #[.agg #[.int .i64 m.kind,.int .i64 m.queue,.int .i64 m.due,.int .i64 m.retry,.int .i64 m.ref,.int .i64 m.born,.string (S m.topic),.string (S m.tag),.string (S m.body),.slice a m.keys.length c],.int .i64 0])∧Below W.heap.size w w'∧Strs w' a (m.keys.map S)∧∀ ad,a=some ad→W.heap.size≤ad.block):=fun w hb =>
  (tread_any id m w (h.below hb) hup (hT.below hb) (Nat.le_trans hbase hb.size) hmem).mono fun e w' ⟨a,c,h5,h6,h7,h8⟩=>⟨a,c,h5,h7.mono hb.size,h6,fun ad e=>Nat.le_trans hb.size (h8 ad e)⟩
 have HLK:=Lib.hid hlk
 have HSI:Hid (∀ w2,Mod M W w2→Calls Tryz.prog 81 #[.pointer (some ⟨T.O.blk,0,none⟩),.int .i64 (id:Int)] w2 fun e w'=>e=.returned (.int .i64 sz)∧w'=w2):=fun w2 hm=>by
  have:=size_any (id:Int) w2 (h.own.mod hm (fun k hk hk2=>(hM k hk2).2.2 hk))
  rw [hsz] at this
  exact this
 have HB:=Lib.hid hB
 have HM:=Lib.hid hM
 have hsy':(id:Int) < (T.R.synced:Int):=by omega
 have hsz1:(0:Int)≤sz∧sz≤1024∧(id:Int)≤99999999:=hszb
 clear h hT hbase hup hB hl hn hsy hmem hsz hM hlk hss hszb
 go_enter Tryz.func38,Tryz.ntmps38
 go_upto_region 3 with fail
 refine GrowM.wp_region_s (by kernel_rfl) ?_
 refine GrowM.st_grow 8 [none,none,none,none,none,none,none,none] (fun u v=>v=u) (by kernel_rfl) (by kernel_rfl) (fun _=>rfl) (fun _ _ _ h k=>k.trans h) ?_ ?_
 · exact GrowN.stab0 rfl
 simp only [List.take_succ_cons,List.take_zero,List.drop_succ_cons,List.drop_zero,Nat.reduceSub]
 iterate 8
  refine GrowN.g_det rfl ?_
  apply Exists.intro
  refine ⟨fun w hw hF=>?_,?_⟩
  · obtain rfl:=hw.symm
    clear hF
    go_simp
    first | exact rfl | exact ⟨rfl,rfl⟩
  go_frame
 refine GrowN.g_nil fun wz hwz hF=>?_
 obtain rfl:=hwz.symm
 clear hF
 refine GrowM.st_call (fun v w'=>v=.tuple #[.int .i64 (id:Int),.bool true]∧Drawn W.drew w') (by kernel_rfl) rfl rfl ?_ ?_
 ·
  go_simp
  refine HNX.out.mono ?_
  rintro e w' ⟨rfl,hb⟩
  exact ⟨_,rfl,rfl,hb⟩
 rintro v w2 ⟨rfl,hb⟩
 go_frame
 refine GrowM.st_grow 14 [none,none,none,none,none] (fun u v=>v=u) (by kernel_rfl) (by kernel_rfl) (fun _=>rfl) (fun _ _ _ h k=>k.trans h) ?_ ?_
 · exact GrowN.stab0 rfl
 simp only [List.take_succ_cons,List.take_zero,List.drop_succ_cons,List.drop_zero,Nat.reduceSub]
 iterate 5
  refine GrowN.g_det rfl ?_
  apply Exists.intro
  refine ⟨fun w hw hF=>?_,?_⟩
  · obtain rfl:=hw.symm
    clear hF
    go_simp
    first | exact rfl | exact ⟨rfl,rfl⟩
  go_frame
 refine GrowN.g_nil fun wz hwz hF=>?_
 obtain rfl:=hwz.symm
 clear hF
 refine GrowM.st_end rfl ?_
 have hb2:Below W.heap.size W w2:=((Below.refl W.heap.size W).drew).trans (hb.below _)
 have HB2:=Lib.hid hb2
 have HRD2:=Lib.hid (HRD.out w2 hb2)
 have HSY2:=Lib.hid (HSY.out w2 hb2)
 have d0:w2.cell? ⟨B,0,none⟩=some (.pointer (some ⟨T.O.blk,0,none⟩)):=by rw [hb2.cell hBl]; exact c0
 clear hb hb2 HNX c0 c3 HRD HSY
 generalize ((T.R.synced:Nat):Int)=sy at *
 go_wp2_with fail
 refine HSY2.out.mono ?_
 rintro e w2' ⟨rfl,rfl⟩
 go_wp2_with fail
 refine HRD2.out.mono ?_
 rintro e w3 ⟨a,c,rfl,hb3,hs3,ha3⟩
 have HS3:=Lib.hid hs3
 have HA3:=Lib.hid ha3
 have HB3:=Lib.hid (HB2.out.trans hb3)
 clear hb3 hs3 ha3 HRD2 HSY2
 go_wp2_with fail
 have hb4:Below W.heap.size W (w3.alloc (.cells #[.int .i64 m.kind,.int .i64 m.queue,.int .i64 m.due,.int .i64 m.retry,.int .i64 m.ref,.int .i64 m.born,.string (S m.topic),.string (S m.tag),.string (S m.body),.slice a m.keys.length c] 53)):=HB3.out.alloc HB3.out.size _
 have HS4:Hid (Strs (w3.alloc (.cells #[.int .i64 m.kind,.int .i64 m.queue,.int .i64 m.due,.int .i64 m.retry,.int .i64 m.ref,.int .i64 m.born,.string (S m.topic),.string (S m.tag),.string (S m.body),.slice a m.keys.length c] 53)) a (m.keys.map S)):=Strs.below HS3.out ((Below.refl _ w3).alloc (Nat.le_refl _) _)
 generalize w3.alloc (.cells #[.int .i64 m.kind,.int .i64 m.queue,.int .i64 m.due,.int .i64 m.retry,.int .i64 m.ref,.int .i64 m.born,.string (S m.topic),.string (S m.tag),.string (S m.body),.slice a m.keys.length c] 53)=w4 at *
 generalize w3.heap.size=g3 at *
 have HLK4:=Lib.hid (HLK.out w4 a c hb4 HS4.out HA3.out)
 have HB4:=Lib.hid hb4
 clear hb4 HLK d0
 refine HLK4.out.mono ?_
 rintro e w5 ⟨rfl,hp,hm⟩
 have HSI5:=Lib.hid (HSI.out w5 hm)
 have hB5:w5.heap[B]?=some (.cells #[.pointer (some ⟨T.O.blk,0,none⟩),y,x,.int .i64 d] 164 (0,0)):=by
  rw [hm.block B hBl (fun h=>(HM.out B h).2.1 rfl)]; exact HB.out
 have HBB:=Lib.hid hB5
 have HPM:=Lib.hid (show J w5∧Mod M W w5 from ⟨hp,hm⟩)
 have d0:=cell_at hB5 0 _ rfl
 have d3:=cell_at hB5 3 _ rfl
 have f3:=frozen_at hB5 3
 clear hp hm HLK4 HSI hB5
 go_wp2_with fail
 refine HSI5.out.mono ?_
 rintro e w5' ⟨rfl,rfl⟩
 clear HSI5
 go_wp2_with fail
 go_ret2
 exact ⟨rfl,_,HPM.out.1,HPM.out.2,(Mod.refl (fun k=>k=B) _).setCell (.inl rfl) _,heap_setCell_same _ B 3 _ _ _ HBB.out⟩
theorem recs_apart {p:Nat} {its:List TapeMath.Item} (hf:Fits p its):∀ (id i:Nat) (m m':Msg),(id,m)∈recsOf p its→(i,m')∈recsOf p its→id < i→id+(recL m).length≤i:=by
 induction its generalizing p with
 | nil=>intro id i m m' h; cases h
 | cons x l ih =>
   unfold Fits at hf
   have hs:=(recs_sorted hf.2).1
   intro id i m m' h h' hlt
   cases x with
   | one y =>
     unfold recsOf at h h'
     rcases List.mem_cons.1 h with e | h
     · have e1:id=p:=congrArg Prod.fst e
       have e2:m=y:=congrArg Prod.snd e
       rcases List.mem_cons.1 h' with e3 | h'
       · have e4:i=p:=congrArg Prod.fst e3
         omega
       · rw [e1,e2]; exact hs _ h'
     · have h1:p+(TapeMath.Item.one y).len≤id:=hs _ h
       rcases List.mem_cons.1 h' with e3 | h'
       · have e4:i=p:=congrArg Prod.fst e3
         omega
       · exact ih hf.2 id i m m' h h' hlt
   | fill n =>
     unfold recsOf at h h'
     exact ih hf.2 id i m m' h h' hlt
open CacheW CqW KxW
structure DisOk (p:Nat×Msg):Prop where
 ent:EntOk p
 kind:p.2.kind=1∨p.2.kind=3
 keys:∀ k∈p.2.keys,RecMath.keyL k=true∧k.length≤1000
 tag:p.2.tag.length≤1048576
 many:p.2.keys.length≤100
structure DisT (base B:Nat) (W w:World) (C:CqD) (D:DiskD) (X:KxD) (done:List (Nat×Msg)) (mk n:Nat) (C':CqD) (D':DiskD) (X':KxD):Prop where
 inv:DisI base w C' D' X' done mk
 cb:C'.blk=C.blk
 db:D'.blk=D.blk
 xb:X'.blk=X.blk
 room:D'.room=D.room - ((20 * n:Nat):Int)
 foot:∀ k,DisF C' D' X' k→DisF C D X k∨W.heap.size≤k
 mod:Mod (fun k=>DisF C D X k∨k=B) W w
theorem DisT.trans {base B:Nat} {W w v:World} {C C1 C2:CqD} {D D1 D2:DiskD} {X X1 X2:KxD} {l1 l2:List (Nat×Msg)} {m1 m2 n1 n2:Nat} (h:DisT base B W w C D X l1 m1 n1 C1 D1 X1) (k:DisT base B w v C1 D1 X1 l2 m2 n2 C2 D2 X2):DisT base B W v C D X l2 m2 (n1+n2) C2 D2 X2 where
 inv:=k.inv
 cb:=k.cb.trans h.cb
 db:=k.db.trans h.db
 xb:=k.xb.trans h.xb
 room:=by rw [k.room,h.room]; omega
 foot:=fun j hj=>(k.foot j hj).elim (h.foot j) fun h2=>.inr (Nat.le_trans h.mod.size h2)
 mod:=mod_over h.mod k.mod fun j hj=>hj.elim (fun h2=>(h.foot j h2).imp_left .inl) fun h2=>.inl (.inr h2)
theorem dis_base {base:Nat} {w:World} {C:CqD} {D:DiskD} {X:KxD} {done:List (Nat×Msg)} {mk:Nat} (h:DisI base w C D X done mk) {k:Nat} (hk:DisF C D X k):base≤k:=by
 rcases hk with (hk | hk | ⟨x,hx,hk⟩) | hk | hk
 · rw [hk]; exact h.cq.low.1
 · rw [hk]; exact h.cq.low.2.1
 ·
  rcases hk with hk | hk | hk
  · rw [hk]; exact h.cq.low.2.2 x hx
  · rw [hk]; exact (h.cq.que x hx).2.1.above
  · exact ownBlock_of_own (h.cq.que x hx).2.1.row k hk
 · exact h.dsk.base_le hk
 · rw [hk]; exact h.kx.low
theorem strs_mod {M:Nat→Prop} {W w:World} {a:Option Addr} {ss:List ByteArray} (h:Strs W a ss) (hm:Mod M W w) (hM:∀ ad,a=some ad→¬ M ad.block):Strs w a ss :=
 ((Row1.of_strs h).mod hm hM).to_strs
theorem dis_look {base B:Nat} {T:OwnD} {C:CqD} {D:DiskD} {X:KxD} {done:List (Nat×Msg)} {mk:Nat} (id:Nat) (m:Msg) (d:Int) (a:Option Addr) (c:Nat) (W:World) (hT:OwnAt base W T) (hTB:TabB base W) (hbase:base≤W.heap.size)
 (hB:W.heap[B]?=some (.cells #[.pointer (some ⟨T.blk,0,none⟩),.pointer (some ⟨C.blk,0,none⟩),.pointer (some ⟨X.blk,0,none⟩),.int .i64 d] 164 (0,0)))
 (hsz:sizeR T.recs (id:Int)=((recL m).length:Int)) (hI:DisI base W C D X done mk) (hp:DisOk (id,m)) (hBF:¬ DisF C D X B) (hroom:((20 * (1+m.keys.length):Nat):Int)≤D.room) (hdl:done.length≤9999) (hmk:mk≤90000)
 (hs:Strs W a (m.keys.map S)) (hsa:∀ ad,a=some ad→¬ DisF C D X ad.block) :
 Calls Tryz.prog 80 #[.pointer (some ⟨B,0,none⟩),.int .i64 (id:Int),.agg (cellsM m a c)] W fun e w'=>e=.returned (.int .i64 0)∧(∃ C' D' X' U,Below W.heap.size W U∧DisI base w' C' D' X' (done++[(id,m)]) (mk+m.keys.length)∧C'.blk=C.blk∧D'.blk=D.blk∧X'.blk=X.blk∧D'.room=D.room - ((20 * (1+m.keys.length):Nat):Int)∧∀ k,DisF C' D' X' k→DisF C D X k∨U.heap.size≤k)∧Mod (DisF C D X) W w':=by
 obtain ⟨q,hq,hql⟩:=hp.ent.q
 have hq':m.queue=(q:Int):=hq
 have hmany:=hp.many
 have hmany':m.keys.length≤100:=hmany
 have hcells:cellsM m a c=#[.int .i64 m.kind,.int .i64 (q:Int),.int .i64 m.due,.int .i64 m.retry,.int .i64 m.ref,.int .i64 m.born,.string (S m.topic),.string (S m.tag),.string (S m.body),.slice a m.keys.length c]:=by rw [← hq']; rfl
 rw [hcells]
 refine (look_any (base:=base) (M:=DisF C D X) (I:=fun U j w=>∃ C' D' X',DisI base w C' D' X' (done++[(id,m)]) (mk+j)∧C'.blk=C.blk∧D'.blk=D.blk∧X'.blk=X.blk∧D'.room=D.room - ((20 * (1+j):Nat):Int)∧∀ k,DisF C' D' X' k→DisF C D X k∨U.heap.size≤k)
  id m q C.blk X.blk ((recL m).length:Int) (.int .i64 d) a c W hT hB hsz (fun k hk=>hI.lt hk) hBF m.kind hp.kind hp.tag (by omega) ((NameW.hashL [m.tag]:Nat):Int) rfl (fun w hm=>strs_mod hs hm hsa) ?_ ?_ ?_).mono ?_
 · rintro U j w ⟨C',D',X',h1,h2⟩
   exact ⟨C',D',X',h1.below ((Below.refl _ w).drew),h2⟩
 ·
  rintro U j hj w hU ⟨C',D',X',h1,h2,h3,h4,h5,h6⟩ hm
  have hk:=hp.keys m.keys[j] (List.getElem_mem hj)
  have hwl:(done++[(id,m)]).length=done.length+1:=by rw [List.length_append]; rfl
  have:=dis_key m.topic m.keys[j] id m.born w h1 hp.ent.top hk.1 hp.ent.tl hk.2 hp.ent.id hp.ent.born (Nat.le_trans hbase (Nat.le_trans hU.size hm.size)) (by rw [h5]; omega) (by omega) (by omega)
  rw [h4] at this
  refine this.mono ?_
  rintro e w' ⟨rfl,D2,X2,g⟩
  refine ⟨rfl,⟨C',D2,X2,g.inv,h2,g.db.trans h3,g.xb.trans h4,by rw [g.room,h5]; omega,fun k hk=>(g.foot k hk).elim (h6 k) fun h7=>.inr (Nat.le_trans hm.size h7)⟩,mod_over hm g.mod fun k hk=>h6 k hk⟩
 ·
  intro w hb
  refine (dis_add (id,m) m.topic (q:Int) ((recL m).length:Int) ((NameW.hashL [m.tag]:Nat):Int) m.born w (hI.below hb) hp.ent rfl hq' rfl rfl rfl (hTB.below hb) (Nat.le_trans hbase hb.size) (by omega) (by omega) (by omega)).mono ?_
  rintro e w' ⟨pos,rfl,C2,D2,g⟩
  exact ⟨pos,rfl,⟨C2,D2,X,g.inv,g.cb,g.db,rfl,by rw [g.room]; rfl,g.foot⟩,g.mod⟩
 · rintro e w' ⟨he,⟨U,hU,C',D',X',h⟩,hm⟩
   exact ⟨he,⟨C',D',X',U,hU,h⟩,hm⟩
theorem dis_step {base B:Nat} {T:TapeD} {C:CqD} {D:DiskD} {X:KxD} {done:List (Nat×Msg)} {mk:Nat} (id:Nat) (m:Msg) (d:Int) (W:World) (h:TapeAt base W T) (hT:TabB base W) (hbase:base≤W.heap.size) (hup:T.D.down=false)
 (hB:W.heap[B]?=some (.cells #[.pointer (some ⟨T.O.blk,0,none⟩),.pointer (some ⟨C.blk,0,none⟩),.pointer (some ⟨X.blk,0,none⟩),.int .i64 d] 164 (0,0))) (hl:T.O.recs.length≤1073741824) (hn:nextL T.O.recs d=((id:Int),true)) (hsy:id < T.R.synced) (hmem:(id,m)∈T.O.recs)
 (hI:DisI base W C D X done mk) (hp:DisOk (id,m)) (hBF:¬ DisF C D X B) (hTF:∀ k,DisF C D X k→¬ T.foot k) (hroom:((20 * (1+m.keys.length):Nat):Int)≤D.room) (hdl:done.length≤9999) (hmk:mk≤90000) :
 Calls Tryz.prog 38 #[.pointer (some ⟨B,0,none⟩)] W fun e w'=>e=.returned (.tuple #[.bool true,.int .i64 0])∧(∃ C' D' X',DisT base B W w' C D X (done++[(id,m)]) (mk+m.keys.length) (1+m.keys.length) C' D' X') ∧
  w'.heap[B]?=some (.cells #[.pointer (some ⟨T.O.blk,0,none⟩),.pointer (some ⟨C.blk,0,none⟩),.pointer (some ⟨X.blk,0,none⟩),.int .i64 ((id:Int)+((recL m).length:Int))] 164 (0,0)):=by
 have hBl:=(Array.getElem?_eq_some_iff.1 hB).1
 have hsz:sizeR T.O.recs (id:Int)=((recL m).length:Int):=size_rec (recs_nodup h) hmem
 have hlen:=hp.ent.len
 have hid:=hp.ent.id
 have hlen':(recL m).length≤1024:=hlen
 have hid':id≤99999999:=hid
 refine (dstep_any (M:=DisF C D X) (J:=fun w'=>∃ C' D' X',DisI base w' C' D' X' (done++[(id,m)]) (mk+m.keys.length)∧C'.blk=C.blk∧D'.blk=D.blk∧X'.blk=X.blk∧D'.room=D.room - ((20 * (1+m.keys.length):Nat):Int)∧∀ k,DisF C' D' X' k→DisF C D X k∨W.heap.size≤k)
  id m _ ((recL m).length:Int) _ d W h hT hbase hup hB hl hn hsy hmem hsz ⟨by omega,by omega,by omega⟩ (fun k hk=>⟨hI.lt hk,fun e=>hBF (e ▸ hk),fun h2=>hTF k hk (.inl h2)⟩) ?_).mono ?_
 ·
  intro w a c hb hs hsa
  refine (dis_look id m d a c w (h.own.below hb) (hT.below hb) (Nat.le_trans hbase hb.size) ((hb.block B hBl).trans hB) hsz (hI.below hb) hp hBF hroom hdl hmk hs (fun ad e hk=>by have:=hI.lt hk; have:=hsa ad e; omega)).mono ?_
  rintro e w' ⟨he,⟨C',D',X',U,hU,g1,g2,g3,g4,g5,g6⟩,hm⟩
  exact ⟨he,⟨C',D',X',g1,g2,g3,g4,g5,fun k hk=>(g6 k hk).imp_right fun h2=>Nat.le_trans hb.size (Nat.le_trans hU.size h2)⟩,(Mod.of_below hb).trans hm⟩
 ·
  rintro e w' ⟨he,w3,⟨C',D',X',g1,g2,g3,g4,g5,g6⟩,hm,hmB,hB'⟩
  refine ⟨he,⟨C',D',X',?_,g2,g3,g4,g5,g6,?_⟩,hB'⟩
  ·
   exact g1.mod hmB fun k hk e=>by
    subst e
    rcases g6 k hk with h2 | h2
    · exact hBF h2
    · omega
  · exact (hm.mono fun k _ hk=>Or.inl hk).trans (hmB.mono fun k _ hk=>Or.inr hk)
theorem runs_mono {f B:Nat} {Q Q':World→Prop} (hQ:∀ w,Q w→Q' w):∀ (n:Nat) (w:World),Runs f B Q n w→Runs f B Q' n w
 | 0,w,h=>by unfold Runs at h ⊢; exact h.mono fun e w' ⟨h1,h2⟩=>⟨h1,hQ _ h2⟩
 | n+1,w,h=>by unfold Runs at h ⊢; exact h.mono fun e w' ⟨h1,h2⟩=>⟨h1,runs_mono hQ n w' h2⟩
def keysN (l:List (Nat×Msg)):Nat:=(l.map fun p=>p.2.keys.length).sum
theorem keysN_cons (p:Nat×Msg) (l:List (Nat×Msg)):keysN (p :: l)=p.2.keys.length+keysN l:=by unfold keysN; rw [List.map_cons,List.sum_cons]
theorem nextL_pre (d:Int):∀ (pre l:List (Nat×Msg)),(∀ p∈pre,(p.1:Int) < d)→nextL (pre++l) d=nextL l d
 | [],_,_=>rfl
 | x :: pre,l,h=>by
   rw [List.cons_append,nextL_lt x _ d (h x (.head _))]
   exact nextL_pre d pre l fun p hp=>h p (.tail _ hp)
theorem dis_runs {base B:Nat} {T:TapeD} (hup:T.D.down=false) (hl:T.O.recs.length≤9999) (hok:∀ p∈T.O.recs,DisOk p∧p.1 < T.R.synced) (hBb:base≤B) (hBT:¬ T.foot B):∀ (todo pre:List (Nat×Msg)) (C:CqD) (D:DiskD) (X:KxD) (mk:Nat) (d:Int) (W:World),T.O.recs=pre++todo→TapeAt base W T→TabB base W→base≤W.heap.size →
 W.heap[B]?=some (.cells #[.pointer (some ⟨T.O.blk,0,none⟩),.pointer (some ⟨C.blk,0,none⟩),.pointer (some ⟨X.blk,0,none⟩),.int .i64 d] 164 (0,0))→(∀ p∈pre,(p.1:Int) < d)→(∀ p∈todo,d≤(p.1:Int)) →
 DisI base W C D X pre mk→¬ DisF C D X B→(∀ k,DisF C D X k→¬ T.foot k)→((20 * (todo.length+keysN todo):Nat):Int)≤D.room→mk+keysN todo≤90000 →
 Runs 38 B (fun w'=>∃ C' D' X' d',DisT base B W w' C D X T.O.recs (mk+keysN todo) (todo.length+keysN todo) C' D' X'∧w'.heap[B]?=some (.cells #[.pointer (some ⟨T.O.blk,0,none⟩),.pointer (some ⟨C.blk,0,none⟩),.pointer (some ⟨X.blk,0,none⟩),.int .i64 d'] 164 (0,0))) todo.length W
 | [],pre,C,D,X,mk,d,W,hr,h,hT,hbase,hB,h1,h2,hI,hBF,hTF,hroom,hmk=>by
   show Runs _ _ _ 0 _
   unfold Runs
   have hs:(T.O.recs.map (·.1)).Pairwise (· < ·):=by rw [h.recs]; exact (recs_sorted h.fits).2
   refine (dstep_none W h.own hB hs (by omega) (by rw [hr,nextL_pre d pre [] h1]; rfl)).mono ?_
   rintro e w' ⟨he,hd⟩
   have hb:Below W.heap.size W w':=hd.below _
   refine ⟨he,C,D,X,d,⟨?_,rfl,rfl,rfl,by show D.room=D.room - ((20 * (0+0):Nat):Int); omega,fun k hk=>.inl hk,Mod.of_below hb⟩,(hb.block B (Array.getElem?_eq_some_iff.1 hB).1).trans hB⟩
   rw [hr,List.append_nil]
   exact hI.below hb
 | (id,m) :: todo,pre,C,D,X,mk,d,W,hr,h,hT,hbase,hB,h1,h2,hI,hBF,hTF,hroom,hmk=>by
   show Runs _ _ _ (todo.length+1) _
   unfold Runs
   have hs:(T.O.recs.map (·.1)).Pairwise (· < ·):=by rw [h.recs]; exact (recs_sorted h.fits).2
   have hmem:(id,m)∈T.O.recs:=by rw [hr]; exact List.mem_append_right _ (.head _)
   have hs2:((pre++(id,m) :: todo).map (·.1)).Pairwise (· < ·):=by rw [← hr]; exact hs
   rw [List.map_append] at hs2
   have hs3:=(List.pairwise_append.1 hs2)
   have hs4:=List.pairwise_cons.1 (show (id :: todo.map (·.1)).Pairwise (· < ·) from hs3.2.1)
   have hn:nextL T.O.recs d=((id:Int),true):=by
    rw [hr,nextL_pre d pre _ h1]
    exact nextL_ge (id,m) todo d (h2 _ (.head _)) hs3.2.1
   obtain ⟨hp,hsy⟩:=hok _ hmem
   have hkn:keysN ((id,m) :: todo)=m.keys.length+keysN todo:=keysN_cons _ _
   have hlen:((id,m) :: todo).length=todo.length+1:=rfl
   rw [hkn] at hroom hmk
   rw [hlen] at hroom
   have hpl:pre.length≤9999:=by have:=congrArg List.length hr; rw [List.length_append] at this; omega
   refine (dis_step id m d W h hT hbase hup hB (by omega) hn hsy hmem hI hp hBF hTF (by omega) hpl (by omega)).mono ?_
   rintro e w' ⟨he,⟨C',D',X',g⟩,hB'⟩
   refine ⟨he,?_⟩
   have hlt:∀ k,T.foot k→k < W.heap.size:=fun k hk=>h.lt hk
   have hBl:=(Array.getElem?_eq_some_iff.1 hB).1
   have h':TapeAt base w' T:=h.mod g.mod fun k hk h3=>h3.elim (fun h4=>hTF k h4 hk) fun h4=>hBT (h4 ▸ hk)
   have hT':TabB base w':=hT.mod g.mod fun k hk=>hk.elim (fun h4=>dis_base hI h4) fun h4=>h4 ▸ hBb
   have hBF':¬ DisF C' D' X' B:=fun h3=>(g.foot B h3).elim hBF fun h4=>by omega
   have hTF':∀ k,DisF C' D' X' k→¬ T.foot k:=fun k hk h3=>(g.foot k hk).elim (fun h4=>hTF k h4 h3) fun h4=>by have:=hlt k h3; omega
   rw [← g.cb,← g.xb] at hB'
   have hap:∀ p∈todo,id+(recL m).length≤p.1:=fun p hp=>by
    have hm2:(p.1,p.2)∈T.O.recs:=by rw [hr]; exact List.mem_append_right _ (.tail _ hp)
    have hlt2:id < p.1:=hs4.1 p.1 (List.mem_map.2 ⟨p,hp,rfl⟩)
    rw [h.recs] at hmem hm2
    exact recs_apart h.fits id p.1 m p.2 hmem hm2 hlt2
   have hpos:=rec_pos m
   have ih:=dis_runs hup hl hok hBb hBT todo (pre++[(id,m)]) C' D' X' (mk+m.keys.length) ((id:Int)+((recL m).length:Int)) w' (by rw [hr,List.append_assoc]; rfl) h' hT' (Nat.le_trans hbase g.mod.size) hB'
    (fun p hp=>by
     rcases List.mem_append.1 hp with hp | hp
     · have:=hs3.2.2 p.1 (List.mem_map.2 ⟨p,hp,rfl⟩) id (.head _)
       omega
     · rw [List.mem_singleton] at hp; subst hp; show (id:Int) < _; omega)
    (fun p hp=>by have:=hap p hp; omega) g.inv hBF' hTF' (by rw [g.room]; omega) (by omega)
   refine runs_mono ?_ _ _ ih
   rintro v ⟨C2,D2,X2,d',k,hBv⟩
   refine ⟨C2,D2,X2,d',?_,by rw [hBv,g.cb,g.xb]⟩
   have:=g.trans k
   rw [hkn,hlen,show mk+(m.keys.length+keysN todo)=mk+m.keys.length+keysN todo by omega,show todo.length+1+(m.keys.length+keysN todo)=1+m.keys.length+(todo.length+keysN todo) by omega]
   exact this
theorem dis_all {base B:Nat} {T:TapeD} {C:CqD} {D:DiskD} {X:KxD} (d:Int) (W:World) (h:TapeAt base W T) (hT:TabB base W) (hbase:base≤W.heap.size) (hup:T.D.down=false) (hl:T.O.recs.length≤9999) (hok:∀ p∈T.O.recs,DisOk p∧p.1 < T.R.synced) (hBb:base≤B) (hBT:¬ T.foot B)
 (hB:W.heap[B]?=some (.cells #[.pointer (some ⟨T.O.blk,0,none⟩),.pointer (some ⟨C.blk,0,none⟩),.pointer (some ⟨X.blk,0,none⟩),.int .i64 d] 164 (0,0))) (hd:∀ p∈T.O.recs,d≤(p.1:Int))
 (hI:DisI base W C D X [] 0) (hBF:¬ DisF C D X B) (hTF:∀ k,DisF C D X k→¬ T.foot k) (hroom:((20 * (T.O.recs.length+keysN T.O.recs):Nat):Int)≤D.room) (hmk:keysN T.O.recs≤90000) :
 Calls Tryz.prog 18 #[.pointer (some ⟨B,0,none⟩)] W fun e w'=>e=.returned (.tuple #[.int .i64 (T.O.recs.length:Int),.int .i64 0])∧∃ C' D' X' d',DisT base B W w' C D X T.O.recs (keysN T.O.recs) (T.O.recs.length+keysN T.O.recs) C' D' X' ∧
  w'.heap[B]?=some (.cells #[.pointer (some ⟨T.O.blk,0,none⟩),.pointer (some ⟨C.blk,0,none⟩),.pointer (some ⟨X.blk,0,none⟩),.int .i64 d'] 164 (0,0)):=by
 have:=dis_runs hup hl hok hBb hBT T.O.recs [] C D X 0 d W rfl h hT hbase hB (fun p hp=>by cases hp) hd hI hBF hTF hroom (by omega)
 rw [Nat.zero_add] at this
 exact dall_any T.O.recs.length (by omega) W this
theorem dis_nil {base kb:Nat} {w:World} {C:CqD} {D D2:DiskD} (hC:CqAt base w C) (hqs:C.qs=[]) (hdb:C.db=D.blk) (hD:DiskAt base w D) (hf2:D2.files=[]) (hw2:D2.waits=[]) (hg:Grows D2 D [xlinks,xslots,wslots,wmarks] 120 2) (haw:∀ k,C.foot k→¬ D.foot k) (hk:KxAt base w ⟨kb,0⟩ D) (hkc:¬ C.foot kb):DisI base w C D ⟨kb,0⟩ [] 0:=by
 have hn:D.files.map (·.1)=[xlinks,xslots,wslots,wmarks]:=by rw [hg.names,hf2]; rfl
 refine ⟨hC,hD,hk,hdb,hg.quiet,haw,hkc,fun p hp=>(by cases hp),fun x hx=>(by rw [hqs] at hx; cases hx),(by rw [hqs]; exact List.Pairwise.nil),fun p hp=>(by cases hp),fun t q hq hno n hn2=>?_,?_,fun p hp=>?_,rfl,?_⟩
 ·
  refine find_not.2 fun h=>?_
  rw [hn] at h
  simp only [List.mem_cons,List.not_mem_nil,or_false] at h
  rcases h with h | h | h | h <;> (injection h with h1 h2; exact absurd h1 (by decide))
 · have:=congrArg List.length hn
   rw [List.length_map] at this
   rw [this]; decide
 ·
  have h:p.1∈D.files.map (·.1):=List.mem_map.2 ⟨p,hp,rfl⟩
  rw [hn] at h
  simp only [List.mem_cons,List.not_mem_nil,or_false] at h
  rcases h with h | h | h | h <;> rw [h] <;> decide
 · rw [hg.waits,hw2]; decide
structure DisB (base B:Nat) (L:Nat→Prop) (w:World) (S:StoD) (C:CqD) (D:DiskD) (X:KxD) (done:List (Nat×Msg)) (mk:Nat) (d r:Int):Prop where
 inv:DisI base w C D X done mk
 cq:S.cq=.pointer (some ⟨C.blk,0,none⟩)
 kx:S.kx=.pointer (some ⟨X.blk,0,none⟩)
 dp:S.dp=.pointer (some ⟨B,0,none⟩)
 cell:w.heap[B]?=some (.cells #[.pointer (some ⟨S.T.O.blk,0,none⟩),.pointer (some ⟨C.blk,0,none⟩),.pointer (some ⟨X.blk,0,none⟩),.int .i64 d] 164 (0,0))
 apart:∀ k,S.foot k→¬ DisF C D X k∧k≠B
 nB:¬ DisF C D X B
 low:∀ k,DisF C D X k∨k=B→L k
 lowB:base≤B
 room:r≤D.room
theorem DisB.next {base B:Nat} {L M:Nat→Prop} {w w':World} {S S':StoD} {C:CqD} {D:DiskD} {X:KxD} {done:List (Nat×Msg)} {mk:Nat} {d r:Int} (h:DisB base B L w S C D X done mk d r) (hm:Mod M w w') (hM:∀ k,M k→¬ DisF C D X k∧k≠B) (e1:S'.cq=S.cq) (e2:S'.kx=S.kx) (e3:S'.dp=S.dp) (e4:S'.T.O.blk=S.T.O.blk) (hf:∀ k,S'.foot k→S.foot k∨w.heap.size≤k):DisB base B L w' S' C D X done mk d r where
 inv:=h.inv.mod hm fun k hk h2=>(hM k h2).1 hk
 cq:=e1.trans h.cq
 kx:=e2.trans h.kx
 dp:=e3.trans h.dp
 cell:=by
  rw [e4]
  exact (hm.block B (Array.getElem?_eq_some_iff.1 h.cell).1 (fun h2=>(hM B h2).2 rfl)).trans h.cell
 apart:=fun k hk=>(hf k hk).elim (h.apart k) fun h2=>⟨fun h3=>by have:=h.inv.lt h3; omega,fun e=>by have:=(Array.getElem?_eq_some_iff.1 h.cell).1; omega⟩
 nB:=h.nB
 low:=h.low
 lowB:=h.lowB
 room:=h.room
theorem DisB.mono {base B:Nat} {L L':Nat→Prop} {w:World} {S:StoD} {C:CqD} {D:DiskD} {X:KxD} {done:List (Nat×Msg)} {mk:Nat} {d r:Int} (h:DisB base B L w S C D X done mk d r) (hL:∀ k,L k→L' k):DisB base B L' w S C D X done mk d r:={ h with low:=fun k hk=>hL k (h.low k hk) }
def freshR (D:DiskD):SegD:=⟨0,D.blk,tapeH,1024,0,0,[],0,.slice none 0 0⟩
theorem fresh_laid (D:DiskD) (h:D.files=[]):LaidOn D (freshR D):=by
 refine ⟨⟨show 16≤1024 by decide,show 1024≤4096 by decide⟩,fun _=>⟨rfl,rfl⟩,fun h=>absurd h (Nat.lt_irrefl 0),rfl,by show tapeH.length≤_; decide,?_,?_,rfl⟩
 · intro i hi
   exact absurd hi (Nat.not_lt_zero _)
 · intro p _ _
   exact find_not.2 (by rw [h]; simp)
theorem find_empty {D:DiskD} (h:D.files=[]) (n:List UInt8):D.find n=none:=find_not.2 (by rw [h]; simp)
theorem files_nil {D D1:DiskD} (h:D.files=[]) (k:∀ n,(D1.find n).isSome=(D.find n).isSome):D1.files=[]:=by
 cases hf:D1.files with
 | nil=>rfl
 | cons p l =>
   have h1:=k p.1
   rw [find_empty h] at h1
   have h2:D1.find p.1=none:=by cases hh:D1.find p.1 with
    | none=>rfl
    | some f=>rw [hh] at h1; cases h1
   exact absurd (List.mem_map.2 ⟨p,by rw [hf]; exact List.mem_cons_self,rfl⟩) (find_not.1 h2)
theorem sopen_fresh {base:Nat} {D D2:DiskD} (now:Nat) (W:World) (hD:DiskAt base W D) (hq:Quiet D) (hf:D.files=[]) (hwt:D.waits=[]) (hbase:base≤W.heap.size) (hT:TabB base W) (h2:DiskAt base W D2) (hq2:Quiet D2) (hf2:D2.files=[]) (hr2:120≤D2.room) (hw2:D2.waits=[]) (hdd:∀ k,D.foot k→¬ D2.foot k) (hnow:now≤1099511626776) :
 Calls Tryz.prog 16 #[.pointer (some ⟨D.blk,0,none⟩),.pointer (some ⟨D2.blk,0,none⟩),.int .i64 (now:Int)] W fun e w'=>∃ S,e=.returned (.tuple #[.pointer (some ⟨S.blk,0,none⟩),.int .i64 0])∧StoAt base w' S∧S.now=(now:Int)∧S.T.its=[]∧S.T.R.b=0∧S.T.R.synced=S.T.R.e∧S.T.D.waits=[]∧Quiet S.T.D∧S.T.D.blk=D.blk∧S.T.D.room=D.room∧S.T.D.files=[]∧(∃ b3 b4 v,S.top=.pointer (some ⟨b3,0,none⟩)∧S.off=.pointer (some ⟨b4,0,none⟩)∧S.dk=.pointer (some ⟨D.blk,0,none⟩)∧Pair w' W.heap.size b3 b4 D.blk v [] S.T∧(∀ b,PB b3 b4 v b→¬ S.foot b)∧S.P.all=notesP S.T.O.recs []∧∃ C D' X B,DisB base B (fun k=>D2.foot k∨W.heap.size≤k) w' S C D' X [] 0 0 (D2.room - 120)∧∀ b,PB b3 b4 v b→¬ DisF C D' X b∧b≠B) ∧
  Mod (fun k=>D.foot k∨D2.foot k) W w'∧(∀ k,S.foot k→D.foot k∨W.heap.size≤k):=by
 refine (sopen_any (R:=freshR D) (its:=[]) (Post:=fun T C D' kb b7 w0 w=>DisI base w C D' ⟨kb,0⟩ [] 0∧D'.room=D2.room - 120∧w.heap[b7]?=some (.cells #[.pointer (some ⟨T.O.blk,0,none⟩),.pointer (some ⟨C.blk,0,none⟩),.pointer (some ⟨kb,0,none⟩),.int .i64 0] 164 (0,0))∧w0.heap.size≤w.heap.size∧b7 < w0.heap.size∧(∀ k,DisF C D' ⟨kb,0⟩ k→k < w0.heap.size)∧¬ DisF C D' ⟨kb,0⟩ b7∧base≤b7) now W (fresh_laid D hf) hD hq (by rw [hf]; simp) (by rw [hf]; intro p hp; cases hp) hbase hT rfl rfl rfl trivial (by simp) hwt (.inl ⟨find_empty hf _,rfl⟩) (find_empty hf _) (find_empty hf _) h2 hq2 hf2 hr2 hw2 hdd hnow (fun p hp=>by cases hp) (by simp [recsOf])
  (fun T C D' kb w b7 a1 a2 a3 a4 a5 a6 a7 a8 a9 b1 b2 b3 b4 b5 b6 c1 c2 c3 hc=>?_) (fun T C D' kb b7 w0 w1 w2 M ⟨p1,p2,p3,p4,p5,p6,p7,p8⟩ hm hM=>⟨?_,p2,?_,Nat.le_trans p4 hm.size,p5,p6,p7,p8⟩)).mono fun e w' ⟨S,C,D',kb,b7,w0,x1,x2,x3,x4,⟨k1,k2,k3,k4,k5⟩,x5,x6,x7,x8,x9,y1,y2,yf,⟨b3,b4,v,z1,z2,z3,z4,z7,z8⟩,⟨p1,p2,p3,p4,p5,p6,p7,p8⟩,y4,y5⟩=>⟨S,x1,x2,x3,x5,x6,x7,x8,x9,y1,y2,files_nil hf yf,⟨b3,b4,v,z1,z2,z3,z4,fun b hb=>(z8 b hb).1,z7,C,D',⟨kb,0⟩,b7,⟨p1,x4,k1,k2,p3,fun k hk=>⟨fun h3=>?_,(k4 k hk).2.2.2.2⟩,p7,fun k hk=>?_,p8,by rw [p2]; omega⟩,fun b hb=>⟨fun h3=>?_,fun h3=>(z8 b hb).2.1 (.inr (.inr (.inr h3)))⟩⟩,y4,y5⟩
 ·
  have hr:T.O.recs=[]:=by rw [a1.recs,a2]; rfl
  have hrb:T.R.b=0:=a3
  have hI:=dis_nil a8 a9 b1 b2 hf2 hw2 b3 b4 c1 c2
  rw [hrb] at hc
  refine (dall_none w a1.own hc (by rw [hr]; exact List.Pairwise.nil) (by rw [hr]; simp) (by rw [hr]; rfl)).mono fun e w' ⟨h1,h2⟩=>⟨0,h1,⟨hI.below (h2.below _),b3.room,(heap_below (h2.below _) hc),(h2.below w.heap.size).size,(Array.getElem?_eq_some_iff.1 hc).1,fun k hk=>hI.lt hk,fun h3=>?_,c3⟩,Mod.of_below (h2.below _)⟩
  rcases h3 with h3 | h3 | h3
  · exact b6.2.1 h3
  · exact b6.2.2.1 h3
  · exact b6.2.2.2 h3.symm
 ·
  exact p1.mod hm fun k hk h3=>by
   have g:=hM k h3
   rcases hk with hk | hk | hk
   · exact g.2.1 hk
   · exact g.2.2.1 hk
   · exact g.2.2.2.1 hk
 · exact heap_mod hm p3 fun h3=>(hM b7 h3).2.2.2.2 rfl
 ·
  have g:=k4 k hk
  rcases h3 with h3 | h3 | h3
  · exact g.2.1 h3
  · exact g.2.2.1 h3
  · exact g.2.2.2.1 h3
 · rcases hk with hk | hk
   · exact k5 k hk
   · exact .inr (by omega)
 ·
  have g:=(z8 b hb).2.1
  rcases h3 with h3 | h3 | h3
  · exact g (.inl h3)
  · exact g (.inr (.inl h3))
  · exact g (.inr (.inr (.inl h3)))
end Go.Proofs.YtnoehodmmkioaaaGreatDoor.StoW
namespace Go.Proofs.YtnoehodmmkioaaaGreatDoor.MapG
open Go.RowKit Go.MapKept
variable {P:Program}
theorem delete_old {mt kt et ty:TypeId} {K:Value→Prop} (hm:P.underlying mt=some (.map kt et)) (hK:Keyed P kt K) {w:World} {b:Nat} {l l1 l2:List (Value×Value)} (h:PairsAt w b l) (hl:∀ p∈l,K p.1) {k v0:Value} (hk:K k) (he:l=l1++(k,v0) :: l2) :
 ∃ w',(Builtin.delete_ #[mt,kt] ty #[.map (some b),k]).run P w=.ok (.tuple #[]) w'∧PairsAt w' b (l1++l2)∧Mod (fun x=>x=b) w w':=by
 have hnd:=h.nodup
 obtain ⟨es,c,hb,hst,hmap⟩:=h
 rcases hK.find k hk es.toList (keys_of hmap hl) w with ⟨h1,h2⟩ | ⟨j,e,h1,h2,h3⟩
 ·
  exfalso
  have:(k,v0)∈es.toList.map (fun e=>(e.key,e.val)):=by rw [hmap,he]; simp
  obtain ⟨x,hx,hxe⟩:=List.mem_map.1 this
  exact h1 x hx (Prod.mk.inj hxe).1
 ·
  have hrun:(Builtin.delete_ #[mt,kt] ty #[.map (some b),k]).run P w=.ok (.tuple #[]) { w with heap:=w.heap.setIfInBounds b (.map (es.eraseIdxIfInBounds j) c) }:=by
   simp [Builtin.delete_,run_underlying hm,Go.MapKept.run_getObj_map hb,hK.check k hk,h1,Go.MapKept.run_setObj_map _ hb,Result.andThen]
  refine ⟨_,hrun,⟨_,c,(heap_set hb).1,stamped_erase hst _,?_⟩,⟨rfl,rfl,rfl,by simp,fun r _ hr=>(heap_set hb).2 r hr⟩⟩
  have hjlt:j < es.size:=by
   have:=(List.getElem?_eq_some_iff.1 h2).1
   simpa using this
  have hjl:l[j]?=some (k,e.val):=by rw [← hmap,List.getElem?_map,h2,Option.map_some,h3]
  have hl1:l1.length=j:=by
   have hx:l[l1.length]?=some (k,v0):=by rw [he]; simp
   have hn1:(l.map (·.1))[l1.length]?=some k:=by rw [List.getElem?_map,hx]; rfl
   have hn2:(l.map (·.1))[j]?=some k:=by rw [List.getElem?_map,hjl]; rfl
   have h6:l1.length < (l.map (·.1)).length:=(List.getElem?_eq_some_iff.1 hn1).1
   exact (List.getElem?_inj h6 hnd).1 (hn1.trans hn2.symm)
  have:(es.eraseIdxIfInBounds j).toList=es.toList.eraseIdx j:=by
   unfold Array.eraseIdxIfInBounds
   rw [dif_pos hjlt,Array.toList_eraseIdx]
  have hme:∀ (xs:List MapEntry) (n:Nat),(xs.eraseIdx n).map (fun e=>(e.key,e.val))=(xs.map fun e=>(e.key,e.val)).eraseIdx n:=fun xs=>by
   induction xs with
   | nil=>intro n; rfl
   | cons x xs ih=>intro n; cases n with
     | zero=>rfl
     | succ n=>simp [ih]
  rw [this,hme,hmap,he,← hl1,List.eraseIdx_append_of_length_le (Nat.le_refl _)]
  simp
end Go.Proofs.YtnoehodmmkioaaaGreatDoor.MapG
namespace Go.Proofs.YtnoehodmmkioaaaGreatDoor.DskW
open Go.RowKit Go.MapKept OctMath MapG
def pairsF (l:List (List UInt8×FileD)):List (Value×Value):=l.map fun p=>(.string (S p.1),.pointer (some ⟨p.2.blk,0,none⟩))
theorem DiskAt.pairs {base:Nat} {w:World} {D:DiskD} (h:DiskAt base w D):PairsAt w D.mB (pairsF D.files):=h.map
theorem keyedS:Keyed Tryz.prog 9 (IsKey .string):=Keyed.of_isKey Tryz.underlying9
theorem keysF (l:List (List UInt8×FileD)):∀ p∈pairsF l,IsKey .string p.1:=fun p hp=>by
 obtain ⟨q,_,rfl⟩:=List.mem_map.1 hp
 trivial
def without (l:List (List UInt8×FileD)) (n:List UInt8):List (List UInt8×FileD):=l.filter fun p=>!decide (p.1=n)
theorem without_split {l l1 l2:List (List UInt8×FileD)} {n:List UInt8} {f:FileD} (hn:(l.map (·.1)).Nodup) (h:l=l1++(n,f) :: l2):without l n=l1++l2:=by
 subst h
 rw [List.map_append,List.map_cons,List.nodup_append] at hn
 obtain ⟨_,h2,h3⟩:=hn
 have a1:without l1 n=l1:=List.filter_eq_self.2 fun p hp=>by
  have:=h3 p.1 (List.mem_map.2 ⟨p,hp,rfl⟩) n (.head _)
  simpa using this
 have a2:without l2 n=l2:=List.filter_eq_self.2 fun p hp=>by
  have:=(List.nodup_cons.1 h2).1
  have h4:p.1≠n:=fun e=>this (e ▸ List.mem_map.2 ⟨p,hp,rfl⟩)
  simpa using h4
 show List.filter _ _=_
 rw [List.filter_append,List.filter_cons]
 rw [show (!decide (((n,f):List UInt8×FileD).1=n))=false by simp]
 show without l1 n++without l2 n=_
 rw [a1,a2]
theorem mem_without {l:List (List UInt8×FileD)} {n:List UInt8} {p:List UInt8×FileD}:p∈without l n↔p∈l∧p.1≠n:=by
 unfold without; rw [List.mem_filter]; simp
theorem without_sub (l:List (List UInt8×FileD)) (n:List UInt8):(without l n).Sublist l:=List.filter_sublist
theorem sizeL_without (l:List (List UInt8×FileD)) (n:List UInt8):sizeL (without l n)≤sizeL l:=by
 unfold sizeL
 induction l with
 | nil=>exact Nat.le_refl _
 | cons p l ih =>
   unfold without at ih ⊢
   rw [List.filter_cons]
   split
   iterate 2
    · simp only [List.map_cons,List.sum_cons]; omega
theorem pairs_without {l:List (List UInt8×FileD)} {n:List UInt8} {f:FileD} (hn:(l.map (·.1)).Nodup) (hf:(n,f)∈l):∃ l1 l2,pairsF l=l1++(.string (S n),.pointer (some ⟨f.blk,0,none⟩)) :: l2∧pairsF (without l n)=l1++l2:=by
 obtain ⟨a,b,h⟩:=List.append_of_mem hf
 refine ⟨pairsF a,pairsF b,by rw [h]; simp [pairsF],by rw [without_split hn h]; simp [pairsF]⟩
theorem DiskAt.less {base:Nat} {w w':World} {D:DiskD} (h:DiskAt base w D) (hw:D.waits=[]) (n:List UInt8) (hp:PairsAt w' D.mB (pairsF (without D.files n))) (hm:Mod (fun k=>k=D.mB) w w'):DiskAt base w' { D with files:=without D.files n }:=by
 have hsub:=without_sub D.files n
 refine ⟨?_,hp,fun p hp=>?_,?_,h.names.sublist (hsub.map _),h.blocks.sublist (hsub.map _),⟨h.apart.1,fun p hp=>h.apart.2.1 p (mem_without.1 hp).1,fun k hk=>⟨(h.apart.2.2 k hk).1,(h.apart.2.2 k hk).2.1,fun p hp=>(h.apart.2.2 k hk).2.2 p (mem_without.1 hp).1⟩⟩,⟨h.above.1,h.above.2.1,fun p hp=>h.above.2.2 p (mem_without.1 hp).1⟩,h.ints,?_,fun x hx=>by rw [show D.waits=[] from hw] at hx; cases hx⟩
 · exact (hm.block _ (h.lt (.inl rfl)) h.apart.1).trans h.head
 · have hp':=(mem_without.1 hp).1
   exact (hm.block _ (h.lt (.inr (.inr (.inl ⟨p,hp',rfl⟩)))) (h.apart.2.1 p hp').2).trans (h.file p hp')
 · exact SegW.ownsRow_mod h.row hm fun k hk e=>(h.apart.2.2 k hk).2.1 e
 ·
  have:=sizeL_without D.files n
  have h2:=h.fits
  unfold DiskD.size at h2 ⊢
  show ((sizeL (without D.files n):Nat):Int)≤D.cap
  omega
theorem index_void (a:Option Addr) (cp:Nat) (fv:Value) (w:World):Calls Tryz.prog 227 #[.slice a 0 cp,fv] w fun e w'=>e=.returned (.int .i64 (-1))∧w'=w:=by
 go_enter Tryz.func227,Tryz.ntmps227
 go_wp2_with fail
 go_loopw [8] (fun i wr=>i=.int .i64 0∧wr=w) (fun i _=>0)
 case atStart=>exact ⟨rfl,rfl⟩
 case round =>
  obtain ⟨rfl,rfl⟩:=hrel
  go_wp2_with fail
  go_ret
  exact ⟨rfl,rfl⟩
theorem delete_void (a:Option Addr) (cp:Nat) (fv:Value) (w:World):Calls Tryz.prog 201 #[.slice a 0 cp,fv] w fun e w'=>e=.returned (.slice a 0 cp)∧w'=w:=by
 go_enter Tryz.func201,Tryz.ntmps201
 go_wp2_with fail
 refine (index_void a cp fv w).mono ?_
 rintro e w2 ⟨rfl,he⟩
 obtain rfl:=he.symm
 go_wp2_with fail
 go_ret
 exact ⟨rfl,rfl⟩
theorem drop_q {base:Nat} {D:DiskD} (a:Option Addr) (cap:Nat) (n:List UInt8) (f:FileD) (w:World) (h:DiskAt base w D) (hw:D.waits=[]) (hf:(n,f)∈D.files) (hr:Row1 w a [.string (S n)]) (haf:∀ ad,a=some ad→¬ D.foot ad.block) :
 Calls Tryz.prog 152 #[.pointer (some ⟨D.blk,0,none⟩),.slice a 1 cap] w fun e w'=>e=.returned (.tuple #[])∧DiskAt base w' { D with files:=without D.files n }∧Mod D.foot w w':=by
 obtain ⟨b,off,rfl,hcell⟩:=hr 0 (by simp)
 have hab:=haf _ rfl
 have hlk:=lookup_file h n
 rw [find_of_mem h.names hf] at hlk
 unfold fileV at hlk
 simp only [Option.map_some] at hlk
 obtain ⟨aw,cw,hwv⟩:=own_slice h.row
 rw [hw] at hwv
 replace hwv:D.wv=.slice aw 0 cw:=hwv
 have c2:w.cell? ⟨D.blk,2,none⟩=some (.map (some D.mB)):=h.cell 2 _ rfl
 have c3:w.cell? ⟨D.blk,3,none⟩=some (.slice aw 0 cw):=h.cell 3 _ (by show some D.wv=_; rw [hwv])
 have hcell0:w.cell? ⟨b,off,none⟩=some (.string (S n)):=hcell
 have HB1:Hid (Below w.heap.size w (w.alloc (.cells #[.pointer (some ⟨f.blk,0,none⟩)] 85))):=(Below.refl _ _).alloc (Nat.le_refl _) _
 have HD:=Lib.hid h
 have HW:=Lib.hid hw
 have HF:=Lib.hid hf
 have HWV:=Lib.hid hwv
 clear h hw hf hr haf hab hcell hwv
 go_enter Tryz.func152,Tryz.ntmps152
 go_wp2_with fail
 go_loopw [9] (fun i wr=>(i=.int .i64 0∧wr=w)∨(i=.int .i64 1∧Hid (DiskAt base wr { D with files:=without D.files n }∧Mod D.foot w wr))) (fun i _=>1 - (intOf i).toNat)
 case atStart=>exact .inl ⟨rfl,rfl⟩
 case round =>
  rcases hrel with ⟨rfl,rfl⟩ | ⟨rfl,HR⟩
  ·
   go_upto_region 4 with fail
   have hd1:=HD.out.below HB1.out
   have d2:(wr.alloc (.cells #[.pointer (some ⟨f.blk,0,none⟩)] 85)).cell? ⟨D.blk,2,none⟩=some (.map (some D.mB)):=hd1.cell 2 _ rfl
   have d3:(wr.alloc (.cells #[.pointer (some ⟨f.blk,0,none⟩)] 85)).cell? ⟨D.blk,3,none⟩=some (.slice aw 0 cw):=hd1.cell 3 _ (by show some D.wv=_; rw [HWV.out])
   have d3f:(wr.alloc (.cells #[.pointer (some ⟨f.blk,0,none⟩)] 85)).frozen? ⟨D.blk,3,none⟩=false:=by
    unfold World.frozen?; rw [show (wr.alloc (.cells #[.pointer (some ⟨f.blk,0,none⟩)] 85)).heap[(⟨D.blk,3,none⟩:Addr).block]?=_ from hd1.head]; rfl
   have HD1:=Lib.hid hd1
   have HM1:Hid (Mod D.foot wr (wr.alloc (.cells #[.pointer (some ⟨f.blk,0,none⟩)] 85))):=Mod.of_below HB1.out
   clear hd1 c2 c3 hlk hcell0 HB1
   generalize wr.alloc (.cells #[.pointer (some ⟨f.blk,0,none⟩)] 85)=w1 at *
   generalize wr.heap.size=bx at *
   go_wp2_with fail
   refine (delete_void aw cw _ w1).mono ?_
   rintro e w2 ⟨rfl,he⟩
   obtain rfl:=he.symm
   obtain ⟨hd2,hm2⟩:=HD1.out.set_waits D.wv D.waits ⟨rfl,rfl,rfl,Nat.le_refl _,fun _ _ _=>rfl⟩ HD1.out.row (fun k hk=>.inl hk) HD1.out.waitf
   rw [HWV.out] at hd2 hm2
   have HD2:Hid (DiskAt base (w1.setCell ⟨D.blk,3,none⟩ (.slice aw 0 cw)) D):=by
    have e:({ D with wv:=.slice aw 0 cw,waits:=D.waits }:DiskD)=D:=by rw [← HWV.out]
    rw [e] at hd2
    exact hd2
   have HM2:=Lib.hid (HM1.out.trans hm2)
   clear hd2 hm2 HD1 HM1
   go_upto_region 5 with fail
   clear d2 d3 d3f
   generalize w1.setCell ⟨D.blk,3,none⟩ (.slice aw 0 cw)=w2 at *
   have e2:w2.cell? ⟨D.blk,2,none⟩=some (.map (some D.mB)):=HD2.out.cell 2 _ rfl
   obtain ⟨l1,l2,hl,hl2⟩:=pairs_without HD2.out.names HF.out
   have hdel:∃ w3,(∀ ty,(Builtin.delete_ #[75,9] ty #[.map (some D.mB),.string (S n)]).run Tryz.prog w2=.ok (.tuple #[]) w3)∧PairsAt w3 D.mB (l1++l2)∧Mod (fun x=>x=D.mB) w2 w3:=by
    obtain ⟨w3,h1,h2,h3⟩:=delete_old (ty:=0) Tryz.underlying75 keyedS HD2.out.pairs (keysF _) (k:=.string (S n)) trivial hl
    exact ⟨w3,fun ty=>h1,h2,h3⟩
   obtain ⟨w3,hrun,hp3,hm3⟩:=hdel
   rw [← hl2] at hp3
   have HD3:=Lib.hid (HD2.out.less HW.out n hp3 hm3)
   have HM3:=Lib.hid (HM2.out.trans (hm3.mono (fun k _ hk=>.inr (.inl hk))))
   clear hp3 hm3 hl hl2
   go_wp2_with fail
   go_roundw
   case rel=>exact .inr ⟨by go_num,HD3.out,HM3.out⟩
   case measure=>simp [intOf]
  · go_wp2_with fail
    go_end0
    exact ⟨rfl,HR.out.1,HR.out.2⟩
open SegW
theorem bars_has {D:DiskD} (hq:Quiet D) {n:List UInt8} {f:FileD} (hn:(D.files.map (·.1)).Nodup) (hf:(n,f)∈D.files):D.bars [n]=0:=by
 unfold DiskD.bars
 rw [hq.up]
 simp [find_of_mem hn hf]
def DiskD.moved (D:DiskD) (n t:List UInt8) (f:FileD):DiskD:={ D with files:=without (without D.files t) n++[(t,f)] }
theorem without_none {l:List (List UInt8×FileD)} {n:List UInt8} (h:∀ p∈l,p.1≠n):without l n=l:=List.filter_eq_self.2 fun p hp=>by simpa using h p hp
theorem DiskAt.move {base:Nat} {w w':World} {D:DiskD} (h:DiskAt base w D) (hw:D.waits=[]) {n t:List UInt8} {f:FileD} (hf:(n,f)∈D.files) (ht:∀ p∈D.files,p.1≠t) (hne:n≠t)
 (hp:PairsAt w' D.mB (pairsF (without D.files n++[(t,f)]))) (hm:Mod (fun k=>k=D.mB) w w'):DiskAt base w' { D with files:=without D.files n++[(t,f)] }:=by
 have hsub:=without_sub D.files n
 have hin:∀ p∈without D.files n++[(t,f)],∃ q∈D.files,q.2=p.2:=fun p hp=>by
  rcases List.mem_append.1 hp with h1 | h1
  · exact ⟨p,(mem_without.1 h1).1,rfl⟩
  · rw [List.mem_singleton.1 h1]; exact ⟨_,hf,rfl⟩
 refine ⟨?_,hp,fun p hp=>?_,?_,?_,?_,⟨h.apart.1,fun p hp=>?_,fun k hk=>⟨(h.apart.2.2 k hk).1,(h.apart.2.2 k hk).2.1,fun p hp=>?_⟩⟩,⟨h.above.1,h.above.2.1,fun p hp=>?_⟩,h.ints,?_,fun x hx=>by rw [show D.waits=[] from hw] at hx; cases hx⟩
 · exact (hm.block _ (h.lt (.inl rfl)) h.apart.1).trans h.head
 · obtain ⟨q,hq,e⟩:=hin p hp
   rw [← e]
   exact (hm.block _ (h.lt (.inr (.inr (.inl ⟨q,hq,rfl⟩)))) (h.apart.2.1 q hq).2).trans (h.file q hq)
 · exact SegW.ownsRow_mod h.row hm fun k hk e=>(h.apart.2.2 k hk).2.1 e
 ·
  show ((without D.files n++[(t,f)]).map (·.1)).Nodup
  rw [List.map_append,List.nodup_append]
  refine ⟨h.names.sublist (hsub.map _),by simp,fun a ha b hb=>?_⟩
  obtain ⟨p,hp,rfl⟩:=List.mem_map.1 ha
  rw [List.map_singleton,List.mem_singleton] at hb
  rw [hb]
  exact ht p (mem_without.1 hp).1
 ·
  show ((without D.files n++[(t,f)]).map (·.2.blk)).Nodup
  rw [List.map_append,List.nodup_append]
  refine ⟨h.blocks.sublist (hsub.map _),by simp,fun a ha b hb=>?_⟩
  obtain ⟨p,hp,rfl⟩:=List.mem_map.1 ha
  rw [List.map_singleton,List.mem_singleton] at hb
  rw [hb]
  obtain ⟨h1,h2⟩:=mem_without.1 hp
  obtain ⟨l1,l2,hl⟩:=List.append_of_mem hf
  have hb:=h.blocks
  rw [hl,List.map_append,List.map_cons,List.nodup_append] at hb
  have hw:=without_split h.names hl
  rw [hw] at hp
  rcases List.mem_append.1 hp with h3 | h3
  · exact hb.2.2 _ (List.mem_map.2 ⟨p,h3,rfl⟩) _ (.head _)
  · exact fun e=>(List.nodup_cons.1 hb.2.1).1 (e ▸ List.mem_map.2 ⟨p,h3,rfl⟩)
 · obtain ⟨q,hq,e⟩:=hin p hp
   rw [← e]; exact h.apart.2.1 q hq
 · obtain ⟨q,hq,e⟩:=hin p hp
   rw [← e]; exact (h.apart.2.2 k hk).2.2 q hq
 · obtain ⟨q,hq,e⟩:=hin p hp
   rw [← e]; exact h.above.2.2 q hq
 ·
  obtain ⟨l1,l2,hl⟩:=List.append_of_mem hf
  have h2:=h.fits
  unfold DiskD.size at h2 ⊢
  show ((sizeL (without D.files n++[(t,f)]):Nat):Int)≤D.cap
  rw [without_split h.names hl]
  rw [hl] at h2
  unfold sizeL at h2 ⊢
  simp only [List.map_append,List.map_cons,List.sum_append,List.sum_cons,List.map_nil,List.sum_nil] at h2 ⊢
  omega
theorem rename_q {base:Nat} {D:DiskD} (n t:List UInt8) (f:FileD) (w:World) (h:DiskAt base w D) (hq:Quiet D) (hw:D.waits=[]) (hne:n≠t) (hf:(n,f)∈D.files) :
 Calls Tryz.prog 93 #[.pointer (some ⟨D.blk,0,none⟩),.string (S n),.string (S t)] w fun e w'=>e=.returned (.int .i64 0)∧DiskAt base w' (D.moved n t f)∧Mod D.foot w w':=by
 have HB1:Hid (Below w.heap.size w (w.alloc (.cells #[.string (S n)] 9))):=(Below.refl _ w).alloc (Nat.le_refl _) _
 have HR1:Hid (Row1 (w.alloc (.cells #[.string (S n)] 9)) (some ⟨w.heap.size,0,none⟩) ([n].map fun x=>Value.string (S x))):=row_one _ _ _
 have HD1:=Lib.hid (h.below HB1.out)
 have HBA:=Lib.hid (bars_any (some ⟨w.heap.size,0,none⟩) 1 [n] (by simp) _ HD1.out HR1.out)
 rw [bars_has hq h.names hf] at HBA
 rw [show ([n]:List (List UInt8)).length=1 from rfl] at HBA
 have HDN:=Lib.hid (done_any _ HD1.out)
 rw [hq.burn,hq.done] at HDN
 have HMV:Hid (D.moved n t f={ D with files:=without (without D.files t) n++[(t,f)] }):=rfl
 have hst:(S n).toList≠(S t).toList:=by rw [S_toList,S_toList]; exact hne
 have hsb:((S n).toList == (S t).toList)=false:=beq_eq_false_iff_ne.2 hst
 have HQ:=Lib.hid hq
 have HW:=Lib.hid hw
 have HNE:=Lib.hid hne
 have HF:=Lib.hid hf
 have HNM:=Lib.hid h.names
 clear h hq hw hne hf hst HR1
 go_enter Tryz.func93,Tryz.ntmps93
 go_wp2_with fail
 refine HBA.out.mono ?_
 rintro e w1 ⟨rfl,he⟩
 obtain rfl:=he
 go_wp2_with fail
 refine HDN.out.mono ?_
 rintro e w2 ⟨rfl,hd2,hm2⟩
 have HD2:=Lib.hid hd2
 have HM2:Hid (Mod D.foot w w2):=(Mod.of_below HB1.out).trans (hm2.mono fun k _ hk=>.inl hk)
 have c1:w2.cell? ⟨D.blk,2,none⟩=some (.map (some D.mB)):=hd2.cell 2 _ rfl
 have hlk:=lookup_file hd2 t
 clear hd2 hm2 HDN HBA HD1 HB1
 cases hft:D.find t with
 | none =>
   rw [hft] at hlk
   unfold fileV at hlk
   simp only [Option.map_none] at hlk
   have e0:without D.files t=D.files:=without_none (find_none hft)
   have HDX:Hid (DiskAt base w2 { D with files:=without D.files t }):=by
    show DiskAt _ _ _
    rw [e0]; exact HD2.out
   have HMX:=Lib.hid HM2.out
   clear hft e0
   go_wp2_with fail
   have hdx:=HDX.out.below ((Below.refl _ w2).drew)
   have d2:w2.cell? ⟨D.blk,2,none⟩=some (.map (some D.mB)):=HDX.out.cell 2 _ rfl
   have hl1:=lookup_file hdx n
   rw [find_of_mem hdx.names (mem_without.2 ⟨HF.out,HNE.out⟩:(n,f)∈without D.files t)] at hl1
   unfold fileV at hl1
   simp only [Option.map_some] at hl1
   obtain ⟨w5,hrun,hp5,hm5⟩:=update_new Tryz.underlying75 keyedS hdx.pairs (keysF _) (k:=.string (S t)) trivial (fun p hp e=>by
    obtain ⟨q,hq,rfl⟩:=List.mem_map.1 hp
    exact (mem_without.1 hq).2 (S_inj (by cases e; rfl))) (.pointer (some ⟨f.blk,0,none⟩))
   replace hrun:(Instr.mapUpdate 75 (.map (some D.mB)) (.string (S t)) (.pointer (some ⟨f.blk,0,none⟩))).run Tryz.prog w2.drew=.ok () w5:=hrun
   have d5:w5.cell? ⟨D.blk,2,none⟩=some (.map (some D.mB)):=by
    rw [hm5.cell (p:=⟨D.blk,2,none⟩) (hdx.lt (.inl rfl)) hdx.apart.1]
    exact hdx.cell 2 _ rfl
   have e5:pairsF (without D.files t)++[(.string (S t),.pointer (some ⟨f.blk,0,none⟩))]=pairsF (without D.files t++[(t,f)]):=by simp [pairsF]
   have hp5b:PairsAt w5 D.mB (pairsF (without D.files t++[(t,f)])):=by rw [← e5]; exact hp5
   obtain ⟨l1,l2,hl,hl2⟩:=pairs_without (l:=without D.files t++[(t,f)]) (n:=n) (f:=f) (by
    rw [List.map_append,List.nodup_append]
    refine ⟨hdx.names,by simp,fun a ha b hb=>?_⟩
    obtain ⟨p,hp,rfl⟩:=List.mem_map.1 ha
    rw [List.map_singleton,List.mem_singleton] at hb
    rw [hb]
    exact (mem_without.1 hp).2) (List.mem_append_left _ (mem_without.2 ⟨HF.out,HNE.out⟩))
   have hdel:∃ w6,(∀ ty,(Builtin.delete_ #[75,9] ty #[.map (some D.mB),.string (S n)]).run Tryz.prog w5=.ok (.tuple #[]) w6)∧PairsAt w6 D.mB (l1++l2)∧Mod (fun x=>x=D.mB) w5 w6:=by
    obtain ⟨w6,h1,h2,h3⟩:=delete_old (ty:=0) Tryz.underlying75 keyedS hp5b (keysF _) (k:=.string (S n)) trivial hl
    exact ⟨w6,fun ty=>h1,h2,h3⟩
   obtain ⟨w6,hrun6,hp6,hm6⟩:=hdel
   have e6:without (without D.files t++[(t,f)]) n=without (without D.files t) n++[(t,f)]:=by
    unfold without
    rw [List.filter_append]
    congr 1
    simp [Ne.symm HNE.out]
   rw [← hl2,e6] at hp6
   have HD6:Hid (DiskAt base w6 (D.moved n t f)):=by
    have:=hdx.move HW.out (mem_without.2 ⟨HF.out,HNE.out⟩) (fun p hp=>(mem_without.1 hp).2) HNE.out hp6 (hm5.trans hm6)
    exact this
   have HM6:Hid (Mod D.foot w w6):=(HMX.out.drew.trans (hm5.mono fun k _ hk=>.inr (.inl hk))).trans (hm6.mono fun k _ hk=>.inr (.inl hk))
   clear hdx hp5 hp5b hm5 hp6 hm6 hl hl2 e5 e6
   go_wp2_with fail
   go_region
   go_wp2_with fail
   go_ret
   exact ⟨rfl,HD6.out,HM6.out⟩
 | some g =>
   have HG:=Lib.hid (find_some hft)
   rw [hft] at hlk
   unfold fileV at hlk
   simp only [Option.map_some] at hlk
   have HBs:Hid (Below w2.heap.size w2 (w2.alloc (.cells #[.string (S t)] 9))):=(Below.refl _ w2).alloc (Nat.le_refl _) _
   have HDR:=Lib.hid (drop_q (some ⟨w2.heap.size,0,none⟩) 1 t g _ (HD2.out.below HBs.out) HW.out HG.out (row_one _ _ _) (fun ad e hfo=>by
    cases e
    have:=HD2.out.lt hfo
    exact absurd this (Nat.lt_irrefl _)))
   clear hft
   go_wp2_with fail
   refine HDR.out.mono ?_
   rintro e w3 ⟨rfl,hd3,hm3⟩
   have HDX:Hid (DiskAt base w3 { D with files:=without D.files t }):=hd3
   have HMX:Hid (Mod D.foot w w3):=(HM2.out.trans (Mod.of_below HBs.out)).trans hm3
   clear hd3 hm3 HDR HBs hlk c1
   have hdx:=HDX.out.below ((Below.refl _ w3).drew)
   have d2:w3.cell? ⟨D.blk,2,none⟩=some (.map (some D.mB)):=HDX.out.cell 2 _ rfl
   have hl1:=lookup_file hdx n
   rw [find_of_mem hdx.names (mem_without.2 ⟨HF.out,HNE.out⟩:(n,f)∈without D.files t)] at hl1
   unfold fileV at hl1
   simp only [Option.map_some] at hl1
   obtain ⟨w5,hrun,hp5,hm5⟩:=update_new Tryz.underlying75 keyedS hdx.pairs (keysF _) (k:=.string (S t)) trivial (fun p hp e=>by
    obtain ⟨q,hq,rfl⟩:=List.mem_map.1 hp
    exact (mem_without.1 hq).2 (S_inj (by cases e; rfl))) (.pointer (some ⟨f.blk,0,none⟩))
   replace hrun:(Instr.mapUpdate 75 (.map (some D.mB)) (.string (S t)) (.pointer (some ⟨f.blk,0,none⟩))).run Tryz.prog w3.drew=.ok () w5:=hrun
   have d5:w5.cell? ⟨D.blk,2,none⟩=some (.map (some D.mB)):=by
    rw [hm5.cell (p:=⟨D.blk,2,none⟩) (hdx.lt (.inl rfl)) hdx.apart.1]
    exact hdx.cell 2 _ rfl
   have e5:pairsF (without D.files t)++[(.string (S t),.pointer (some ⟨f.blk,0,none⟩))]=pairsF (without D.files t++[(t,f)]):=by simp [pairsF]
   have hp5b:PairsAt w5 D.mB (pairsF (without D.files t++[(t,f)])):=by rw [← e5]; exact hp5
   obtain ⟨l1,l2,hl,hl2⟩:=pairs_without (l:=without D.files t++[(t,f)]) (n:=n) (f:=f) (by
    rw [List.map_append,List.nodup_append]
    refine ⟨hdx.names,by simp,fun a ha b hb=>?_⟩
    obtain ⟨p,hp,rfl⟩:=List.mem_map.1 ha
    rw [List.map_singleton,List.mem_singleton] at hb
    rw [hb]
    exact (mem_without.1 hp).2) (List.mem_append_left _ (mem_without.2 ⟨HF.out,HNE.out⟩))
   have hdel:∃ w6,(∀ ty,(Builtin.delete_ #[75,9] ty #[.map (some D.mB),.string (S n)]).run Tryz.prog w5=.ok (.tuple #[]) w6)∧PairsAt w6 D.mB (l1++l2)∧Mod (fun x=>x=D.mB) w5 w6:=by
    obtain ⟨w6,h1,h2,h3⟩:=delete_old (ty:=0) Tryz.underlying75 keyedS hp5b (keysF _) (k:=.string (S n)) trivial hl
    exact ⟨w6,fun ty=>h1,h2,h3⟩
   obtain ⟨w6,hrun6,hp6,hm6⟩:=hdel
   have e6:without (without D.files t++[(t,f)]) n=without (without D.files t) n++[(t,f)]:=by
    unfold without
    rw [List.filter_append]
    congr 1
    simp [Ne.symm HNE.out]
   rw [← hl2,e6] at hp6
   have HD6:Hid (DiskAt base w6 (D.moved n t f)):=by
    have:=hdx.move HW.out (mem_without.2 ⟨HF.out,HNE.out⟩) (fun p hp=>(mem_without.1 hp).2) HNE.out hp6 (hm5.trans hm6)
    exact this
   have HM6:Hid (Mod D.foot w w6):=(HMX.out.drew.trans (hm5.mono fun k _ hk=>.inr (.inl hk))).trans (hm6.mono fun k _ hk=>.inr (.inl hk))
   clear hdx hp5 hp5b hm5 hp6 hm6 hl hl2 e5 e6
   go_wp2_with fail
   go_region
   go_wp2_with fail
   go_ret
   exact ⟨rfl,HD6.out,HM6.out⟩
end Go.Proofs.YtnoehodmmkioaaaGreatDoor.DskW
namespace Go.Proofs.YtnoehodmmkioaaaGreatDoor.TopW
open Go.RowKit Go.MapKept OctMath DskW SegW
theorem setNow_new {l:List (List UInt8×FileD)} {n t:List UInt8} {b:Nat} {i u:List UInt8} (h:∀ p∈l,p.1≠n):setNow (l++[(n,⟨b,i,u⟩)]) n t=l++[(n,⟨b,i,t⟩)]:=by
 unfold setNow
 rw [List.map_append]
 congr 1
 · have:∀ p∈l,(fun p:List UInt8×FileD=>if p.1=n then (p.1,{ p.2 with now:=t }) else p) p=p:=fun p hp=>if_neg (h p hp)
   exact (List.map_congr_left this).trans (List.map_id _)
 · simp
theorem lasts_new {D:DiskD} {l:List (List UInt8×FileD)} {n i u:List UInt8} {b:Nat} {wv:Value} {ws:List WriteD} (hf:D.files=l++[(n,⟨b,i,u⟩)]) (hw:D.waits=ws) (hb:∀ x∈ws,x.blk=b) (h:∀ p∈l,p.1≠n) :
 D.lasts [n] wv={ D with files:=l++[(n,⟨b,u,u⟩)],wv:=wv,waits:=[] }:=by
 unfold DiskD.lasts
 have e1:D.files.map (fun p=>if p.1∈[n] then (p.1,{ p.2 with img:=p.2.now }) else p)=l++[(n,⟨b,u,u⟩)]:=by
  rw [hf,List.map_append]
  congr 1
  · have:∀ p∈l,(fun p:List UInt8×FileD=>if p.1∈[n] then (p.1,{ p.2 with img:=p.2.now }) else p) p=p:=fun p hp=>if_neg (by simpa using h p hp)
    exact (List.map_congr_left this).trans (List.map_id _)
  · simp
 have e2:D.waits.filter (fun x=>!D.files.any (fun p=>decide (p.1∈[n]) && decide (x.blk=p.2.blk)))=[]:=by
  rw [List.filter_eq_nil_iff]
  intro x hx
  rw [hw] at hx
  have:=hb x hx
  rw [hf]
  simp [this]
 rw [e1,e2]
theorem laid_q {base:Nat} {D:DiskD} (n t:List UInt8) (w:World) (h:DiskAt base w D) (hq:Quiet D) (hw:D.waits=[]) (hn:D.find n=none) (ht:t≠[]) (htl:t.length≤1048576) (hr:(t.length:Int)≤D.room) (hbase:base≤w.heap.size) :
 Calls Tryz.prog 90 #[.pointer (some ⟨D.blk,0,none⟩),.string (S n),.string (S t)] w fun e w'=>e=.returned (.int .i64 0)∧∃ b wv,DiskAt base w' { D with files:=D.files++[(n,⟨b,t,t⟩)],wv:=wv }∧Mod D.foot w w'∧w.heap.size≤b∧∀ k,wv.ownBlock=some k→D.wv.ownBlock=some k∨w.heap.size≤k:=by
 have HCR:=Lib.hid (create_any n w h hbase)
 rw [hq.createE hn] at HCR
 have HQ:=Lib.hid hq
 have HW:=Lib.hid hw
 have HN:=Lib.hid hn
 have HNF:Hid (∀ p∈D.files,p.1≠n):=find_none hn
 have HT:=Lib.hid ht
 have HR:=Lib.hid hr
 have HB:=Lib.hid hbase
 clear h hq hw hn ht hr hbase
 go_enter Tryz.func90,Tryz.ntmps90
 go_wp2_with fail
 refine HCR.out.mono ?_
 rintro e w1 ⟨b,hb,rfl,hd1,hm1⟩
 rw [HQ.out.create HN.out] at hd1
 have hfm:(n,(⟨b,[],[]⟩:FileD))∈D.files++[(n,⟨b,[],[]⟩)]:=by simp
 have hwr:=Quiet.write (D:={ D with files:=D.files++[(n,⟨b,[],[]⟩)] }) ⟨HQ.out.left,HQ.out.up⟩ hd1.names (n:=n) (f:=⟨b,[],[]⟩) (find_of_mem hd1.names hfm) (o:=0) rfl HT.out (by
  show (t.length:Int)≤D.cap - ((sizeL (D.files++[(n,⟨b,[],[]⟩)]):Nat):Int)
  have h1:=HR.out
  have h2:sizeL (D.files++[(n,(⟨b,[],[]⟩:FileD))])=sizeL D.files:=by unfold sizeL; simp
  rw [h2]; exact h1)
 have HWR:=Lib.hid (write_any n 0 (by omega) t (by omega) (by show D.waits.length≤_; rw [HW.out]; decide) w1 hd1 (Nat.le_trans HB.out hm1.size))
 rw [(hwr D.wv).1] at HWR
 have HWE:Hid (∀ wv,DiskD.write { D with files:=D.files++[(n,⟨b,[],[]⟩)] } n 0 t wv={ D with files:=D.files++[(n,⟨b,[],t⟩)],wv:=wv,waits:=[⟨b,0,t⟩] }):=fun wv=>by
  rw [(hwr wv).2]
  show ({ D with files:=setNow (D.files++[(n,⟨b,[],[]⟩)]) n ([]++t),wv:=wv,waits:=D.waits++[⟨b,0,t⟩] }:DiskD)=_
  rw [HW.out,List.nil_append,List.nil_append,setNow_new HNF.out]
 have HM1:=Lib.hid hm1
 have HBB:=Lib.hid hb
 clear hd1 hm1 hfm hwr HCR hb
 go_wp2_with fail
 refine HWR.out.mono ?_
 rintro e w2 ⟨wv,rfl,hd2,hm2,hf2⟩
 rw [HWE.out] at hd2 hf2
 have HM2:Hid (Mod (fun k=>D.foot k∨w.heap.size≤k) w w2):=(HM1.out.mono fun k _ h=>.inl h).trans (hm2.mono fun k _ h=>by
  rcases h with h | h | ⟨p,hp,h⟩ | h
  · exact .inl (.inl h)
  · exact .inl (.inr (.inl h))
  ·
   rcases List.mem_append.1 hp with h3 | h3
   · exact .inl (.inr (.inr (.inl ⟨p,h3,h⟩)))
   · rw [List.mem_singleton.1 h3] at h
     have h:k=b:=h
     exact .inr (by have:=HBB.out; omega)
  · exact .inl (.inr (.inr (.inr h))))
 have hwv2:∀ k,wv.ownBlock=some k→D.wv.ownBlock=some k∨w.heap.size≤k:=fun k hk=>by
  rcases hf2 k (.inr (.inr (.inr hk))) with h | h
  ·
   rcases h with h | h | ⟨p,hp,h⟩ | h
   · exact absurd h (hd2.apart.2.2 k hk).1
   · exact absurd h (hd2.apart.2.2 k hk).2.1
   · rcases List.mem_append.1 hp with h3 | h3
     · exact absurd h ((hd2.apart.2.2 k hk).2.2 p (List.mem_append_left _ h3))
     · rw [List.mem_singleton.1 h3] at h
       exact absurd h ((hd2.apart.2.2 k hk).2.2 (n,⟨b,[],t⟩) (by simp))
   · exact .inl h
  · exact .inr (by have:=HM1.out.size; omega)
 have HWV2:=Lib.hid hwv2
 have HBs:Hid (Below w2.heap.size w2 (w2.alloc (.cells #[.string (S n)] 9))):=(Below.refl _ w2).alloc (Nat.le_refl _) _
 have hd3:=hd2.below HBs.out
 have HSY:=Lib.hid (sync_any (some ⟨w2.heap.size,0,none⟩) 1 [n] (by simp) _ hd3 (row_one _ _ _) (fun ad e hfo=>by
  cases e
  exact absurd (hd2.lt hfo) (Nat.lt_irrefl _)) (by show (1:Nat)≤1048576; omega))
 have hq2:Quiet ({ D with files:=D.files++[(n,⟨b,[],t⟩)],wv:=wv,waits:=[⟨b,0,t⟩] }:DiskD):=⟨HQ.out.left,HQ.out.up⟩
 have hbars:DiskD.bars { D with files:=D.files++[(n,⟨b,[],t⟩)],wv:=wv,waits:=[⟨b,0,t⟩] } [n]=0:=bars_has hq2 hd2.names (f:=⟨b,[],t⟩) (by simp)
 have hse:DiskD.syncE { D with files:=D.files++[(n,⟨b,[],t⟩)],wv:=wv,waits:=[⟨b,0,t⟩] } [n]=0:=by
  unfold DiskD.syncE
  rw [if_pos hbars]
  exact hq2.done
 rw [hse,show ([n]:List (List UInt8)).length=1 from rfl] at HSY
 have HSE:Hid (∀ wv3,DiskD.sync { D with files:=D.files++[(n,⟨b,[],t⟩)],wv:=wv,waits:=[⟨b,0,t⟩] } [n] wv3={ D with files:=D.files++[(n,⟨b,t,t⟩)],wv:=wv3 }):=fun wv3=>by
  unfold DiskD.sync
  rw [if_pos hbars,if_neg (by show ¬ D.left=0; rw [HQ.out.left]; decide),hq2.burn,lasts_new (l:=D.files) (b:=b) (i:=[]) (u:=t) (ws:=[⟨b,0,t⟩]) rfl rfl (fun x hx=>by rw [List.mem_singleton.1 hx]) HNF.out]
  show ({ D with files:=D.files++[(n,⟨b,t,t⟩)],wv:=wv3,waits:=[] }:DiskD)={ D with files:=D.files++[(n,⟨b,t,t⟩)],wv:=wv3 }
  rw [← HW.out]
 clear hd2 hm2 hf2 hwv2 hd3 hbars hse HWR HWE
 go_wp2_with fail
 refine HSY.out.mono ?_
 rintro e w3 ⟨wv3,rfl,hob,hd4,hm4⟩
 rw [HSE.out] at hd4
 go_wp2_with fail
 go_ret
 have hm5:Mod (fun k=>D.foot k∨w.heap.size≤k) w w3:=(HM2.out.trans (Mod.of_below HBs.out)).trans (hm4.mono fun k _ h=>by
  rcases h with h | h | ⟨p,hp,h⟩ | h
  · exact .inl (.inl h)
  · exact .inl (.inr (.inl h))
  ·
   rcases List.mem_append.1 hp with h3 | h3
   · exact .inl (.inr (.inr (.inl ⟨p,h3,h⟩)))
   · rw [List.mem_singleton.1 h3] at h
     have h:k=b:=h
     exact .inr (by have:=HBB.out; omega)
  · exact (HWV2.out k h).imp (fun h=>.inr (.inr (.inr h))) fun h=>h)
 exact ⟨rfl,b,wv3,hd4,hm5.mono fun k hk h=>h.elim (fun h=>h) fun h=>by omega,HBB.out,fun k hk=>HWV2.out k (by rw [← hob]; exact hk)⟩
open CacheW
theorem sindex_void (a:Option Addr) (cp:Nat) (v:Value) (w:World):Calls Tryz.prog 145 #[.slice a 0 cp,v] w fun e w'=>e=.returned (.int .i64 (-1))∧w'=w:=by
 go_enter Tryz.func145,Tryz.ntmps145
 go_wp2_with fail
 go_loopw [8] (fun i wr=>i=.int .i64 0∧wr=w) (fun i _=>0)
 case atStart=>exact ⟨rfl,rfl⟩
 case round =>
  obtain ⟨rfl,rfl⟩:=hrel
  go_wp2_with fail
  go_ret
  exact ⟨rfl,rfl⟩
theorem contains_void (a:Option Addr) (cp:Nat) (v:Value) (w:World):Calls Tryz.prog 87 #[.slice a 0 cp,v] w fun e w'=>e=.returned (.bool false)∧w'=w:=by
 go_enter Tryz.func87,Tryz.ntmps87
 go_wp2_with fail
 refine (sindex_void a cp v w).mono ?_
 rintro e w2 ⟨rfl,he⟩
 obtain rfl:=he.symm
 go_wp2_with fail
 go_ret
 exact ⟨rfl,rfl⟩
def newL (n:List UInt8):List UInt8:=n++[46,110,101,119]
def DiskD.saved (D:DiskD) (n:List UInt8) (b:Nat) (t:List UInt8) (wv:Value):DiskD:={ D with files:=without D.files n++[(n,⟨b,t,t⟩)],wv:=wv }
theorem without_app (l m:List (List UInt8×FileD)) (n:List UInt8):without (l++m) n=without l n++without m n:=List.filter_append ..
theorem new_ne (n:List UInt8):newL n≠n:=fun e=>by
 have:=congrArg List.length e
 simp [newL] at this
theorem CrcSeal {t:List UInt8}:(⟨(CrcMath.sealed (S t).data.toList).toArray⟩:ByteArray)=S (CrcMath.sealed t):=by
 rw [S_list]; rfl
theorem save_q {base:Nat} {D:DiskD} (n t:List UInt8) (w:World) (h:DiskAt base w D) (hq:Quiet D) (hw:D.waits=[]) (hno:∀ x∈D.files.map (·.1),Lib.hasPrefix x (newL n)=false) (hfl:D.files.length≤1048576) (hnl:∀ p∈D.files,p.1.length≤maxLen) (hn16:n.length≤1000) (htl:t.length≤100000) (hr:((CrcMath.sealed t).length:Int)≤D.room) (hbase:base≤w.heap.size) :
 Calls Tryz.prog 44 #[.pointer (some ⟨D.blk,0,none⟩),.string (S n),.string (S t)] w fun e w'=>e=.returned (.int .i64 0)∧∃ b wv,DiskAt base w' (DiskD.saved D n b (CrcMath.sealed t) wv)∧Mod D.foot w w'∧w.heap.size≤b∧∀ k,wv.ownBlock=some k→D.wv.ownBlock=some k∨w.heap.size≤k:=by
 have HLS:=Lib.hid (list_q (newL n) w h hfl hnl hno)
 have hnone:D.find (newL n)=none:=CacheW.find_not.2 fun hm=>by
  have h1:=hno _ hm
  have h2:Lib.hasPrefix (newL n) (newL n)=true:=by unfold Lib.hasPrefix; simp
  rw [h2] at h1; cases h1
 have HD:=Lib.hid h
 have HQ:=Lib.hid hq
 have HW:=Lib.hid hw
 have HNN:=Lib.hid hnone
 have HR:=Lib.hid hr
 have HB:=Lib.hid hbase
 have HNE:=Lib.hid (new_ne n)
 have HNW:Hid (S n++⟨#[46,110,101,119]⟩=S (newL n)):=by
  show S n++S [46,110,101,119]=_
  rw [S_append]; rfl
 have hsz:=S_size n
 clear h hq hw hnone hr hbase hno hnl
 go_enter Tryz.func44,Tryz.ntmps44
 go_wp2_with fail
 rw [HNW.out]
 refine HLS.out.mono ?_
 rintro e w1 ⟨⟨a,c,rfl⟩,hb1⟩
 have HB1:=Lib.hid hb1
 clear hb1 HLS
 go_wp2_with fail
 refine (contains_void a c _ w1).mono ?_
 rintro e w2 ⟨rfl,he⟩
 obtain rfl:=he.symm
 go_wp2_with fail
 refine (CrcW.new_any w1).mono ?_
 rintro e w3 ⟨B,rfl,hla⟩
 have HB3:Hid (Below w.heap.size w w3):=HB1.out.trans (hla.below.mono HB1.out.size)
 have HSE:=Lib.hid (CrcW.seal_any B (S t) (by rw [S_size]; omega) w3 hla.size hla.tabs)
 rw [CrcSeal] at HSE
 clear hla HB1
 go_wp2_with fail
 refine HSE.out.mono ?_
 rintro e w4 ⟨rfl,hb4⟩
 have HB4:Hid (Below w.heap.size w w4):=HB3.out.trans (hb4.mono HB3.out.size)
 have hsl:CrcMath.sealed t≠[]:=fun e=>by
  have:=CrcMath.sealed_length t
  rw [e] at this
  simp at this
  omega
 have HLD:=Lib.hid (laid_q (newL n) (CrcMath.sealed t) w4 (HD.out.below HB4.out) HQ.out HW.out HNN.out hsl (by rw [CrcMath.sealed_length]; omega) HR.out (Nat.le_trans HB.out HB4.out.size))
 clear hb4 HSE HB3 hsl
 go_wp2_with fail
 refine HLD.out.mono ?_
 rintro e w5 ⟨rfl,b,wv,hd5,hm5,hb5,hwv5⟩
 have hren:=rename_q (newL n) n ⟨b,CrcMath.sealed t,CrcMath.sealed t⟩ w5 hd5 ⟨HQ.out.left,HQ.out.up⟩ HW.out HNE.out (by simp)
 have HM5:Hid (Mod D.foot w w5):=(Mod.of_below HB4.out).trans hm5
 have HBB:Hid (w.heap.size≤b):=Nat.le_trans HB4.out.size hb5
 have HWV:Hid (∀ k,wv.ownBlock=some k→D.wv.ownBlock=some k∨w.heap.size≤k):=fun k hk=>(hwv5 k hk).imp (fun h=>h) fun h=>Nat.le_trans HB4.out.size h
 have HMV:Hid (DiskD.moved { D with files:=D.files++[(newL n,⟨b,CrcMath.sealed t,CrcMath.sealed t⟩)],wv:=wv } (newL n) n ⟨b,CrcMath.sealed t,CrcMath.sealed t⟩=DiskD.saved D n b (CrcMath.sealed t) wv):=by
  show ({ D with files:=without (without (D.files++[(newL n,_)]) n) (newL n)++[(n,_)],wv:=wv }:DiskD)=_
  have e1:without [(newL n,(⟨b,CrcMath.sealed t,CrcMath.sealed t⟩:FileD))] n=[(newL n,⟨b,CrcMath.sealed t,CrcMath.sealed t⟩)]:=without_none fun p hp=>by rw [List.mem_singleton.1 hp]; exact HNE.out
  have e2:without (without D.files n) (newL n)=without D.files n:=without_none fun p hp=>find_none HNN.out p (mem_without.1 hp).1
  have e3:without [(newL n,(⟨b,CrcMath.sealed t,CrcMath.sealed t⟩:FileD))] (newL n)=[]:=by simp [without]
  rw [without_app,e1,without_app,e2,e3,List.append_nil]
  rfl
 rw [HMV.out] at hren
 have HRN:=Lib.hid hren
 have HF5:Hid (∀ k,DiskD.foot { D with files:=D.files++[(newL n,⟨b,CrcMath.sealed t,CrcMath.sealed t⟩)],wv:=wv } k→D.foot k∨w.heap.size≤k):=fun k hk=>by
  rcases hk with h | h | ⟨p,hp,h⟩ | h
  · exact .inl (.inl h)
  · exact .inl (.inr (.inl h))
  ·
   rcases List.mem_append.1 hp with h3 | h3
   · exact .inl (.inr (.inr (.inl ⟨p,h3,h⟩)))
   · rw [List.mem_singleton.1 h3] at h
     have h:k=b:=h
     exact .inr (by have:=HBB.out; omega)
  · exact (HWV.out k h).imp (fun h=>.inr (.inr (.inr h))) fun h=>h
 clear hd5 hm5 hb5 hwv5 hren HLD HMV
 go_wp2_with fail
 refine HRN.out.mono ?_
 rintro e w6 ⟨rfl,hd6,hm6⟩
 go_wp2_with fail
 go_ret
 exact ⟨rfl,b,wv,hd6,((HM5.out.mono (N:=fun k=>D.foot k∨w.heap.size≤k) fun k _ h=>.inl h).trans (hm6.mono fun k _ h=>HF5.out k h)).mono fun k hk h=>h.elim (fun h=>h) fun h=>by omega,HBB.out,HWV.out⟩
end Go.Proofs.YtnoehodmmkioaaaGreatDoor.TopW
namespace Go.Proofs.YtnoehodmmkioaaaGreatDoor.StoW
open Go.RowKit Go.MapKept OctMath RecMath RecW TapeMath DskW SegW MapG TapeW PendW CacheW CqW TopW
theorem saved_find {D:DiskD} {n t:List UInt8} {b:Nat} {wv:Value} (m:List UInt8) (h:m≠n):(DiskD.saved D n b t wv).find m=D.find m:=by
 unfold DiskD.saved DiskD.find DskW.without
 dsimp only
 rw [List.find?_append]
 have h1:([(n,(⟨b,t,t⟩:FileD))].find? fun p=>p.1 == m)=none:=List.find?_eq_none.2 fun p hp=>by
  rw [List.mem_singleton.1 hp]
  simpa using fun e=>h e.symm
 have h2:((D.files.filter fun p=>!decide (p.1=n)).find? fun p=>p.1 == m)=D.files.find? fun p=>p.1 == m:=by
  induction D.files with
  | nil=>rfl
  | cons p l ih =>
    by_cases hp:p.1=n
    · rw [List.filter_cons_of_neg (by simp [hp]),ih,List.find?_cons_of_neg (by simpa using fun e=>h (e.symm.trans hp))]
    · rw [List.filter_cons_of_pos (by simp [hp])]
      by_cases hm:p.1=m
      · rw [List.find?_cons_of_pos (by simpa using hm),List.find?_cons_of_pos (by simpa using hm)]
      · rw [List.find?_cons_of_neg (by simpa using hm),List.find?_cons_of_neg (by simpa using hm),ih]
 rw [h2,h1,Option.or_none]
theorem saved_bytes {D:DiskD} {n t:List UInt8} {b:Nat} {wv:Value} (m:List UInt8) (h:m≠n):(DiskD.saved D n b t wv).bytes m=D.bytes m:=by
 unfold DiskD.bytes; rw [saved_find m h]
theorem saved_foot {D:DiskD} {n t:List UInt8} {b B:Nat} {wv:Value} (hb:B≤b) (hv:∀ k,wv.ownBlock=some k→D.wv.ownBlock=some k∨B≤k):∀ k,(DiskD.saved D n b t wv).foot k→D.foot k∨B≤k:=fun k hk=>by
 rcases hk with h | h | ⟨p,hp,h⟩ | h
 · exact .inl (.inl h)
 · exact .inl (.inr (.inl h))
 ·
  rcases List.mem_append.1 hp with h3 | h3
  · exact .inl (.inr (.inr (.inl ⟨p,(mem_without.1 h3).1,h⟩)))
  · rw [List.mem_singleton.1 h3] at h
    have h:k=b:=h
    exact .inr (by omega)
 · exact (hv k h).imp (fun h=>.inr (.inr (.inr h))) fun h=>h
theorem saved_room {D:DiskD} {n t:List UInt8} {b:Nat} {wv:Value}:D.room - (t.length:Int)≤(DiskD.saved D n b t wv).room:=by
 unfold DiskD.room DiskD.size DiskD.saved
 dsimp only
 rw [SegW.sizeL_append]
 have h1:=sizeL_without D.files n
 have h2:sizeL [(n,(⟨b,t,t⟩:FileD))]=t.length:=by simp [sizeL]
 omega
theorem _root_.Go.Proofs.YtnoehodmmkioaaaGreatDoor.TapeW.TapeAt.saved {base:Nat} {w w':World} {T:TapeD} {n t:List UInt8} {b:Nat} {wv:Value} (h:TapeAt base w T) (hn:∀ p,p≤99999999→n≠nameL tapeH p) (hwt:T.D.waits=[])
 {M:Nat→Prop} (hd:DiskAt base w' (DiskD.saved T.D n b t wv)) (hm:Mod M w w') (hM:∀ k,M k→T.D.foot k∨¬ T.foot k) (hb:w.heap.size≤b) (hv:∀ k,wv.ownBlock=some k→T.D.wv.ownBlock=some k∨w.heap.size≤k):TapeAt base w' { T with D:=DiskD.saved T.D n b t wv }:=by
 have hf:=saved_foot (D:=T.D) (n:=n) (t:=t) hb hv
 refine { h with own:=h.own.mod hm (fun k hk h2=>(hM k h2).elim (h.away k hk).1 fun h3=>h3 (.inl hk)),away:=fun k hk=>⟨fun h2=>?_,(h.away k hk).2⟩,whole:=?_,wait:=Waiting.none hwt }
 · rcases hf k h2 with h3 | h3
   · exact (h.away k hk).1 h3
   · have:=h.own.lt hk; omega
 ·
  have hw:=h.whole
  refine ⟨hw.seg.mod hm (fun k hk h2=>(hM k h2).elim (fun h3=>hw.ap k h3 hk) fun h3=>h3 (.inr (.inr hk))),hd,hw.db,fun k hk h2=>?_,fun i hi=>?_,fun p hp hi=>?_⟩
  · rcases hf k hk with h3 | h3
    · exact hw.ap k h3 h2
    · have:=hw.seg.lt h2; omega
  ·
   have hi:i < T.R.n:=hi
   have hne:nameL T.R.head (T.R.b+i * T.R.size)≠n:=fun e=>hn (T.R.b+i * T.R.size) (by have:=hw.seg.long (by omega); have:i * T.R.size≤(T.R.n - 1) * T.R.size:=Nat.mul_le_mul_right _ (by omega); omega) (by rw [← h.head]; exact e.symm)
   show (DiskD.saved T.D n b t wv).bytes _=_∧((DiskD.saved T.D n b t wv).find _).isSome=true
   rw [saved_bytes _ hne,saved_find _ hne]
   exact hw.ok i hi
  · show (DiskD.saved T.D n b t wv).find _=none
    rw [saved_find _ (fun e=>hn p hp (by rw [← h.head]; exact e.symm))]
    exact hw.only p hp hi
structure TabD where
 blk:Nat
 dk:Nat
 v:Value
 l:List (List UInt8×Nat)
def TabD.foot (X:TabD) (k:Nat):Prop:=k=X.blk∨X.v.ownBlock=some k
structure TabAt (base:Nat) (w:World) (X:TabD):Prop where
 cells:w.heap[X.blk]?=some (.cells #[.pointer (some ⟨X.dk,0,none⟩),X.v] 106 (0,0))
 row:w.ownsRow base 66 2 X.v X.l.length (cellsT X.l)
 low:base≤X.blk
theorem TabAt.lt {base:Nat} {w:World} {X:TabD} (h:TabAt base w X) {k:Nat} (hk:X.foot k):k < w.heap.size:=by
 rcases hk with hk | hk
 · rw [hk]; exact (Array.getElem?_eq_some_iff.1 h.cells).1
 · rcases h.row.2 with ⟨e,_⟩ | ⟨g,cap,cur,e,_,hg,_⟩
   · rw [e] at hk; cases hk
   · rw [e] at hk; cases hk; exact (Array.getElem?_eq_some_iff.1 hg).1
theorem TabAt.mod {base:Nat} {w w':World} {X:TabD} {M:Nat→Prop} (h:TabAt base w X) (hm:Mod M w w') (hM:∀ k,X.foot k→¬ M k):TabAt base w' X :=
 ⟨(hm.block _ (h.lt (.inl rfl)) (hM _ (.inl rfl))).trans h.cells,SegW.ownsRow_mod h.row hm (fun k hk=>hM k (.inr hk)),h.low⟩
theorem TabAt.below {base:Nat} {w w':World} {X:TabD} (h:TabAt base w X) (hb:Below w.heap.size w w'):TabAt base w' X :=
 h.mod (M:=fun _=>False) (Mod.of_below hb) (fun _ _ h=>h)
structure StoTab (base:Nat) (w:World) (S:StoD) (X:TabD):Prop where
 sto:StoAt base w S
 tab:TabAt base w X
 top:S.top=.pointer (some ⟨X.blk,0,none⟩)
 dk:X.dk=S.T.D.blk
 away:∀ k,S.foot k→¬ X.foot k
theorem StoTab.mod {base:Nat} {w w':World} {S:StoD} {X:TabD} {M:Nat→Prop} (h:StoTab base w S X) (hm:Mod M w w') (h1:∀ k,S.foot k→¬ M k) (h2:∀ k,X.foot k→¬ M k):StoTab base w' S X :=
 { h with sto:=h.sto.mod hm h1,tab:=h.tab.mod hm h2 }
theorem StoTab.below {base:Nat} {w w':World} {S:StoD} {X:TabD} (h:StoTab base w S X) (hb:Below w.heap.size w w'):StoTab base w' S X :=
 h.mod (M:=fun _=>False) (Mod.of_below hb) (fun _ _ h=>h) (fun _ _ h=>h)
def StoD.disk (S:StoD) (D:DiskD):StoD:={ S with T:={ S.T with D:=D } }
theorem StoTab.add {base m:Nat} {w w':World} {S:StoD} {X:TabD} {v:Value} {l:List (List UInt8×Nat)} {n t:List UInt8} {b:Nat} {wv:Value} (h:StoTab base w S X) (hn:∀ p,p≤99999999→n≠nameL tapeH p) (hwt:S.T.D.waits=[]) (hd:DiskAt base w' (DiskD.saved S.T.D n b t wv)) (ht:TabAt base w' ⟨X.blk,S.T.D.blk,v,l⟩)
 (hm:Mod (fun k=>S.T.D.foot k∨k=X.blk) w w') (hz:w.heap.size≤m) (hb:m≤b) (hv:∀ k,wv.ownBlock=some k→S.T.D.wv.ownBlock=some k∨m≤k) (hv2:∀ k,v.ownBlock=some k→w.heap.size≤k∧k < m) :
 StoTab base w' (S.disk (DiskD.saved S.T.D n b t wv)) ⟨X.blk,S.T.D.blk,v,l⟩∧∀ k,(S.disk (DiskD.saved S.T.D n b t wv)).foot k→S.foot k∨w.heap.size≤k:=by
 have hX:¬ S.foot X.blk:=fun h2=>h.away _ h2 (.inl rfl)
 have hf:=saved_foot (D:=S.T.D) (n:=n) (t:=t) hb hv
 have hTf:∀ k,S.T.D.foot k→S.T.foot k:=fun k hk=>.inr (.inl hk)
 have htf:∀ k,TapeD.foot { S.T with D:=DiskD.saved S.T.D n b t wv } k→S.T.foot k∨m≤k:=fun k hk=>by
  rcases hk with h1 | h1 | h1
  · exact .inl (.inl h1)
  · exact (hf k h1).imp (hTf k) fun h=>h
  · exact .inl (.inr (.inr h1))
 have hT:=h.sto.tape.saved hn hwt hd hm (fun k hk=>hk.imp (fun h=>h) fun e h2=>hX (by subst e; exact .inr (.inl h2))) (Nat.le_trans hz hb) (fun k hk=>(hv k hk).imp (fun h=>h) fun h=>Nat.le_trans hz h)
 have hP:=h.sto.pend.mod hm (fun k hk h2=>h2.elim (fun h3=>(h.sto.away.1 k (hTf k h3)).2 hk) fun e=>hX (by subst e; exact .inr (.inr hk)))
 have hsb:¬ (S.T.D.foot S.blk∨S.blk=X.blk):=fun h2=>h2.elim (fun h3=>(h.sto.away.1 _ (hTf _ h3)).1 rfl) fun e=>hX (by rw [← e]; exact .inl rfl)
 have hff:∀ k,(S.disk (DiskD.saved S.T.D n b t wv)).foot k→S.foot k∨m≤k:=fun k hk=>by
  rcases hk with h1 | h1 | h1
  · exact .inl (.inl h1)
  · exact (htf k h1).imp (fun h=>.inr (.inl h)) fun h=>h
  · exact .inl (.inr (.inr h1))
 refine ⟨⟨⟨(hm.block _ (h.sto.lt (.inl rfl)) hsb).trans h.sto.cells,hT,hP,h.sto.low,fun k hk=>?_,h.sto.away.2⟩,ht,h.top,rfl,fun k hk h2=>?_⟩,fun k hk=>(hff k hk).imp (fun h=>h) fun h=>Nat.le_trans hz h⟩
 ·
  rcases htf k hk with h1 | h1
  · exact h.sto.away.1 k h1
  · have h3:=h.sto.lt (.inl rfl)
    exact ⟨by show k≠S.blk; omega,fun h4=>by have:=h.sto.pend.lt h4; omega⟩
 ·
  rcases hff k hk with h1 | h1
  · rcases h2 with h3 | h3
    · exact hX (by rw [← (h3:k=X.blk)]; exact h1)
    · have:=(hv2 k h3).1; have:=h.sto.lt h1; omega
  · rcases h2 with h3 | h3
    · have:=h.tab.lt (.inl rfl); have h3:k=X.blk:=h3; omega
    · have:=(hv2 k h3).2; omega
end Go.Proofs.YtnoehodmmkioaaaGreatDoor.StoW
namespace Go.Proofs.YtnoehodmmkioaaaGreatDoor
open Go.RowKit
section
variable {P:Program} {w:World}
theorem run_append_zero (t ty e:TypeId) (i:TypeInfo) (ht:P.underlying t=some (.slice e)) (hi:P.info? e=some i) (b a:Option Addr) (c:Nat) :
 (Builtin.append_ #[t,t] ty #[.slice b 0 0,.slice a 0 c]).run P w=.ok (.slice b 0 0) w:=by
 cases a <;> cases b <;> simp [Builtin.append_,run_underlying ht,sizeOf,typeInfo,hi,Builtin.lenOf,Builtin.firstCells,storeCells,loadCells,loadCellsFrom]
end
end Go.Proofs.YtnoehodmmkioaaaGreatDoor
namespace Go.Proofs.YtnoehodmmkioaaaGreatDoor.TopW
open Go.RowKit Go.MapKept OctMath RecMath RecW DskW SegW CacheW StoW
open OctW (textL textsL textsW)
def rowsT (l:List (List UInt8×Nat)):List UInt8:=l.flatMap fun x=>textL x.1++be 1 x.2
def putT (l:List (List UInt8×Nat)):List UInt8:=be 1 l.length++rowsT l
theorem nums1 (x:Nat) (h:x < 256):OctW.numsW 1 [(x:Int)]=(be 1 x,0):=by
 have h1:OctW.numsW ((1:Nat):Int) [(x:Int)]=_:=nums_fit 1 [(x:Int)] (by omega) (by omega) (fun y hy=>by
  rw [List.mem_singleton.1 hy]; exact ⟨by omega,by show (x:Int) < ((256 ^ 1:Nat):Int); omega⟩)
 rw [show ((1:Nat):Int)=1 from rfl] at h1
 rw [h1]; simp [OctW.numsL]
theorem texts1 (t:List UInt8) (h:t.length≤1000):textsW [t]=(textL t,0):=by
 unfold OctW.textsW
 rw [if_pos (fun x hx=>by rw [List.mem_singleton.1 hx]; omega)]
 simp [textsL]
theorem rowsT_len (l:List (List UInt8×Nat)) (h:∀ x∈l,x.1.length≤1000∧x.2≤255):(rowsT l).length≤l.length * 1003:=by
 induction l with
 | nil=>simp [rowsT]
 | cons x l ih =>
   have h1:=h x (.head _)
   have h2:=ih fun y hy=>h y (.tail _ hy)
   have h3:rowsT (x :: l)=(textL x.1++be 1 x.2)++rowsT l:=rfl
   rw [h3,List.length_append,List.length_append,OctW.textL_length,be_length,List.length_cons,Nat.add_mul]
   omega
theorem tput_any (a:Option Addr) (cp:Nat) (l:List (List UInt8×Nat)) (hl:l.length≤255) (hn:∀ x∈l,x.1.length≤1000∧x.2≤255) (W:World) (hr:RowT W a l) :
 Calls Tryz.prog 45 #[.slice a l.length cp] W fun e w'=>e=.returned (.string (S (putT l)))∧Below W.heap.size W w':=by
 have HR:=Lib.hid hr
 have HNN:=Lib.hid hn
 have HNU:Hid (∀ (w:World) (x:Nat),x < 256→Calls Tryz.prog 94 #[.int .i64 1,.slice (some ⟨w.heap.size,0,none⟩) 1 1] (w.alloc (.cells #[.int .i64 (x:Int)] 3)) fun e w'=>e=.returned (.tuple #[.string (S (be 1 x)),.int .i64 0])∧Below w.heap.size w w'):=fun w x h=>by
  have h1:=OctW.nums_any 1 (by omega) (by omega) (some ⟨w.heap.size,0,none⟩) 1 [(x:Int)] (by simp) (fun y hy=>by simp at hy; omega) _ (ints_new w [(x:Int)] 3)
  rw [nums1 x h] at h1
  exact h1.mono fun e w' ⟨he,hb⟩=>⟨he,((Below.refl _ w).alloc (Nat.le_refl _) _).trans (hb.mono (by rw [World.size_alloc]; omega))⟩
 have HTX:Hid (∀ (w:World) (t:List UInt8),t.length≤1000→Calls Tryz.prog 95 #[.slice (some ⟨w.heap.size,0,none⟩) 1 1] (w.alloc (.cells #[.string (S t)] 9)) fun e w'=>e=.returned (.tuple #[.string (S (textL t)),.int .i64 0])∧Below w.heap.size w w'):=fun w t h=>by
  have h1:=OctW.texts_any (some ⟨w.heap.size,0,none⟩) 1 [t] (by simp) (by simp [textsL,OctW.textL_length]; omega) _ (strs_new w [S t] 9)
  rw [texts1 t h] at h1
  exact h1.mono fun e w' ⟨he,hb⟩=>⟨he,((Below.refl _ w).alloc (Nat.le_refl _) _).trans (hb.mono (by rw [World.size_alloc]; omega))⟩
 have HRL:=Lib.hid (rowsT_len l hn)
 clear hr hn
 go_enter Tryz.func45,Tryz.ntmps45
 go_wp2_with fail
 refine (HNU.out W l.length (by omega)).mono ?_
 rintro e w1 ⟨rfl,hb1⟩
 have HB1:=Lib.hid hb1
 clear hb1
 have HS0:Hid (S (be 1 l.length)=S (be 1 l.length++rowsT (l.take 0))):=by show _=_; simp [rowsT]
 go_wp2_with fail
 go_loopw [20,3] (fun i s wr=>∃ k:Nat,k≤l.length∧i=.int .i64 (k:Int)∧s=.string (S (be 1 l.length++rowsT (l.take k)))∧Hid (Below W.heap.size W wr)) (fun i _ _=>l.length+1 - (intOf i).toNat)
 case atStart=>exact ⟨0,by omega,rfl,by rw [HS0.out],HB1.out⟩
 case round =>
  obtain ⟨k,hk,rfl,rfl,HB⟩:=hrel
  clear HB1 HS0
  by_cases hlt:k < l.length
  ·
   obtain ⟨g,rfl,hgl,h1,h2⟩:=(HR.out.below HB.out) k hlt
   have hx:=HNN.out l[k] (List.getElem_mem hlt)
   have hst:l.take (k+1)=l.take k++[l[k]]:=List.take_succ_eq_append_getElem hlt
   have hrl:(rowsT (l.take k)).length≤255 * 1003:=by
    have h3:=rowsT_len (l.take k) fun x hx=>HNN.out x (List.mem_of_mem_take hx)
    have h4:(l.take k).length≤255:=by rw [List.length_take]; omega
    have h5:(l.take k).length * 1003≤255 * 1003:=Nat.mul_le_mul_right _ h4
    omega
   have z1:(S (be 1 l.length++rowsT (l.take k))).size≤300000:=by rw [S_size,List.length_append,be_length]; omega
   generalize l[k]=x at *
   obtain ⟨n,q⟩:=x
   dsimp only at hx
   have z2:(S (textL n)).size≤2000:=by rw [S_size,OctW.textL_length]; have:=hx.1; omega
   have z3:(S (be 1 q)).size≤10:=by rw [S_size,be_length]; omega
   have HS:Hid (S (be 1 l.length++rowsT (l.take k))++(S (textL n)++S (be 1 q))=S (be 1 l.length++rowsT (l.take (k+1)))):=by
    show _=_
    rw [hst,S_append,S_append]
    simp [rowsT]
   have HT1:=Lib.hid (fun w=>HTX.out w n hx.1)
   have HN1:=Lib.hid (fun w=>HNU.out w q (by have:=hx.2; omega))
   clear hst hrl hx
   generalize S (be 1 l.length++rowsT (l.take k))=s1 at *
   generalize S (textL n)=s2 at *
   generalize S (be 1 q)=s3 at *
   have HA2:Hid (Below wr.heap.size wr (wr.alloc (.cells #[.string (S n),.int .i64 (q:Int)] 66))):=(Below.refl _ _).alloc (Nat.le_refl _) _
   have hc2:=heap_alloc_new wr (.cells #[.string (S n),.int .i64 (q:Int)] 66)
   go_upto_region 5 with fail
   generalize wr.alloc (.cells #[.string (S n),.int .i64 (q:Int)] 66)=w2 at *
   obtain ⟨A,hA⟩:∃ A,wr.heap.size=A:=⟨_,rfl⟩
   have HB2:Hid (Below W.heap.size W w2):=HB.out.trans (HA2.out.mono HB.out.size)
   rw [hA] at hc2 ⊢
   have HC2:=Lib.hid hc2
   have c0:w2.cell? ⟨A,0,none⟩=some (.string (S n)):=by rw [Lib.cell_of_heap hc2]; rfl
   clear hA hc2 HA2 HB h1 h2
   go_wp2_with fail
   refine (HT1.out _).mono ?_
   rintro e w3 ⟨rfl,hb3⟩
   have HB3:Hid (Below W.heap.size W w3):=HB2.out.trans (hb3.mono HB2.out.size)
   have c1:w3.cell? ⟨A,1,none⟩=some (.int .i64 (q:Int)):=by
    rw [Lib.cell_of_heap ((hb3.block A (Array.getElem?_eq_some_iff.1 HC2.out).1).trans HC2.out)]; rfl
   clear hb3 HT1 HB2 c0
   go_wp2_with fail
   refine (HN1.out _).mono ?_
   rintro e w4 ⟨rfl,hb4⟩
   have HB4:Hid (Below W.heap.size W w4):=HB3.out.trans (hb4.mono HB3.out.size)
   clear hb4 HN1 HB3 c1
   go_wp2_with fail
   go_roundw
   case rel=>exact ⟨k+1,by omega,by go_num,by rw [← HS.out],HB4⟩
   case measure=>simp [intOf]; omega
  ·
   obtain rfl:k=l.length:=by omega
   go_wp2_with fail
   go_ret
   rw [List.take_length]
   exact ⟨rfl,HB.out⟩
theorem info_topic:∃ i,Tryz.prog.info? 66=some i∧i.zero=some (.agg #[.string ⟨#[]⟩,.int .i64 0])∧i.size=2∧i.bytes=24:=by
 have:=(show (Tryz.prog.info? 66).map (fun i=>(i.zero,i.size,i.bytes))=some (some (.agg #[.string ⟨#[]⟩,.int .i64 0]),2,24) by kernel_rfl)
 cases hh:Tryz.prog.info? 66 with
 | none=>rw [hh] at this; cases this
 | some i=>rw [hh] at this; have h2:=Option.some.inj this; exact ⟨i,rfl,congrArg (·.1) h2,congrArg (·.2.1) h2,congrArg (·.2.2) h2⟩
theorem append_topics {base:Nat} {w:World} {v:Value} {l:List (List UInt8×Nat)} (h:w.ownsRow base 66 2 v l.length (cellsT l)) (hl:l.length≤1048576) (bb:Addr) :
 ∃ a cp v' w8,v=.slice a l.length cp∧(Builtin.append_ #[63,63] 63 #[.slice (some bb) 0 0,.slice a l.length cp]).run Tryz.prog w=.ok v' w8 ∧
  (l=[]→v'=.slice (some bb) 0 0∧w8=w)∧(l≠[]→w8.ownsRow w.heap.size 66 2 v' l.length (cellsT l)∧Below w.heap.size w w8):=by
 obtain ⟨i0,hi0,hz0,hz1,hz2⟩:=info_topic
 obtain ⟨a,cp,hv,hrow⟩:=RowT.own h
 subst hv
 cases l with
 | nil=>exact ⟨a,cp,_,w,rfl,run_append_zero _ _ _ i0 Tryz.underlying63 hi0 _ a cp,fun _=>⟨rfl,rfl⟩,fun h=>absurd rfl h⟩
 | cons x l =>
   obtain ⟨g,rfl,_⟩:=hrow 0 (by simp)
   rcases h.2 with ⟨e,_⟩ | ⟨g2,cap,cur,e,hb,hg,hn,hm,hc,ht⟩
   · cases e
   ·
    cases e
    obtain ⟨v',w8,hr,hrow',hgb⟩:=run_append_arg_grows (P:=Tryz.prog) (w:=w) 63 63 66 i0 (.agg #[.string ⟨#[]⟩,.int .i64 0]) 2 24 Tryz.underlying63 hi0 hz0 hz1 hz2 rfl (by omega) bb 0 0 [] rfl (by simp)
     ⟨g,0,none⟩ (x :: l).length cp (cellsT (x :: l)) (cellsT_len _) (fun j u hu=>by
      have hadd:(⟨g,0,none⟩:Addr).add j=⟨g,j,none⟩:=by unfold Addr.add; split <;> simp_all
      rw [hadd,Lib.cell_of_heap hg]
      rw [← ht] at hu
      rw [List.getElem?_take] at hu
      split at hu
      · simpa using hu
      · cases hu) (by simp) (by unfold maxLen; simp at hl ⊢; omega) (by simp at hl ⊢; omega)
    rw [Nat.zero_add,List.nil_append] at hrow'
    exact ⟨_,cp,v',w8,rfl,hr,fun h=>absurd h (by simp),fun _=>⟨hrow',(Below.refl _ _).grown hgb (Nat.le_refl _) (by simp)⟩⟩
theorem eql_tnil (a:Option Addr) (n c:Nat) (w:World):Sem.run Tryz.prog (binOp .eql 63 (.slice a n c) (.slice none 0 0)) w=.ok (.bool a.isNone) w :=
 Lib.run_eql_slice_nil w _ 66 a n c 0 0 Tryz.underlying63
theorem tclone_any {base:Nat} (v:Value) (l:List (List UInt8×Nat)) (w:World) (h:w.ownsRow base 66 2 v l.length (cellsT l)) (hl:l.length≤1048576) :
 Calls Tryz.prog 39 #[v] w fun e w'=>∃ v',e=.returned v'∧w'.ownsRow w.heap.size 66 2 v' l.length (cellsT l)∧Below w.heap.size w w':=by
 rcases h.2 with ⟨hv,h0⟩ | ⟨g,cap,cur,hv,_⟩
 ·
  subst hv
  obtain rfl:l=[]:=List.eq_nil_of_length_eq_zero h0
  have hel:Sem.run Tryz.prog (binOp .eql 63 (.slice none 0 0) (.slice none 0 0)) w=.ok (.bool true) w:=eql_tnil none 0 0 w
  go_enter Tryz.func39,Tryz.ntmps39
  go_wp2_with fail
  go_ret
  exact ⟨_,rfl,⟨rfl,.inl ⟨rfl,rfl⟩⟩,Below.refl _ _⟩
 ·
  have HB0:Hid (Below w.heap.size w (w.alloc (.cells #[] 66))):=(Below.refl _ _).alloc (Nat.le_refl _) _
  have h2:(w.alloc (.cells #[] 66)).ownsRow base 66 2 v l.length (cellsT l):=OctW.ownsRow_mod h (Mod.of_below (M:=fun _=>False) HB0.out) (fun _ x=>x.elim)
  obtain ⟨a,cp,v',w8,hv2,hr,hn,hs⟩:=append_topics h2 hl ⟨w.heap.size,0,none⟩
  have hE:(w.alloc (.cells #[] 66)).ownsRow w.heap.size 66 2 (.slice (some ⟨w.heap.size,0,none⟩) 0 0) 0 []:=⟨rfl,.inr ⟨w.heap.size,0,#[],rfl,Nat.le_refl _,heap_alloc_new w _,Nat.le_refl _,by unfold maxLen; omega,rfl,rfl⟩⟩
  have HE:Hid (w8.ownsRow w.heap.size 66 2 v' l.length (cellsT l)∧Below w.heap.size w w8):=by
   by_cases hl0:l=[]
   · obtain ⟨rfl,rfl⟩:=hn hl0
     subst hl0
     exact ⟨hE,HB0.out⟩
   · obtain ⟨h3,h4⟩:=hs hl0
     refine ⟨⟨h3.1,h3.2.imp (fun h=>h) fun ⟨g,cap,cur,e1,e2,rest⟩=>⟨g,cap,cur,e1,by rw [World.size_alloc] at e2; omega,rest⟩⟩,HB0.out.trans (h4.mono (by rw [World.size_alloc]; omega))⟩
  have HRN:=Lib.hid hr
  subst hv
  cases hv2
  have hel:Sem.run Tryz.prog (binOp .eql 63 (.slice (some ⟨g,0,none⟩) l.length cap) (.slice none 0 0)) w=.ok (.bool false) w:=eql_tnil _ _ _ w
  clear h h2 hr hn hs hE HB0
  go_enter Tryz.func39,Tryz.ntmps39
  go_wp2_with (at_builtin; refine Lib.wpList_append_run _ rfl (.tmp 5) (.tmp 6) 63 63 rfl _ _ rfl rfl _ _ HRN.out ?_)
  go_ret
  exact ⟨v',rfl,HE.out⟩
open Go.RowKit Go.MapKept OctMath RecMath RecW DskW SegW CacheW StoW NameMath
theorem tall_any {base:Nat} {X:TabD} (w:World) (h:TabAt base w X) (hl:X.l.length≤1000) :
 Calls Tryz.prog 19 #[.pointer (some ⟨X.blk,0,none⟩)] w fun e w'=>∃ v',e=.returned v'∧w'.ownsRow w.heap.size 66 2 v' X.l.length (cellsT X.l)∧Below w.heap.size w w':=by
 have c1:w.cell? ⟨X.blk,1,none⟩=some X.v:=by rw [Lib.cell_of_heap h.cells]; rfl
 have HC:=Lib.hid (tclone_any X.v X.l w h.row (by omega))
 generalize X.v=v at *
 clear h
 go_enter Tryz.func19,Tryz.ntmps19
 go_wp2_with fail
 refine HC.out.mono ?_
 rintro e w2 ⟨v',rfl,ho,hb⟩
 have HO:=Lib.hid ho
 have HB:=Lib.hid hb
 clear ho hb HC c1
 go_wp2_with fail
 go_ret
 exact ⟨v',rfl,HO.out,HB.out⟩
def queuesT (l:List (List UInt8×Nat)) (n:List UInt8):Nat:=if (ofL n).isEmpty=true then ((l.find? fun x=>decide (x.1=n)).map (·.2)).getD 0 else 1
theorem find_hit (n:List UInt8) (l:List (List UInt8×Nat)) (k:Nat) (h:k < l.length) (hn:∀ x∈l.take k,x.1≠n) (he:l[k].1=n):(l.find? fun x=>decide (x.1=n))=some l[k]:=by
 have h1:(l.take k++l.drop k).find? (fun x=>decide (x.1=n))=some l[k]:=by
  rw [List.find?_append,List.find?_eq_none.2 (fun x hx=>by simpa using hn x hx),Option.none_or,List.drop_eq_getElem_cons h,List.find?_cons_of_pos (by simpa using he)]
 rw [List.take_append_drop] at h1
 exact h1
theorem find_out (n:List UInt8) (l:List (List UInt8×Nat)) (hn:∀ x∈l,x.1≠n):(l.find? fun x=>decide (x.1=n))=none:=List.find?_eq_none.2 (fun x hx=>by simpa using hn x hx)
theorem tqueues_any {base:Nat} {X:TabD} (n:List UInt8) (hn:n.length≤1099511627776) (W:World) (h:TabAt base W X) (hl:X.l.length≤1000) :
 Calls Tryz.prog 103 #[.pointer (some ⟨X.blk,0,none⟩),.string (S n)] W fun e w'=>e=.returned (.int .i64 (queuesT X.l n:Int))∧Below W.heap.size W w':=by
 obtain ⟨tb,dk,v,l⟩:=X
 have HC:=Lib.hid h.cells
 obtain ⟨a,cp,hv,hrow⟩:=RowT.own h.row
 dsimp only at hv hrow HC hl ⊢
 subst hv
 have HR:=Lib.hid hrow
 have HO:=Lib.hid (fun w=>NameW.of_any n hn w)
 have HQ:Hid (queuesT l n=if (ofL n).isEmpty=true then ((l.find? fun x=>decide (x.1=n)).map (·.2)).getD 0 else 1):=rfl
 generalize hob:(ofL n).isEmpty=ob at *
 clear h hrow hob
 go_enter Tryz.func103,Tryz.ntmps103
 go_wp2_with fail
 refine (HO.out W).mono ?_
 rintro e w1 ⟨rfl,hb1⟩
 have HB1:=Lib.hid hb1
 have HC1:Hid (w1.heap[tb]?=_):=(hb1.block tb (Array.getElem?_eq_some_iff.1 HC.out).1).trans HC.out
 have c1:w1.cell? ⟨tb,1,none⟩=some (.slice a l.length cp):=by rw [Lib.cell_of_heap HC1.out]; rfl
 clear hb1 HO
 cases ob with
 | false =>
   go_wp2_with fail
   go_ret
   rw [HQ.out]
   exact ⟨rfl,HB1.out⟩
 | true =>
   go_wp2_with fail
   go_loopw [22] (fun i wr=>∃ k:Nat,k≤l.length∧i=.int .i64 (k:Int)∧Hid (∀ x∈l.take k,x.1≠n)∧Hid (Below W.heap.size W wr)) (fun i _=>l.length+1 - (intOf i).toNat)
   case atStart=>exact ⟨0,by omega,rfl,fun x hx=>by simp at hx,HB1.out⟩
   case round =>
    obtain ⟨k,hk,rfl,HA,HB⟩:=hrel
    clear HB1 HC1 c1
    by_cases hlt:k < l.length
    ·
     obtain ⟨g,rfl,hgl,h1,h2⟩:=(HR.out.below HB.out) k hlt
     have hst:l.take (k+1)=l.take k++[l[k]]:=List.take_succ_eq_append_getElem hlt
     have HA2:Hid (Below wr.heap.size wr (wr.alloc (.cells #[.string (S l[k].1),.int .i64 (l[k].2:Int)] 66))):=(Below.refl _ _).alloc (Nat.le_refl _) _
     have hc2:=heap_alloc_new wr (.cells #[.string (S l[k].1),.int .i64 (l[k].2:Int)] 66)
     have HF:Hid (l[k].1=n→queuesT l n=l[k].2):=fun he=>by rw [HQ.out,if_pos trivial,find_hit n l k hlt HA.out he]; rfl
     have HN:Hid (l[k].1≠n→∀ x∈l.take (k+1),x.1≠n):=fun he x hx=>by
      rw [hst] at hx
      rcases List.mem_append.1 hx with h | h
      · exact HA.out x h
      · rw [List.mem_singleton] at h; subst h; exact he
     clear hst
     generalize l[k]=x at *
     obtain ⟨m,q⟩:=x
     dsimp only at *
     go_upto_region 9 with fail
     generalize wr.alloc (.cells #[.string (S m),.int .i64 (q:Int)] 66)=w2 at *
     obtain ⟨A,hA⟩:∃ A,wr.heap.size=A:=⟨_,rfl⟩
     have HB2:Hid (Below W.heap.size W w2):=HB.out.trans (HA2.out.mono HB.out.size)
     rw [hA] at hc2 ⊢
     have c0:w2.cell? ⟨A,0,none⟩=some (.string (S m)):=by rw [Lib.cell_of_heap hc2]; rfl
     have d1:w2.cell? ⟨A,1,none⟩=some (.int .i64 (q:Int)):=by rw [Lib.cell_of_heap hc2]; rfl
     clear hA hc2 HA2 HB h1 h2
     by_cases he:m=n
     · have HQ2:=Lib.hid (HF.out he)
       subst he
       clear HF HN
       go_wp2_with fail
       go_ret
       rw [HQ2.out]
       exact ⟨rfl,HB2.out⟩
     ·
      have hne:((S m).toList == (S n).toList)=false:=by rw [DskW.S_toList,DskW.S_toList]; simp [he]
      have HN2:=Lib.hid (HN.out he)
      clear HF HN
      have HE:=Lib.hid he
      clear he
      go_wp2_with fail
      go_roundw
      case rel=>exact ⟨k+1,by omega,by go_num,HN2,HB2⟩
      case measure=>simp [intOf]; omega
    ·
     obtain rfl:k=l.length:=by omega
     have HQ2:Hid (queuesT l n=0):=by
      have h1:=HA.out
      rw [List.take_length] at h1
      show _=_
      rw [HQ.out,if_pos trivial,find_out n l h1]; rfl
     go_wp2_with fail
     go_ret
     rw [HQ2.out]
     exact ⟨rfl,HB.out⟩
def checkT (l:List (List UInt8×Nat)) (n:List UInt8) (q:Int):Int:=if queuesT l n=0 then 12 else if q < 0∨(queuesT l n:Int)≤q then 13 else 0
theorem tcheck_any {base:Nat} {X:TabD} (n:List UInt8) (hn:n.length≤1099511627776) (q:Int) (W:World) (h:TabAt base W X) (hl:X.l.length≤1000) :
 Calls Tryz.prog 51 #[.pointer (some ⟨X.blk,0,none⟩),.string (S n),.int .i64 q] W fun e w'=>e=.returned (.int .i64 (checkT X.l n q))∧Below W.heap.size W w':=by
 have HQ:=Lib.hid (tqueues_any n hn W h hl)
 have HC:Hid (checkT X.l n q=if queuesT X.l n=0 then 12 else if q < 0∨(queuesT X.l n:Int)≤q then 13 else 0):=rfl
 generalize queuesT X.l n=m at *
 clear h
 go_enter Tryz.func51,Tryz.ntmps51
 go_wp2_with fail
 refine HQ.out.mono ?_
 rintro e w1 ⟨rfl,hb1⟩
 have HB1:=Lib.hid hb1
 clear hb1 HQ
 by_cases h0:m=0
 ·
  have HC2:Hid (checkT X.l n q=12):=by show _=_; rw [HC.out,if_pos h0]
  subst h0
  clear HC
  go_wp2_with fail
  go_ret
  rw [HC2.out]
  exact ⟨rfl,HB1.out⟩
 have h0i:((m:Int) == 0)=false:=beq_eq_false_iff_ne.2 (by omega)
 by_cases h1:q < 0
 ·
  have HC2:Hid (checkT X.l n q=13):=by show _=_; rw [HC.out,if_neg h0,if_pos (.inl h1)]
  have hd:decide (q < 0)=true:=decide_eq_true h1
  clear HC h1
  go_wp2_with fail
  go_ret
  rw [HC2.out]
  exact ⟨rfl,HB1.out⟩
 have hd:decide (q < 0)=false:=decide_eq_false h1
 by_cases h2:(m:Int)≤q
 ·
  have HC2:Hid (checkT X.l n q=13):=by show _=_; rw [HC.out,if_neg h0,if_pos (.inr h2)]
  have hd2:decide ((m:Int)≤q)=true:=decide_eq_true h2
  clear HC h1 h2
  go_wp2_with fail
  go_ret
  rw [HC2.out]
  exact ⟨rfl,HB1.out⟩
 ·
  have HC2:Hid (checkT X.l n q=0):=by show _=_; rw [HC.out,if_neg h0,if_neg (by omega)]
  have hd2:decide ((m:Int)≤q)=false:=decide_eq_false h2
  clear HC h1 h2
  go_wp2_with fail
  go_ret
  rw [HC2.out]
  exact ⟨rfl,HB1.out⟩
end Go.Proofs.YtnoehodmmkioaaaGreatDoor.TopW
namespace Go.Proofs.YtnoehodmmkioaaaGreatDoor.SndW
open Go.RowKit Go.MapKept OctMath RecMath RecW DskW SegW TapeW TapeMath PendW CacheW StoW TopW NameMath
theorem sunlike_any (a:Option Addr) (cap:Nat) (ts:List (List UInt8)) (hx:ts.length≤1048576) (W:World) (hS:Strs W a (ts.map S)) :
 Calls Tryz.prog 55 #[.slice a ts.length cap] W fun e w'=>e=.returned (.bool (decide ts.Nodup))∧Below W.heap.size W w':=by
 have hV:=Lib.hid (TagW.values_any a ts.length cap W)
 have HB2:Hid (Below W.heap.size W (W.alloc (.cells #[.slice a ts.length cap] 31))):=(Below.refl _ _).alloc (Nat.le_refl _) _
 have HSO:=Lib.hid (SeqW.sorted_values W.heap.size cap a ts hx (W.alloc (.cells #[.slice a ts.length cap] 31)) (Strs.below hS HB2.out) (by simp) (by rw [World.cell?_alloc_new]; rfl))
 have hlen:(ts.mergeSort (fun x y=>decide (x≤y))).length=ts.length:=List.length_mergeSort _
 have HND:Hid (decide ts.Nodup=!decide ((Lib.compact (ts.mergeSort (fun x y=>decide (x≤y)))).length < ts.length)):=by
  have h1:=DupMath.dup_nodup ts
  unfold TagW.dupL at h1
  rw [decide_eq_true_eq] at h1
  show _=_
  by_cases h:ts.Nodup
  · rw [decide_eq_true h,decide_eq_false (fun h2=>h1.1 h2 h)]; rfl
  · rw [decide_eq_false h,decide_eq_true (h1.2 h)]; rfl
 have hle:(Lib.compact (ts.mergeSort (fun x y=>decide (x≤y)))).length≤ts.length:=by
  rw [← hlen]
  unfold Lib.compact Lib.compactUpTo
  rw [List.length_map]
  exact Nat.le_trans (List.length_filter_le _ _) (by simp)
 generalize ts.mergeSort (fun x y=>decide (x≤y))=ss at *
 clear hS
 go_enter Tryz.func55,Tryz.ntmps55
 go_wp2_with fail
 refine hV.out.mono ?_
 rintro e w2 ⟨rfl,rfl⟩
 clear hV
 go_wp2_with fail
 refine HSO.out.mono ?_
 rintro e w3 ⟨v,rfl,hrow,hb⟩
 have HB3:=Lib.hid (HB2.out.trans (hb.mono HB2.out.size))
 have HC:=Lib.hid (TagW.compact_any W.heap.size v ss (by omega) W w3 HB3.out (by rw [hlen]; exact SeqW.own_base hrow HB2.out.size))
 generalize (Lib.compact ss).length=cn at *
 generalize ts.length=tn at *
 clear hrow hb HSO hlen
 go_wp2_with fail
 refine HC.out.mono ?_
 rintro e w4 ⟨⟨a4,c4,rfl⟩,hb⟩
 have HB4:=Lib.hid hb
 clear hb HC
 by_cases h:cn=tn
 ·
  subst h
  go_wp2_with fail
  go_ret
  exact ⟨ret_bool (by rw [HND.out]; simp),HB4.out⟩
 ·
  have hne:¬ (cn:Int)=(tn:Int):=by omega
  go_wp2_with fail
  go_ret
  exact ⟨ret_bool (by rw [HND.out,decide_eq_true (by omega:cn < tn)]; first | rfl | (simp; omega)),HB4.out⟩
structure WantD where
 topic:List UInt8
 queue:Int
 tag:List UInt8
 keys:List (List UInt8)
 body:List UInt8
def cellsW (x:WantD) (a:Option Addr) (c:Nat):Array Value:=#[.string (S x.topic),.int .i64 x.queue,.string (S x.tag),.slice a x.keys.length c,.string (S x.body)]
structure WantOk (x:WantD):Prop where
 queue:inI x.queue
 topic:x.topic.length≤1073741824
 tag:x.tag.length≤1073741824
 body:x.body.length≤1073741824
 keys:x.keys.length≤1048576
 key:∀ t∈x.keys,t.length≤1073741824
def checkW (l:List (List UInt8×Nat)) (x:WantD):Int :=
 if (ofL x.topic).isEmpty=false then 12 else if checkT l x.topic x.queue≠0 then checkT l x.topic x.queue else
 if (tagL x.tag && x.keys.all keyL)=false then 11 else if 3 < x.keys.length∨200 < x.body.length then 6 else if x.keys.Nodup then 0 else 10
theorem scheck_any {base:Nat} {S0:StoD} {X:TabD} (x:WantD) (hx:WantOk x) (a:Option Addr) (c:Nat) (W:World) (h:StoTab base W S0 X) (hl:X.l.length≤1000) (hS:Strs W a (x.keys.map S)) :
 Calls Tryz.prog 27 #[.pointer (some ⟨S0.blk,0,none⟩),.agg (cellsW x a c)] W fun e w'=>e=.returned (.int .i64 (checkW X.l x))∧Below W.heap.size W w':=by
 have HB0:Hid (Below W.heap.size W (W.alloc (.cells (cellsW x a c) 33))):=(Below.refl _ W).alloc (Nat.le_refl _) _
 have HX0:Hid (RecW.Boxed (W.alloc (.cells (cellsW x a c) 33)) W.heap.size (cellsW x a c)):=RecW.Boxed.new W _ _
 have HT0:=Lib.hid (h.below HB0.out)
 have HS0:=Lib.hid (Strs.below hS HB0.out)
 have hcu:(cellsW x a c).size=5:=rfl
 have HO:=Lib.hid (fun w=>NameW.of_any x.topic (by have:=hx.topic; omega) w)
 have HCT:=Lib.hid (fun w (hw:StoTab base w S0 X)=>tcheck_any x.topic (by have:=hx.topic; omega) x.queue w hw.tab hl)
 have HTG:=Lib.hid (fun w=>NameW.tag_any x.tag (by have:=hx.tag; omega) w)
 have HAK:=Lib.hid (fun w (hs:Strs w a (x.keys.map S))=>allk_any a c x.keys hx.keys (fun t ht=>by have:=hx.key t ht; omega) w hs)
 have HUN:=Lib.hid (fun w (hs:Strs w a (x.keys.map S))=>sunlike_any a c x.keys hx.keys w hs)
 have HCW:Hid (checkW X.l x=if (ofL x.topic).isEmpty=false then 12 else if checkT X.l x.topic x.queue≠0 then checkT X.l x.topic x.queue else
  if ((x.tag.isEmpty || plainL x.tag) && x.keys.all keyL)=false then 11 else if 3 < x.keys.length∨200 < x.body.length then 6 else if x.keys.Nodup then 0 else 10):=rfl
 have hbl:=S_size x.body
 have hbm:=hx.body
 have hkm:=hx.keys
 generalize checkW X.l x=R at *
 generalize (ofL x.topic).isEmpty=ob at *
 generalize checkT X.l x.topic x.queue=ct at *
 generalize (x.tag.isEmpty || plainL x.tag)=tg at *
 generalize x.keys.all keyL=ak at *
 clear h hS hx
 go_enter Tryz.func27,Tryz.ntmps27
 go_upto_region 1 with fail
 generalize W.alloc (.cells (cellsW x a c) 33)=w1 at *
 clear hcu
 obtain ⟨A,hA⟩:∃ A,W.heap.size=A:=⟨_,rfl⟩
 rw [hA] at HX0 ⊢
 have HAA:=Lib.hid hA
 clear hA
 have k0:w1.cell? ⟨A,0,none⟩=some (.string (S x.topic)):=HX0.out 0 _ rfl
 go_wp2_with fail
 refine (HO.out w1).mono ?_
 rintro e w2 ⟨rfl,hb⟩
 have HB2:Hid (Below W.heap.size W w2):=HB0.out.trans (hb.mono HB0.out.size)
 have HX2:=Lib.hid (HX0.out.below hb)
 have HT2:=Lib.hid (HT0.out.below hb)
 have HS2:=Lib.hid (Strs.below HS0.out hb)
 clear hb HO k0 HX0 HT0 HS0 HB0
 cases ob with
 | false =>
   have hR:R=12:=by rw [HCW.out,if_pos rfl]
   clear HCW
   go_wp2_with fail
   go_ret
   rw [hR]
   exact ⟨rfl,HB2.out⟩
 | true =>
 have HCW2:Hid (R=if ct≠0 then ct else if (tg && ak)=false then 11 else if 3 < x.keys.length∨200 < x.body.length then 6 else if x.keys.Nodup then 0 else 10):=by
  show _=_; rw [HCW.out,if_neg (by decide)]
 clear HCW
 have hsc:w2.cell? ⟨S0.blk,3,none⟩=some S0.top:=HT2.out.sto.cell 3 _ rfl
 rw [HT2.out.top] at hsc
 have k0:w2.cell? ⟨A,0,none⟩=some (.string (S x.topic)):=HX2.out 0 _ rfl
 have k1:w2.cell? ⟨A,1,none⟩=some (.int .i64 x.queue):=HX2.out 1 _ rfl
 have HK:Hid (∀ w,RecW.ExtR w2.drew w→w.cell? ⟨S0.blk,3,none⟩=some (.pointer (some ⟨X.blk,0,none⟩))∧w.cell? ⟨A,0,none⟩=some (.string (S x.topic))∧w.cell? ⟨A,1,none⟩=some (.int .i64 x.queue)∧Below w2.heap.size w2 w):=fun w hw=>by
  have hb:Below w2.heap.size w2 w:=((Below.refl _ w2).drew).trans hw
  exact ⟨by rw [hb.cell (cell_lt hsc)]; exact hsc,by rw [hb.cell (cell_lt k0)]; exact k0,by rw [hb.cell (cell_lt k1)]; exact k1,hb⟩
 clear k0 k1 hsc
 go_upto_region 6 with fail
 refine GrowN.wp_region_n 8 [none,none,none,none,none,none,none,none] RecW.ExtR (by kernel_rfl) (by kernel_rfl) (by kernel_rfl) RecW.ExtR.refl (fun _ _ _=>RecW.ExtR.trans) ?_ ?_
 · exact GrowN.stab0 rfl
 simp only [List.take_succ_cons,List.take_zero,List.drop_succ_cons,List.drop_zero]
 iterate 8
  refine GrowN.g_det rfl ?_
  apply Exists.intro
  refine ⟨fun w hw hF=>?_,?_⟩
  · clear hF
    obtain ⟨k1,k2,k3,_⟩:=HK.out w hw
    go_simp
    exact ⟨rfl,RecW.ExtR.refl _⟩
  go_frame
 refine GrowN.g_nil fun w2a hw1 hF=>?_
 clear hF
 obtain ⟨_,_,_,hb2a⟩:=HK.out w2a hw1
 have HB2:Hid (Below W.heap.size W w2a):=HB2.out.trans (hb2a.mono HB2.out.size)
 have HX2:=Lib.hid (HX2.out.below hb2a)
 have HT2:=Lib.hid (HT2.out.below hb2a)
 have HS2:=Lib.hid (Strs.below HS2.out hb2a)
 clear hb2a hw1 HK
 go_wp2_with fail
 refine (HCT.out _ HT2.out).mono ?_
 rintro e w3 ⟨rfl,hb⟩
 have HB3:Hid (Below W.heap.size W w3):=HB2.out.trans (hb.mono HB2.out.size)
 have HX3:=Lib.hid (HX2.out.below hb)
 have HS3:=Lib.hid (Strs.below HS2.out hb)
 clear hb HCT HX2 HT2 HS2 HB2
 by_cases h0:ct=0
 case neg =>
  have hR:R=ct:=by rw [HCW2.out,if_pos h0]
  have hne:(ct != 0)=true:=bne_iff_ne.2 h0
  clear HCW2 h0
  go_wp2_with fail
  go_ret
  rw [hR]
  exact ⟨rfl,HB3.out⟩
 case pos =>
 have HCW3:Hid (R=if (tg && ak)=false then 11 else if 3 < x.keys.length∨200 < x.body.length then 6 else if x.keys.Nodup then 0 else 10):=by
  show _=_; rw [HCW2.out,if_neg (by simpa using h0)]
 clear HCW2
 subst h0
 have k2:w3.cell? ⟨A,2,none⟩=some (.string (S x.tag)):=HX3.out 2 _ rfl
 go_wp2_with fail
 refine (HTG.out w3).mono ?_
 rintro e w4 ⟨rfl,hb⟩
 have HB4:Hid (Below W.heap.size W w4):=HB3.out.trans (hb.mono HB3.out.size)
 have HX4:=Lib.hid (HX3.out.below hb)
 have HS4:=Lib.hid (Strs.below HS3.out hb)
 clear hb HTG k2 HX3 HS3 HB3
 have k3:w4.cell? ⟨A,3,none⟩=some (.slice a x.keys.length c):=HX4.out 3 _ rfl
 cases tg with
 | false =>
   have hR:R=11:=by rw [HCW3.out,if_pos (by simp)]
   clear HCW3
   go_wp2_with fail
   go_ret
   rw [hR]
   exact ⟨rfl,HB4.out⟩
 | true =>
 go_wp2_with fail
 refine (HAK.out w4 HS4.out).mono ?_
 rintro e w5 ⟨rfl,hb⟩
 have HB5:Hid (Below W.heap.size W w5):=HB4.out.trans (hb.mono HB4.out.size)
 have HX5:=Lib.hid (HX4.out.below hb)
 have HS5:=Lib.hid (Strs.below HS4.out hb)
 clear hb HAK k3 HX4 HS4 HB4
 cases ak with
 | false =>
   have hR:R=11:=by rw [HCW3.out,if_pos (by simp)]
   clear HCW3
   go_wp2_with fail
   go_ret
   rw [hR]
   exact ⟨rfl,HB5.out⟩
 | true =>
 have HCW4:Hid (R=if 3 < x.keys.length∨200 < x.body.length then 6 else if x.keys.Nodup then 0 else 10):=by
  show _=_; rw [HCW3.out,if_neg (by simp)]
 clear HCW3
 have k3:w5.cell? ⟨A,3,none⟩=some (.slice a x.keys.length c):=HX5.out 3 _ rfl
 have k4:w5.cell? ⟨A,4,none⟩=some (.string (S x.body)):=HX5.out 4 _ rfl
 by_cases h3:3 < x.keys.length
 ·
  have hR:R=6:=by rw [HCW4.out,if_pos (.inl h3)]
  have h3i:(3:Int) < (x.keys.length:Int):=by omega
  clear HCW4 h3
  go_wp2_with fail
  go_ret
  rw [hR]
  exact ⟨rfl,HB5.out⟩
 have h3i:(x.keys.length:Int)≤(3:Int):=by omega
 by_cases h4:200 < x.body.length
 ·
  have hR:R=6:=by rw [HCW4.out,if_pos (.inr h4)]
  have h4i:(200:Int) < ((S x.body).size:Int):=by omega
  clear HCW4 h3 h4 hbl
  go_wp2_with fail
  go_ret
  rw [hR]
  exact ⟨rfl,HB5.out⟩
 have h4i:((S x.body).size:Int)≤(200:Int):=by omega
 have HCW5:Hid (R=if x.keys.Nodup then 0 else 10):=by
  show _=_; rw [HCW4.out,if_neg (by omega)]
 clear HCW4 h3 h4 hbl
 go_wp2_with fail
 refine (HUN.out w5 HS5.out).mono ?_
 rintro e w6 ⟨rfl,hb⟩
 have HB6:Hid (Below W.heap.size W w6):=HB5.out.trans (hb.mono HB5.out.size)
 clear hb HUN k3 k4 HX5 HS5 HB5
 by_cases hn:x.keys.Nodup
 ·
  have hR:R=0:=by rw [HCW5.out,if_pos hn]
  rw [decide_eq_true hn]
  clear HCW5 hn
  go_wp2_with fail
  go_ret
  rw [hR]
  exact ⟨rfl,HB6.out⟩
 ·
  have hR:R=10:=by rw [HCW5.out,if_neg hn]
  rw [decide_eq_false hn]
  clear HCW5 hn
  go_wp2_with fail
  go_ret
  rw [hR]
  exact ⟨rfl,HB6.out⟩
end Go.Proofs.YtnoehodmmkioaaaGreatDoor.SndW
namespace Go.Proofs.YtnoehodmmkioaaaGreatDoor.TopW
open Go.RowKit Go.MapKept OctMath RecMath RecW DskW SegW CacheW StoW NameMath TapeW
theorem append_topic1 {base:Nat} {w:World} {v:Value} {l:List (List UInt8×Nat)} (h:w.ownsRow base 66 2 v l.length (cellsT l)) (n:List UInt8) (q b:Nat) (hb:w.heap[b]?=some (.cells #[.string (S n),.int .i64 (q:Int)] 66 (0,0))) (hl:l.length≤1048576) (hbase:base≤w.heap.size) :
 ∃ v' w8,(Builtin.append_ #[63,63] 63 #[v,.slice (some ⟨b,0,none⟩) 1 1]).run Tryz.prog w=.ok v' w8 ∧
  w8.ownsRow base 66 2 v' (l.length+1) (cellsT (l++[(n,q)]))∧w.grownBy w8 v.ownBlock:=by
 obtain ⟨i0,hi0,hz0,hz1,hz2⟩:=info_topic
 obtain ⟨v',w8,hr,hrow,hgb,_,hob⟩:=run_append_own_at (P:=Tryz.prog) _ base 63 63 66 i0 (.agg #[.string ⟨#[]⟩,.int .i64 0]) 2 24 Tryz.underlying63 hi0 hz0 hz1 hz2 rfl (by omega) _ _ _ h
  ⟨b,0,none⟩ 1 1 [.string (S n),.int .i64 (q:Int)] rfl (fun j u hu=>by
   have hadd:(⟨b,0,none⟩:Addr).add j=⟨b,j,none⟩:=by unfold Addr.add; split <;> simp_all
   rw [hadd,Lib.cell_of_heap hb]
   match j,hu with
   | 0,hu=>exact hu
   | 1,hu=>exact hu
   | j+2,hu=>cases hu) (fun u hu=>by
   simp only [List.mem_cons,List.not_mem_nil,or_false] at hu
   rcases hu with rfl | rfl <;> rfl) (by unfold maxLen; omega) (by omega) hbase
 have hws:cellsT l++[.string (S n),.int .i64 (q:Int)]=cellsT (l++[(n,q)]):=by unfold cellsT; simp
 exact ⟨v',w8,hr,by rw [← hws]; exact hrow,hgb⟩
theorem rightT_q {l:List (List UInt8×Nat)} {n:List UInt8} {q:Int} (h:rightT l n q=0):1≤q∧q≤3:=by
 unfold rightT at h
 split at h
 · cases h
 · split at h
   · cases h
   · rename_i h1 h2; omega
theorem tadd_q {base tb:Nat} {D:DiskD} {v:Value} {l:List (List UInt8×Nat)} (n:List UInt8) (q:Nat) (W:World) (h:TabAt base W ⟨tb,D.blk,v,l⟩) (hD:DiskAt base W D)
 (haw:∀ k,D.foot k→k≠tb) (hq:Quiet D) (hw:D.waits=[]) (hno:∀ x∈D.files.map (·.1),Lib.hasPrefix x (newL topicsN)=false) (hfl:D.files.length≤1048576) (hnl:∀ p∈D.files,p.1.length≤maxLen)
 (hok:rightT l n q=0) (hn:n.length≤1000) (hl:∀ x∈l,x.1.length≤1000∧x.2≤255) (hroom:((CrcMath.sealed (putT (l++[(n,q)]))).length:Int)≤D.room) (hbase:base≤W.heap.size) :
 Calls Tryz.prog 22 #[.pointer (some ⟨tb,0,none⟩),.string (S n),.int .i64 (q:Int)] W fun e w'=>e=.returned (.int .i64 0)∧∃ v' b wv m,TabAt base w' ⟨tb,D.blk,v',l++[(n,q)]⟩∧DiskAt base w' (DiskD.saved D topicsN b (CrcMath.sealed (putT (l++[(n,q)]))) wv) ∧
  Mod (fun k=>D.foot k∨k=tb) W w'∧W.heap.size≤m∧m≤b∧(∀ k,wv.ownBlock=some k→D.wv.ownBlock=some k∨m≤k)∧∀ k,v'.ownBlock=some k→W.heap.size≤k∧k < m:=by
 obtain ⟨a,cp,hv,hrow⟩:=RowT.own h.row
 dsimp only at hv
 subst hv
 have hl6:l.length < 6:=rightT_room hok
 have hq3:=rightT_q hok
 have HB0:Hid (Below W.heap.size W (W.alloc (.cells #[.string (S n),.int .i64 (q:Int)] 66))):=(Below.refl _ W).alloc (Nat.le_refl _) _
 have HC0:Hid ((W.alloc (.cells #[.string (S n),.int .i64 (q:Int)] 66)).heap[W.heap.size]?=_):=heap_alloc_new W (.cells #[.string (S n),.int .i64 (q:Int)] 66)
 have HX:=Lib.hid h
 have HD:=Lib.hid hD
 have hl2:∀ x∈l++[(n,q)],x.1.length≤1000∧x.2≤255:=fun x hx=>by
  rcases List.mem_append.1 hx with h1 | h1
  · exact hl x h1
  · rw [List.mem_singleton.1 h1]; exact ⟨hn,by omega⟩
 have HRI:=Lib.hid (fun (w:World) (hr:RowT w a l)=>right_any a cp l (by omega) n (by omega) (q:Int) w hr)
 rw [hok] at HRI
 have HCL:=Lib.hid (fun (w:World) (h:w.ownsRow base 66 2 (.slice a l.length cp) l.length (cellsT l))=>tclone_any _ l w h (by omega))
 have HPU:=Lib.hid (fun (a:Option Addr) (cp:Nat) (w:World) (h:RowT w a (l++[(n,q)]))=>tput_any a cp (l++[(n,q)]) (by simp; omega) hl2 w h)
 have hpl:(putT (l++[(n,q)])).length≤100000:=by
  have h1:=rowsT_len _ hl2
  have h2:(l++[(n,q)]).length * 1003≤6 * 1003:=Nat.mul_le_mul_right _ (by simp; omega)
  unfold putT
  rw [List.length_append,be_length]
  omega
 have HSV:=Lib.hid (fun (w:World) (hd:DiskAt base w D) (hb:base≤w.heap.size)=>save_q topicsN (putT (l++[(n,q)])) w hd hq hw hno hfl hnl (by decide) hpl hroom hb)
 rw [show S topicsN=⟨#[116,111,112,105,99,115]⟩ from rfl] at HSV
 have HAW:=Lib.hid haw
 have HBS:=Lib.hid hbase
 have HAP:=Lib.hid (fun (v:Value) (s b:Nat) (w:World) (h:w.ownsRow s 66 2 v l.length (cellsT l)) (hb:w.heap[b]?=some (.cells #[.string (S n),.int .i64 (q:Int)] 66 (0,0))) (hz:s≤w.heap.size)=>append_topic1 h n q b hb (by omega) hz)
 have hlen:(l++[(n,q)]).length=l.length+1:=by simp
 clear h hD haw hq hw hno hfl hnl hok hn hl hroom hbase hrow hl2 hq3 hpl
 generalize putT (l++[(n,q)])=pt at *
 generalize l++[(n,q)]=l2 at *
 have HLE:=Lib.hid hlen
 clear hlen
 go_enter Tryz.func22,Tryz.ntmps22
 go_upto_region 4 with fail
 generalize W.alloc (.cells #[.string (S n),.int .i64 (q:Int)] 66)=w1 at *
 have HX1:Hid (TabAt base w1 ⟨tb,D.blk,.slice a l.length cp,l⟩):=HX.out.below HB0.out
 obtain ⟨A,hA⟩:∃ A,W.heap.size=A:=⟨_,rfl⟩
 rw [hA] at HC0 ⊢
 have HAA:=Lib.hid hA
 clear hA
 have c1:w1.cell? ⟨tb,1,none⟩=some (.slice a l.length cp):=by rw [Lib.cell_of_heap HX1.out.cells]; rfl
 have d0:w1.cell? ⟨A,0,none⟩=some (.string (S n)):=by rw [Lib.cell_of_heap HC0.out]; rfl
 have d1:w1.cell? ⟨A,1,none⟩=some (.int .i64 (q:Int)):=by rw [Lib.cell_of_heap HC0.out]; rfl
 have HRW:Hid (RowT w1 a l):=by
  obtain ⟨a2,cp2,e2,h2⟩:=RowT.own HX1.out.row
  cases e2
  exact h2
 have HK1:Hid (∀ w,RecW.ExtR w1.drew w→w.cell? ⟨tb,1,none⟩=some (.slice a l.length cp)∧w.cell? ⟨A,0,none⟩=some (.string (S n))∧w.cell? ⟨A,1,none⟩=some (.int .i64 (q:Int))∧Below w1.heap.size w1 w):=fun w hw=>by
  have hb:Below w1.heap.size w1 w:=((Below.refl _ w1).drew).trans hw
  exact ⟨by rw [hb.cell (cell_lt c1)]; exact c1,by rw [hb.cell (cell_lt d0)]; exact d0,by rw [hb.cell (cell_lt d1)]; exact d1,hb⟩
 refine GrowN.wp_region_n 5 [none,none,none,none,none] RecW.ExtR (by kernel_rfl) (by kernel_rfl) (by kernel_rfl) RecW.ExtR.refl (fun _ _ _=>RecW.ExtR.trans) ?_ ?_
 · exact GrowN.stab0 rfl
 simp only [List.take_succ_cons,List.take_zero,List.drop_succ_cons,List.drop_zero]
 iterate 5
  refine GrowN.g_det rfl ?_
  apply Exists.intro
  refine ⟨fun w hw hF=>?_,?_⟩
  · clear hF
    obtain ⟨k1,k2,k3,_⟩:=HK1.out w hw
    go_simp
    exact ⟨rfl,RecW.ExtR.refl _⟩
  go_frame
 refine GrowN.g_nil fun w1' hw1 hF=>?_
 clear hF
 obtain ⟨_,_,_,hb1⟩:=HK1.out w1' hw1
 have HB0:Hid (Below W.heap.size W w1'):=HB0.out.trans (hb1.mono HB0.out.size)
 have HX1:Hid (TabAt base w1' ⟨tb,D.blk,.slice a l.length cp,l⟩):=HX1.out.below hb1
 have HC0:Hid (w1'.heap[A]?=_):=(hb1.block A (Array.getElem?_eq_some_iff.1 HC0.out).1).trans HC0.out
 have HRW:Hid (RowT w1' a l):=HRW.out.below hb1
 clear c1 d0 d1 hb1 hw1 HK1
 go_wp2_with fail
 refine (HRI.out _ (HRW.out)).mono ?_
 rintro e w2 ⟨rfl,hb⟩
 have HB2:Hid (Below W.heap.size W w2):=HB0.out.trans (hb.mono HB0.out.size)
 have HX2:Hid (TabAt base w2 ⟨tb,D.blk,.slice a l.length cp,l⟩):=HX1.out.below hb
 have HC2:Hid (w2.heap[A]?=_):=(hb.block A (Array.getElem?_eq_some_iff.1 HC0.out).1).trans HC0.out
 clear hb HRI HRW HX1 HC0 HB0
 go_upto_region 7 with fail
 have HK:Hid (∀ w,RecW.ExtR w2.drew w→w.cell? ⟨tb,1,none⟩=some (.slice a l.length cp)∧w.cell? ⟨A,0,none⟩=some (.string (S n))∧w.cell? ⟨A,1,none⟩=some (.int .i64 (q:Int))∧TabAt base w ⟨tb,D.blk,.slice a l.length cp,l⟩∧w2.heap.size≤w.heap.size):=fun w hw=>by
  have hb:Below w2.heap.size w2 w:=((Below.refl _ w2).drew).trans hw
  have hx:=HX2.out.below hb
  have hc:w.heap[A]?=_:=(hb.block A (Array.getElem?_eq_some_iff.1 HC2.out).1).trans HC2.out
  exact ⟨by rw [Lib.cell_of_heap hx.cells]; rfl,by rw [Lib.cell_of_heap hc]; rfl,by rw [Lib.cell_of_heap hc]; rfl,hx,hb.size⟩
 refine GrowN.wp_region_n 7 [none,none,none,none,some (.inr (fun _ v w=>w.ownsRow w2.heap.size 66 2 v l.length (cellsT l))),none,some (.inr (fun _ v w=>∃ b,v=.slice (some ⟨b,0,none⟩) 1 1∧w.heap[b]?=some (.cells #[.string (S n),.int .i64 (q:Int)] 66 (0,0))))] RecW.ExtR (by kernel_rfl) (by kernel_rfl) (by kernel_rfl) RecW.ExtR.refl (fun _ _ _=>RecW.ExtR.trans) ?_ ?_
 ·
  intro K hK Y hY l v w w' hR h
  simp only [List.mem_cons,List.not_mem_nil,or_false] at hK
  rcases hK with rfl | rfl | rfl | rfl | rfl | rfl | rfl <;> simp only [reduceCtorEq,Option.some.injEq,Sum.inr.injEq] at hY
  · subst hY; exact OctW.ownsRow_mod h (Mod.of_below (M:=fun _=>False) hR) (fun _ x=>x.elim)
  · subst hY; obtain ⟨b,e,hh⟩:=h; exact ⟨b,e,(hR.block b (Array.getElem?_eq_some_iff.1 hh).1).trans hh⟩
 simp only [List.take_succ_cons,List.take_zero,List.drop_succ_cons,List.drop_zero]
 iterate 4
  refine GrowN.g_det rfl ?_
  apply Exists.intro
  refine ⟨fun w hw hF=>?_,?_⟩
  · clear hF
    obtain ⟨k1,k2,k3,_,_⟩:=HK.out w hw
    go_simp
    exact ⟨rfl,RecW.ExtR.refl _⟩
  go_frame
 refine GrowN.g_new rfl (fun w hw hF=>?_) (fun v4=>?_)
 ·
  clear hF
  obtain ⟨_,_,_,k4,k5⟩:=HK.out w hw
  have HCW:=Lib.hid (HCL.out w k4.row)
  have K5:=Lib.hid k5
  clear k4 k5
  go_simp
  exact HCW.out.mono fun e w3 ⟨v,h1,h2,h3⟩=>⟨_,h1,ownb h2 K5.out,h3⟩
 go_frame
 refine GrowN.g_det rfl ?_
 apply Exists.intro
 refine ⟨fun w hw hF=>?_,?_⟩
 ·
  clear hF
  obtain ⟨k1,k2,k3,_,_⟩:=HK.out w hw
  go_simp
  exact ⟨rfl,RecW.ExtR.refl _⟩
 go_frame
 refine GrowN.g_new rfl (fun w hw hF=>?_) (fun v6=>?_)
 · clear hF
   go_simp
   exact ⟨⟨_,rfl,heap_alloc_new w _⟩,(Below.refl _ w).alloc (Nat.le_refl _) _⟩
 go_frame
 refine GrowN.g_nil fun w3 hw3 hF=>?_
 obtain ⟨b,rfl,hb6⟩:=hF _ (.head _)
 have hv4:=hF _ (.tail _ (.head _))
 clear hF
 dsimp only at hv4 hb6
 obtain ⟨v8,w8,hr8,ho8,hg8⟩:=HAP.out v4 _ b w3 hv4 hb6 (HK.out w3 hw3).2.2.2.2
 have HR8:=Lib.hid hr8
 have HB8:Hid (Below w2.heap.size w2 w8):=(((Below.refl _ w2).drew).trans hw3).trans ((Below.refl _ w3).grown hg8 (HK.out w3 hw3).2.2.2.2 (ownBlock_of_own hv4))
 have HO8:Hid (w8.ownsRow w2.heap.size 66 2 v8 l2.length (cellsT l2)):=by rw [HLE.out]; exact ho8
 clear hv4 hb6 hr8 ho8 hg8 hw3 HK HAP HCL
 go_wp2_with (at_builtin; refine Lib.wpList_append_run _ rfl (.tmp 29) (.tmp 31) 63 63 rfl _ _ rfl rfl _ _ HR8.out ?_)
 obtain ⟨a8,cp8,hv8,hrow8⟩:=RowT.own HO8.out
 subst hv8
 have HW8:=Lib.hid hrow8
 clear hrow8 HR8
 have HBW:Hid (Below W.heap.size W w8):=HB2.out.trans (HB8.out.mono HB2.out.size)
 have HX8:=Lib.hid (HX2.out.below HB8.out)
 have HK8:Hid (∀ w,RecW.ExtR w8.drew w→w.cell? ⟨tb,0,none⟩=some (.pointer (some ⟨D.blk,0,none⟩))∧RowT w a8 l2∧Below w8.heap.size w8 w):=fun w hw=>by
  have hb:Below w8.heap.size w8 w:=((Below.refl _ w8).drew).trans hw
  exact ⟨by rw [Lib.cell_of_heap (HX8.out.below hb).cells]; rfl,HW8.out.below hb,hb⟩
 refine GrowN.wp_region_n 6 [none,none,none,none,none,some (.inl (.string (S pt)))] RecW.ExtR (by kernel_rfl) (by kernel_rfl) (by kernel_rfl) RecW.ExtR.refl (fun _ _ _=>RecW.ExtR.trans) ?_ ?_
 · exact GrowN.stab0 rfl
 simp only [List.take_succ_cons,List.take_zero,List.drop_succ_cons,List.drop_zero]
 iterate 5
  refine GrowN.g_det rfl ?_
  apply Exists.intro
  refine ⟨fun w hw hF=>?_,?_⟩
  · clear hF
    obtain ⟨k1,_,_⟩:=HK8.out w hw
    go_simp
    exact ⟨rfl,RecW.ExtR.refl _⟩
  go_frame
 refine GrowN.g_con rfl (fun w hw hF=>?_) ?_
 ·
  clear hF
  have HPW:=Lib.hid (HPU.out a8 cp8 w (HK8.out w hw).2.1)
  go_simp
  exact HPW.out.mono fun e w3 ⟨h1,h2⟩=>⟨_,h1,rfl,h2⟩
 go_frame
 refine GrowN.g_nil fun w9 hw9 hF=>?_
 clear hF
 obtain ⟨_,_,hb9⟩:=HK8.out w9 hw9
 have HBW9:Hid (Below W.heap.size W w9):=HBW.out.trans (hb9.mono HBW.out.size)
 have HX9:=Lib.hid (HX8.out.below hb9)
 have HO9:Hid (w9.ownsRow w2.heap.size 66 2 (.slice a8 l2.length cp8) l2.length (cellsT l2)):=OctW.ownsRow_mod HO8.out (Mod.of_below (M:=fun _=>False) hb9) (fun _ x=>x.elim)
 clear hw9 hb9 HK8 HBW HX8 HO8 HPU HW8
 go_wp2_with fail
 refine (HSV.out w9 (HD.out.below HBW9.out) (Nat.le_trans HBS.out HBW9.out.size)).mono ?_
 rintro e w10 ⟨rfl,b,wv,hd10,hm10,hb10,hwv10⟩
 have htl:tb < W.heap.size:=HX.out.lt (.inl rfl)
 have hnt:¬ D.foot tb:=fun h=>HAW.out tb h rfl
 have hx10:w10.heap[tb]?=_:=(hm10.block tb (HX9.out.lt (.inl rfl)) hnt).trans HX9.out.cells
 have HX10:=Lib.hid hx10
 have HD10:=Lib.hid hd10
 have HM10:=Lib.hid hm10
 have HN10:Hid (w9.heap.size≤b∧∀ k,wv.ownBlock=some k→D.wv.ownBlock=some k∨w9.heap.size≤k):=⟨hb10,hwv10⟩
 have HZ:Hid (tb < W.heap.size∧¬ D.foot tb):=⟨htl,hnt⟩
 have k1:w10.cell? ⟨tb,1,none⟩=some (.slice a l.length cp):=by rw [Lib.cell_of_heap hx10]; rfl
 have f1:w10.frozen? ⟨tb,1,none⟩=false:=Lib.frozen_of_heap hx10 1
 clear hx10 hd10 hm10 hb10 hwv10 HSV htl hnt
 go_wp2_with fail
 go_ret
 obtain ⟨htl,hnt⟩:=HZ.out
 have hm11:Mod (fun k=>k=tb) w10 (w10.setCell ⟨tb,1,none⟩ (.slice a8 l2.length cp8)):=mod_set _ _ _ _
 have hz9:=HBW9.out.size
 have hz2:=HB2.out.size
 have hown:∀ k,(Value.slice a8 l2.length cp8).ownBlock=some k→w2.heap.size≤k:=ownBlock_of_own HO9.out
 have hol:∀ k,(Value.slice a8 l2.length cp8).ownBlock=some k→k < w9.heap.size:=fun k hk=>by
  rcases HO9.out.2 with ⟨e,_⟩ | ⟨g,cap,cur,e,_,hg,_⟩
  · rw [e] at hk; cases hk
  · rw [e] at hk; cases hk; exact (Array.getElem?_eq_some_iff.1 hg).1
 refine ⟨rfl,_,b,wv,w9.heap.size,⟨DskW.heap_set1 HX10.out _ rfl,ownb (SegW.ownsRow_mod (SegW.ownsRow_mod HO9.out HM10.out (fun k hk h=>by have h1:=hown k hk; have h2:=HD.out.lt h; omega)) hm11 (fun k hk h=>by have h1:=hown k hk; omega)) (Nat.le_trans HBS.out hz2),HX.out.low⟩,
  HD10.out.mod hm11 (fun k hk e=>by
   subst e
   rcases saved_foot (B:=w9.heap.size) HN10.out.1 HN10.out.2 _ hk with h | h
   · exact hnt h
   · omega),?_,hz9,HN10.out.1,HN10.out.2,fun k hk=>⟨by have:=hown k hk; omega,hol k hk⟩⟩
 exact ((Mod.of_below HBW9.out).trans (HM10.out.mono (N:=fun k=>D.foot k∨k=tb) fun k _ h=>.inl h)).trans (hm11.mono fun k _ h=>.inr h)
end Go.Proofs.YtnoehodmmkioaaaGreatDoor.TopW
namespace Go.Proofs.YtnoehodmmkioaaaGreatDoor.SndW
open Go.RowKit Go.MapKept Go.Sort OctMath RecMath RecW DskW SegW TapeW TapeMath PendW CacheW StoW TopW NameMath
def recW (x:WantD) (ki due now:Int):Msg:=⟨ki,x.queue,due,0,0,now,x.topic,x.tag,x.body,x.keys⟩
theorem map_enc (ts:List (List UInt8)):ts.map encStr=(ts.map S).map Value.string:=by rw [List.map_map]; rfl
theorem record_any (x:WantD) (hx:WantOk x) (ki due now:Int) (a:Option Addr) (c:Nat) (W:World) (hS:Strs W a (x.keys.map S)) :
 Calls Tryz.prog 29 #[.agg (cellsW x a c),.int .i64 ki,.int .i64 due,.int .i64 now] W fun e w'=>∃ a' c',e=.returned (.agg (cellsM (recW x ki due now) a' c'))∧Strs w' a' (x.keys.map S)∧Below W.heap.size W w':=by
 have hb1:Below W.heap.size W ((W.alloc (.cells (cellsW x a c) 33)).alloc (.cells #[.int .i64 0,.int .i64 0,.int .i64 0,.int .i64 0,.int .i64 0,.int .i64 0,.string ⟨#[]⟩,.string ⟨#[]⟩,.string ⟨#[]⟩,.slice none 0 0] 53)):=((Below.refl _ W).alloc (Nat.le_refl _) _).alloc (by rw [World.size_alloc]; omega) _
 have hA1:((W.alloc (.cells (cellsW x a c) 33)).alloc (.cells #[.int .i64 0,.int .i64 0,.int .i64 0,.int .i64 0,.int .i64 0,.int .i64 0,.string ⟨#[]⟩,.string ⟨#[]⟩,.string ⟨#[]⟩,.slice none 0 0] 53)).heap[W.heap.size]?=some (.cells (cellsW x a c) 33 (0,0)):=heap_below ((Below.refl _ _).alloc (Nat.le_refl _) _) (heap_alloc_new W _)
 have hA2:((W.alloc (.cells (cellsW x a c) 33)).alloc (.cells #[.int .i64 0,.int .i64 0,.int .i64 0,.int .i64 0,.int .i64 0,.int .i64 0,.string ⟨#[]⟩,.string ⟨#[]⟩,.string ⟨#[]⟩,.slice none 0 0] 53)).heap[W.heap.size+1]?=some (.cells #[.int .i64 0,.int .i64 0,.int .i64 0,.int .i64 0,.int .i64 0,.int .i64 0,.string ⟨#[]⟩,.string ⟨#[]⟩,.string ⟨#[]⟩,.slice none 0 0] 53 (0,0)):=by
  have:=heap_alloc_new (W.alloc (.cells (cellsW x a c) 33)) (.cells #[.int .i64 0,.int .i64 0,.int .i64 0,.int .i64 0,.int .i64 0,.int .i64 0,.string ⟨#[]⟩,.string ⟨#[]⟩,.string ⟨#[]⟩,.slice none 0 0] 53)
  rw [World.size_alloc] at this
  exact this
 have HB1:=Lib.hid hb1
 have HA1:=Lib.hid hA1
 have HA2:=Lib.hid hA2
 have HS1:=Lib.hid (Strs.below hS hb1)
 have hcu:(cellsW x a c).size=5:=rfl
 have HCL:=Lib.hid (fun w (hs:Strs w a (x.keys.map S))=>TagW.clone_any a c x.keys hx.keys w hs)
 clear hb1 hA1 hA2 hS hx
 go_enter Tryz.func29,Tryz.ntmps29
 go_upto_region 1 with fail
 generalize (W.alloc (.cells (cellsW x a c) 33)).alloc (.cells #[.int .i64 0,.int .i64 0,.int .i64 0,.int .i64 0,.int .i64 0,.int .i64 0,.string ⟨#[]⟩,.string ⟨#[]⟩,.string ⟨#[]⟩,.slice none 0 0] 53)=w1 at *
 clear hcu
 obtain ⟨A,hA⟩:∃ A,W.heap.size=A:=⟨_,rfl⟩
 rw [hA] at HA1 HA2 ⊢
 have HAA:=Lib.hid hA
 clear hA
 have HK:Hid (∀ w,RecW.ExtR w1.drew w→w.cell? ⟨A,0,none⟩=some (.string (S x.topic))∧w.cell? ⟨A,1,none⟩=some (.int .i64 x.queue)∧w.cell? ⟨A,2,none⟩=some (.string (S x.tag))∧w.cell? ⟨A,3,none⟩=some (.slice a x.keys.length c)∧w.cell? ⟨A,4,none⟩=some (.string (S x.body))∧Below w1.heap.size w1 w):=fun w hw=>by
  have hb:Below w1.heap.size w1 w:=((Below.refl _ w1).drew).trans hw
  have hc:=heap_below hb HA1.out
  exact ⟨cell_at hc 0 _ rfl,cell_at hc 1 _ rfl,cell_at hc 2 _ rfl,cell_at hc 3 _ rfl,cell_at hc 4 _ rfl,hb⟩
 refine GrowN.wp_region_n 14 [none,none,none,none,none,none,none,none,none,none,none,none,none,some (.inr (fun _ v w=>w.ownsRow w1.heap.size 9 1 v x.keys.length (x.keys.map encStr)))] RecW.ExtR (by kernel_rfl) (by kernel_rfl) (by kernel_rfl) RecW.ExtR.refl (fun _ _ _=>RecW.ExtR.trans) ?_ ?_
 ·
  intro K hK Y hY l v w w' hR h
  simp only [List.mem_cons,List.not_mem_nil,or_false] at hK
  rcases hK with rfl | rfl | rfl | rfl | rfl | rfl | rfl | rfl | rfl | rfl | rfl | rfl | rfl | rfl <;> simp only [reduceCtorEq,Option.some.injEq,Sum.inr.injEq] at hY
  subst hY; exact OctW.ownsRow_mod h (Mod.of_below (M:=fun _=>False) hR) (fun _ x=>x.elim)
 simp only [List.take_succ_cons,List.take_zero,List.drop_succ_cons,List.drop_zero]
 iterate 13
  refine GrowN.g_det rfl ?_
  apply Exists.intro
  refine ⟨fun w hw hF=>?_,?_⟩
  · clear hF
    obtain ⟨k0,k1,k2,k3,k4,_⟩:=HK.out w hw
    go_simp
    exact ⟨rfl,RecW.ExtR.refl _⟩
  go_frame
 refine GrowN.g_new rfl (fun w hw hF=>?_) (fun v13=>?_)
 ·
  clear hF
  obtain ⟨_,_,_,_,_,hb⟩:=HK.out w hw
  have HCW:=Lib.hid (HCL.out w (Strs.below HS1.out hb))
  have K5:Hid (w1.heap.size≤w.heap.size):=hb.size
  clear hb
  go_simp
  exact HCW.out.mono fun e w3 ⟨v,h1,h2,h3⟩=>⟨_,h1,ownb h2 K5.out,h3⟩
 go_frame
 refine GrowN.g_nil fun w2 hw2 hF=>?_
 have h13:=hF _ (.head _)
 clear hF
 dsimp only at h13
 obtain ⟨a2,c2',hv,hrow,_⟩:=Row1.of_own h13
 subst hv
 rw [map_enc] at hrow
 obtain ⟨_,_,_,_,_,hb2⟩:=HK.out w2 hw2
 have HS2:=Lib.hid (Row1.to_strs hrow)
 have HB2:Hid (Below W.heap.size W w2):=HB1.out.trans (hb2.mono HB1.out.size)
 have hA2:=heap_below hb2 HA2.out
 have HH:=Lib.hid (put10_heap rfl hA2 (.int .i64 ki) (.int .i64 x.queue) (.int .i64 due) (.int .i64 0) (.int .i64 0) (.int .i64 now) (.string (S x.topic)) (.string (S x.tag)) (.string (S x.body)) (.slice a2 x.keys.length c2'))
 have HBM:=Lib.hid (put10_mod w2 (A+1) (.int .i64 ki) (.int .i64 x.queue) (.int .i64 due) (.int .i64 0) (.int .i64 0) (.int .i64 now) (.string (S x.topic)) (.string (S x.tag)) (.string (S x.body)) (.slice a2 x.keys.length c2'))
 have HOW:Hid ((∀ ad,a2=some ad→w1.heap.size≤ad.block)∧A+2≤w1.heap.size):=⟨fun ad e=>ownBlock_of_own h13 ad.block (by subst e; rfl),(Array.getElem?_eq_some_iff.1 HA2.out).1⟩
 have HRO:=Lib.hid hrow
 have y0:=cell_at hA2 0 _ rfl
 have z0:=frozen_at hA2 0
 have y1:=cell_at hA2 1 _ rfl
 have z1:=frozen_at hA2 1
 have y2:=cell_at hA2 2 _ rfl
 have z2:=frozen_at hA2 2
 have y3:=cell_at hA2 3 _ rfl
 have z3:=frozen_at hA2 3
 have y4:=cell_at hA2 4 _ rfl
 have z4:=frozen_at hA2 4
 have y5:=cell_at hA2 5 _ rfl
 have z5:=frozen_at hA2 5
 have y6:=cell_at hA2 6 _ rfl
 have z6:=frozen_at hA2 6
 have y7:=cell_at hA2 7 _ rfl
 have z7:=frozen_at hA2 7
 have y8:=cell_at hA2 8 _ rfl
 have z8:=frozen_at hA2 8
 have y9:=cell_at hA2 9 _ rfl
 have z9:=frozen_at hA2 9
 clear hA2 h13 hrow hb2 hw2 HK HCL HS1 HA1 HA2 HB1
 go_wp2_with fail
 clear y0 y1 y2 y3 y4 y5 y6 y7 y8 y9 z0 z1 z2 z3 z4 z5 z6 z7 z8 z9
 change bodyPost _ _ _ _ _ (put10 w2 (A+1) (.int .i64 ki) (.int .i64 x.queue) (.int .i64 due) (.int .i64 0) (.int .i64 0) (.int .i64 now) (.string (S x.topic)) (.string (S x.tag)) (.string (S x.body)) (.slice a2 x.keys.length c2'))
 generalize put10 w2 (A+1) (.int .i64 ki) (.int .i64 x.queue) (.int .i64 due) (.int .i64 0) (.int .i64 0) (.int .i64 now) (.string (S x.topic)) (.string (S x.tag)) (.string (S x.body)) (.slice a2 x.keys.length c2')=w9 at *
 have hz9:=HH.out
 have c0:=cell_at hz9 0 _ rfl
 have c1:=cell_at hz9 1 _ rfl
 have c2:=cell_at hz9 2 _ rfl
 have c3:=cell_at hz9 3 _ rfl
 have c4:=cell_at hz9 4 _ rfl
 have c5:=cell_at hz9 5 _ rfl
 have c6:=cell_at hz9 6 _ rfl
 have c7:=cell_at hz9 7 _ rfl
 have c8:=cell_at hz9 8 _ rfl
 have c9:=cell_at hz9 9 _ rfl
 have hbb:Below W.heap.size W w9:=HB2.out.trans (HBM.out.to_below _ HB2.out.size (fun k e=>by have:=HAA.out; omega))
 have hss:Strs w9 a2 (x.keys.map S):=Row1.to_strs (Row1.mod HRO.out HBM.out fun ad e h=>by have h1:=HOW.out.1 ad e; have h2:=HOW.out.2; omega)
 refine bodyPost_ret (v:=.agg (cellsM (recW x ki due now) a2 c2')) ?_ rfl ⟨a2,c2',rfl,hss,hbb⟩
 clear hz9
 simp [results,Tryz.results29,go_sem,cellsM,recW,c0,c1,c2,c3,c4,c5,c6,c7,c8,c9]
theorem Put.mono {B B2:Nat} {S0 S1:StoD} {m:Msg} {sy:Bool} (h:Put B S0 S1 m sy) (hb:B2≤B):Put B2 S0 S1 m sy :=
 { h with foot:=fun k hk=>(h.foot k hk).imp (fun h=>h) fun h=>by omega }
theorem StoTab.put {base B:Nat} {w w':World} {S0 S1:StoD} {X:TabD} {m:Msg} {sy:Bool} (h:StoTab base w S0 X) (h1:StoAt base w' S1) (hp:Put B S0 S1 m sy) (hm:Mod S0.foot w w') (hb:w.heap.size≤B):StoTab base w' S1 X :=
 ⟨h1,h.tab.mod hm (fun k hk h2=>h.away k h2 hk),by rw [hp.same]; exact h.top,by rw [h.dk,hp.dblk],fun k hk h2=>(hp.foot k hk).elim (fun h3=>h.away k h3 h2) fun h3=>by have:=h.tab.lt h2; omega⟩
theorem checkT_zero {l:List (List UInt8×Nat)} {n:List UInt8} {q:Int} (hp:∀ y∈l,plainL y.1=true∧y.2≤3) (h0:(ofL n).isEmpty=true) (h:checkT l n q=0):plainL n=true∧0≤q∧q < 3:=by
 unfold checkT at h
 split at h
 · cases h
 ·
  rename_i h1
  split at h
  · cases h
  ·
   rename_i h2
   unfold queuesT at h1 h2
   rw [if_pos h0] at h1 h2
   cases hf:l.find? fun x=>decide (x.1=n) with
   | none=>rw [hf] at h1; exact absurd rfl h1
   | some y =>
     have hy:=hp y (List.mem_of_find?_eq_some hf)
     have he:y.1=n:=by simpa using List.find?_some hf
     rw [hf] at h2
     have h3:¬ (q < 0∨(y.2:Int)≤q):=h2
     exact ⟨he ▸ hy.1,by omega,by omega⟩
theorem checkW_zero {l:List (List UInt8×Nat)} {x:WantD} (hp:∀ y∈l,plainL y.1=true∧y.2≤3) (h:checkW l x=0) {ki due now:Int} (hk:ki=1∧due=0∨ki=2) (hd:badNum due=false) (hn:badNum now=false):rightL (recW x ki due now)=true:=by
 unfold checkW at h
 split at h
 · cases h
 ·
  rename_i h1
  have h1':(ofL x.topic).isEmpty=true:=by simpa using h1
  split at h
  · rename_i h2; exact absurd h h2
  ·
   rename_i h2
   split at h
   · cases h
   ·
    rename_i h3
    split at h
    · cases h
    ·
     rename_i h4
     split at h
     ·
      rename_i h5
      obtain ⟨g1,g2,g3⟩:=checkT_zero hp h1' (by simpa using h2)
      have h3':(tagL x.tag && x.keys.all keyL)=true:=by simpa using h3
      have hcr:carriesL (recW x ki due now)=true:=by
       unfold carriesL topicL
       obtain ⟨h6,h7⟩:=Bool.and_eq_true_iff.1 h3'
       simp only [recW,g1,h6,h7,h5,Bool.true_or,Bool.true_and,Bool.and_true,decide_true]
       simp only [Bool.and_eq_true,decide_eq_true_eq]
       exact ⟨⟨⟨⟨⟨decide_eq_true g2,decide_eq_true g3⟩,rfl⟩,rfl⟩,decide_eq_true (by omega)⟩,decide_eq_true (by omega)⟩
      unfold rightL
      have hr0:badNum (recW x ki due now).ref=false:=rfl
      have hd0:badNum (recW x ki due now).due=false:=hd
      have hn0:badNum (recW x ki due now).born=false:=hn
      rw [hr0,hd0,hn0,hcr]
      rcases hk with ⟨rfl,rfl⟩ | rfl
      · rfl
      · rfl
     · cases h
theorem recW_ok {x:WantD} (hx:WantOk x) {ki due now:Int} (h1:inI ki) (h2:inI due) (h3:inI now):MsgOk (recW x ki due now) :=
 ⟨h1,hx.queue,h2,inI0,inI0,h3,hx.topic,hx.tag,hx.body,hx.keys,hx.key⟩
end Go.Proofs.YtnoehodmmkioaaaGreatDoor.SndW
