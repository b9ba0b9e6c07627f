/- send: Send. And what follows. -/
import Derived.Test.YtnoehodmmkioaaaGreatDoorF10
import Derived.Test.YtnoehodmmkioaaaGreatDoorF04
import Derived.Deep.DeepCutAuto
import Derived.Test.YtnoehodmmkioaaaGreatDoorF09
import Derived.Test.YtnoehodmmkioaaaGreatDoorF06
import Derived.Test.YtnoehodmmkioaaaGreatDoorF00
set_option maxHeartbeats 25600000
set_option maxRecDepth 100000
set_option linter.unusedVariables false
set_option linter.unusedSimpArgs false
namespace Go.Proofs.YtnoehodmmkioaaaGreatDoor.SndW
open Go.RowKit Go.MapKept Go.Sort OctMath RecMath RecW DskW SegW TapeW TapeMath PendW CacheW StoW TopW NameMath
theorem send_bad {base:Nat} {S0:StoD} {X:TabD} (x:WantD) (sy:Bool) (hx:WantOk x) (r:Int) (hc:checkW X.l x=r) (h0:r≠0) (a:Option Addr) (c:Nat) (W:World) (h:StoTab base W S0 X) (hl:X.l.length≤1000) (hS:Strs W a (x.keys.map S)) :
 Calls Tryz.prog 14 #[.pointer (some ⟨S0.blk,0,none⟩),.agg (cellsW x a c),.bool sy] W fun e w'=>e=.returned (.tuple #[.int .i64 0,.int .i64 r])∧Below W.heap.size W w':=by
 have HB0:Hid (Below W.heap.size W (W.alloc (.cells (cellsW x a c) 33))):=(Below.refl _ W).alloc (Nat.le_refl _) _
 have HX0:Hid (RecW.Boxed (W.alloc (.cells (cellsW x a c) 33)) W.heap.size (cellsW x a c)):=RecW.Boxed.new W _ _
 have HC:=Lib.hid (scheck_any x hx a c _ (h.below HB0.out) hl (Strs.below hS HB0.out))
 rw [hc] at HC
 have hcu:(cellsW x a c).size=5:=rfl
 have hne:(r != 0)=true:=bne_iff_ne.2 h0
 clear h hS hx hc h0
 go_enter Tryz.func14,Tryz.ntmps14
 go_upto_region 1 with fail
 generalize W.alloc (.cells (cellsW x a c) 33)=w1 at *
 clear hcu
 obtain ⟨A,hA⟩:∃ A,W.heap.size=A:=⟨_,rfl⟩
 rw [hA] at HX0 ⊢
 have k0:w1.cell? ⟨A,0,none⟩=some (.string (S x.topic)):=HX0.out 0 _ rfl
 have k1:w1.cell? ⟨A,1,none⟩=some (.int .i64 x.queue):=HX0.out 1 _ rfl
 have k2:w1.cell? ⟨A,2,none⟩=some (.string (S x.tag)):=HX0.out 2 _ rfl
 have k3:w1.cell? ⟨A,3,none⟩=some (.slice a x.keys.length c):=HX0.out 3 _ rfl
 have k4:w1.cell? ⟨A,4,none⟩=some (.string (S x.body)):=HX0.out 4 _ rfl
 rw [show cellsW x a c=#[.string (S x.topic),.int .i64 x.queue,.string (S x.tag),.slice a x.keys.length c,.string (S x.body)] from rfl] at HC
 clear hA
 go_wp2_with fail
 refine HC.out.mono ?_
 rintro e w2 ⟨rfl,hb⟩
 have HB2:Hid (Below W.heap.size W w2):=HB0.out.trans (hb.mono HB0.out.size)
 clear hb HC k0 k1 k2 k3 k4
 go_wp2_with fail
 go_ret2
 exact ⟨rfl,HB2.out⟩
theorem send_put {base:Nat} {S0:StoD} {X:TabD} (x:WantD) (sy:Bool) (hx:WantOk x) (hc:checkW X.l x=0) (a:Option Addr) (c:Nat) (W:World) (h:StoTab base W S0 X) (hl:X.l.length≤1000) (hS:Strs W a (x.keys.map S)) (idn r:Int) (Q:World→World→Prop)
 (HPO:Hid (∀ (a':Option Addr) (c':Nat) (w:World),Below W.heap.size W w→Strs w a' (x.keys.map S)→Calls Tryz.prog 28 #[.pointer (some ⟨S0.blk,0,none⟩),.agg (cellsM (recW x 1 0 S0.now) a' c'),.bool sy] w fun e w'=>e=.returned (.tuple #[.int .i64 idn,.int .i64 r])∧Q w w')) :
 Calls Tryz.prog 14 #[.pointer (some ⟨S0.blk,0,none⟩),.agg (cellsW x a c),.bool sy] W fun e w'=>e=.returned (.tuple #[.int .i64 idn,.int .i64 r])∧∃ w3,Below W.heap.size W w3∧Q w3 w':=by
 have HB0:Hid (Below W.heap.size W (W.alloc (.cells (cellsW x a c) 33))):=(Below.refl _ W).alloc (Nat.le_refl _) _
 have HX0:Hid (RecW.Boxed (W.alloc (.cells (cellsW x a c) 33)) W.heap.size (cellsW x a c)):=RecW.Boxed.new W _ _
 have HC:=Lib.hid (scheck_any x hx a c _ (h.below HB0.out) hl (Strs.below hS HB0.out))
 rw [hc] at HC
 have hcu:(cellsW x a c).size=5:=rfl
 have HRE:=Lib.hid (fun (w:World) (hb:Below W.heap.size W w)=>record_any x hx 1 0 S0.now a c w (Strs.below hS hb))
 have HNO:=Lib.hid (fun (w:World) (hb:Below W.heap.size W w)=>now_any w (h.sto.below hb))
 clear h hS hx hc
 go_enter Tryz.func14,Tryz.ntmps14
 go_upto_region 1 with fail
 generalize W.alloc (.cells (cellsW x a c) 33)=w1 at *
 clear hcu
 obtain ⟨A,hA⟩:∃ A,W.heap.size=A:=⟨_,rfl⟩
 have HAA:=Lib.hid hA
 rw [hA] at HX0 ⊢
 have k0:w1.cell? ⟨A,0,none⟩=some (.string (S x.topic)):=HX0.out 0 _ rfl
 have k1:w1.cell? ⟨A,1,none⟩=some (.int .i64 x.queue):=HX0.out 1 _ rfl
 have k2:w1.cell? ⟨A,2,none⟩=some (.string (S x.tag)):=HX0.out 2 _ rfl
 have k3:w1.cell? ⟨A,3,none⟩=some (.slice a x.keys.length c):=HX0.out 3 _ rfl
 have k4:w1.cell? ⟨A,4,none⟩=some (.string (S x.body)):=HX0.out 4 _ rfl
 rw [show cellsW x a c=#[.string (S x.topic),.int .i64 x.queue,.string (S x.tag),.slice a x.keys.length c,.string (S x.body)] from rfl] at HC
 clear hA
 go_wp2_with fail
 refine HC.out.mono ?_
 rintro e w2 ⟨rfl,hb⟩
 have HB2:Hid (Below W.heap.size W w2):=HB0.out.trans (hb.mono HB0.out.size)
 have HX2:=Lib.hid (HX0.out.below hb)
 clear hb HC k0 k1 k2 k3 k4 HX0 HB0
 go_upto_region 4 with fail
 rw [show cellsW x a c=#[.string (S x.topic),.int .i64 x.queue,.string (S x.tag),.slice a x.keys.length c,.string (S x.body)] from rfl] at HRE
 have HK:Hid (∀ w,RecW.ExtR w2.drew w→w.cell? ⟨A,0,none⟩=some (.string (S x.topic))∧w.cell? ⟨A,1,none⟩=some (.int .i64 x.queue)∧w.cell? ⟨A,2,none⟩=some (.string (S x.tag))∧w.cell? ⟨A,3,none⟩=some (.slice a x.keys.length c)∧w.cell? ⟨A,4,none⟩=some (.string (S x.body))∧Below w2.heap.size w2 w):=fun w hw=>by
  have hb:Below w2.heap.size w2 w:=((Below.refl _ w2).drew).trans hw
  have hc:=HX2.out.below hb
  exact ⟨hc 0 _ rfl,hc 1 _ rfl,hc 2 _ rfl,hc 3 _ rfl,hc 4 _ rfl,hb⟩
 refine GrowM.wp_region_s (by kernel_rfl) ?_
 refine GrowM.st_grow 6 [none,none,none,some (.inl (.int .i64 S0.now)),some (.inr (fun _ v w=>∃ a' c',v=.agg (cellsM (recW x 1 0 S0.now) a' c')∧Strs w a' (x.keys.map S))),none] RecW.ExtR (by kernel_rfl) (by kernel_rfl) RecW.ExtR.refl (fun _ _ _=>RecW.ExtR.trans) ?_ ?_
 ·
  intro K hK Y hY l v w w' hR h
  simp only [List.mem_cons,List.not_mem_nil,or_false] at hK
  rcases hK with rfl | rfl | rfl | rfl | rfl | rfl <;> simp only [reduceCtorEq,Option.some.injEq,Sum.inr.injEq] at hY
  subst hY; obtain ⟨a',c',e,hs⟩:=h; exact ⟨a',c',e,Strs.below hs hR⟩
 simp only [List.take_succ_cons,List.take_zero,List.drop_succ_cons,List.drop_zero,Nat.reduceSub]
 iterate 3
  refine GrowN.g_det rfl ?_
  apply Exists.intro
  refine ⟨fun w hw hF=>?_,?_⟩
  · clear hF
    obtain ⟨k0,k1,k2,k3,k4,_⟩:=HK.out w hw
    go_simp
    exact ⟨rfl,RecW.ExtR.refl _⟩
  go_frame
 refine GrowN.g_con rfl (fun w hw hF=>?_) ?_
 ·
  clear hF
  obtain ⟨_,_,_,_,_,hb⟩:=HK.out w hw
  have HNW:=Lib.hid (HNO.out w (HB2.out.trans (hb.mono HB2.out.size)))
  clear hb
  go_simp
  exact HNW.out.mono fun e w3 ⟨h1,h2⟩=>⟨_,h1,rfl,h2 ▸ RecW.ExtR.refl _⟩
 go_frame
 refine GrowN.g_new rfl (fun w hw hF=>?_) (fun v4=>?_)
 ·
  clear hF
  obtain ⟨_,_,_,_,_,hb⟩:=HK.out w hw
  have HRW:=Lib.hid (HRE.out w (HB2.out.trans (hb.mono HB2.out.size)))
  clear hb
  go_simp
  exact HRW.out.mono fun e w3 ⟨a',c',h1,h2,h3⟩=>⟨_,h1,⟨a',⟨c',rfl⟩,h2⟩,h3⟩
 go_frame
 refine GrowN.g_det rfl ?_
 apply Exists.intro
 refine ⟨fun w hw hF=>?_,?_⟩
 · clear hF
   go_simp
   exact ⟨rfl,RecW.ExtR.refl _⟩
 go_frame
 refine GrowN.g_nil fun w3 hw3 hF=>?_
 obtain ⟨a',c',rfl,hs3⟩:=hF _ (.head _)
 clear hF
 obtain ⟨_,_,_,_,_,hb3⟩:=HK.out w3 hw3
 have HB3:Hid (Below W.heap.size W w3):=HB2.out.trans (hb3.mono HB2.out.size)
 have HPW:=Lib.hid (HPO.out a' c' w3 HB3.out hs3)
 clear hs3 hb3 hw3 HPO HRE HNO HK HX2
 generalize cellsM (recW x 1 0 S0.now) a' c'=cm at *
 refine GrowM.st_call (fun v w'=>v=.tuple #[.int .i64 idn,.int .i64 r]∧Q w3 w') (by kernel_rfl) rfl rfl ?_ ?_
 ·
  go_simp
  refine HPW.out.mono ?_
  rintro e w' ⟨rfl,hb⟩
  exact ⟨_,rfl,rfl,hb⟩
 rintro v w4 ⟨rfl,hq4⟩
 go_frame
 have HM:=Lib.hid hq4
 clear hq4 HPW
 refine GrowM.st_grow 11 [none,none,none,none] (fun u v=>v=u) (by kernel_rfl) (by kernel_rfl) (fun _=>rfl) (fun _ _ _ h k=>k.trans h) ?_ ?_
 · exact GrowN.stab0 rfl
 simp only [List.take_succ_cons,List.take_zero,List.drop_succ_cons,List.drop_zero,Nat.reduceSub]
 iterate 4
  refine GrowN.g_det rfl ?_
  apply Exists.intro
  refine ⟨fun w hw hF=>?_,?_⟩
  · obtain rfl:=hw.symm
    clear hF
    go_simp
    first | exact rfl | exact ⟨rfl,rfl⟩
  go_frame
 refine GrowN.g_nil fun wz hwz hF=>?_
 obtain rfl:=hwz.symm
 clear hF
 refine GrowM.st_end rfl ?_
 go_wp2_with fail
 go_ret2
 exact ⟨rfl,w3,HB3.out,HM.out⟩
theorem send_ok {base:Nat} {S0:StoD} {X:TabD} (x:WantD) (sy:Bool) (hx:WantOk x) (hc:checkW X.l x=0) (hp:∀ y∈X.l,plainL y.1=true∧y.2≤3) (a:Option Addr) (c:Nat) (W:World) (h:StoTab base W S0 X) (hl:X.l.length≤1000) (hS:Strs W a (x.keys.map S)) (hq:Quiet S0.T.D) (hT:TabB base W) (hbase:base≤W.heap.size)
 (hnow:badNum S0.now=false) (hroom:(((fillOf S0.T.R.e (recW x 1 0 S0.now)).length+(recL (recW x 1 0 S0.now)).length:Nat):Int)≤S0.T.D.room) (hwl:S0.T.D.waits.length≤1000000) (hfar:S0.T.R.e≤80000000) (hrl:S0.T.O.recs.length≤1000000) :
 Calls Tryz.prog 14 #[.pointer (some ⟨S0.blk,0,none⟩),.agg (cellsW x a c),.bool sy] W fun e w'=>e=.returned (.tuple #[.int .i64 ((S0.T.R.e+(fillOf S0.T.R.e (recW x 1 0 S0.now)).length:Nat):Int),.int .i64 0]) ∧
  ∃ S1,StoTab base w' S1 X∧Put W.heap.size S0 S1 (recW x 1 0 S0.now) sy∧Mod S0.foot W w':=by
 have hni:inI S0.now:=by
  unfold badNum at hnow
  simp only [Bool.or_eq_false_iff,decide_eq_false_iff_not] at hnow
  exact ⟨by omega,by omega⟩
 refine (send_put x sy hx hc a c W h hl hS _ 0 _ (Lib.hid (fun (a':Option Addr) (c':Nat) (w:World) (hb:Below W.heap.size W w) (hs:Strs w a' (x.keys.map S))=>put_ok (recW x 1 0 S0.now) sy (recW_ok hx (by unfold inI; decide) inI0 hni) (checkW_zero hp hc (.inl ⟨rfl,rfl⟩) rfl hnow) (by show (1:Int)≠0; decide) a' c' w (h.sto.below hb) hs hq (hT.below hb) (Nat.le_trans hbase hb.size) hroom hwl hfar hrl))).mono ?_
 rintro e w' ⟨rfl,w3,hbw,S1,hs1,hput,hm⟩
 have hst:StoTab base w3 S0 X:=h.below hbw
 exact ⟨rfl,S1,StoTab.put hst hs1 hput hm (Nat.le_refl _),Put.mono hput hbw.size,(Mod.of_below hbw).trans hm⟩
end Go.Proofs.YtnoehodmmkioaaaGreatDoor.SndW
namespace Go.Proofs.YtnoehodmmkioaaaGreatDoor.StoW
open Go.RowKit Go.MapKept OctMath RecMath RecW TapeMath DskW SegW MapG TapeW PendW CacheW CqW
theorem foot_new {base:Nat} {w:World} {D:DiskD} (h:DiskAt base w D) (hf:D.files=[]) (hv:D.wv=.slice none 0 0) {n:Nat} (h1:n≤D.blk) (h2:n≤D.mB):∀ k,D.foot k→n≤k:=fun k hk=>by
 rcases hk with e | e | ⟨p,hp,_⟩ | e
 · omega
 · omega
 · rw [hf] at hp; cases hp
 · rw [hv] at e; cases e
theorem room_new {D:DiskD} {c:Int} (hf:D.files=[]) (hc:D.cap=c):D.room=c:=by
 unfold DiskD.room DiskD.size
 rw [hf,hc]
 show c - ((0:Nat):Int)=c
 omega
theorem not_tape {n:List UInt8} (h:∀ x l,n=116 :: 97 :: x :: l→False):∀ p,p≤99999999→n≠nameL tapeH p:=fun p _ e=>h 112 _ e
theorem fill_nil {m:Msg} (hr:rightL m=true) (h0:m.kind≠0):fillOf 0 m=[]∧laidOf 0 m=[.one m]:=by
 have:=(rec_len hr h0).2
 have hr:roomL 0=1024:=rfl
 constructor
 · unfold fillOf; rw [if_pos (by rw [hr]; right; omega)]
 · unfold laidOf; rw [if_pos (by rw [hr]; right; omega)]
theorem e_zero {base:Nat} {w:World} {T:TapeD} (h:TapeAt base w T) (hi:T.its=[]) (hb:T.R.b=0):T.R.e=0:=by
 have:=bytes_e h
 rw [hi,hb] at this
 exact this
theorem recs_zero {base:Nat} {w:World} {T:TapeD} (h:TapeAt base w T) (hi:T.its=[]):T.O.recs=[]:=by
 rw [h.recs,hi]; rfl
theorem put_snoc {base B:Nat} {w w2:World} {S0 S1:StoD} {m:Msg} {sy:Bool} (h:StoAt base w S0) (h1:StoAt base w2 S1) (hp:Put B S0 S1 m sy) :
 S1.T.O.recs=S0.T.O.recs++[(S0.T.R.e+(fillOf S0.T.R.e m).length,m)]:=by
 rw [h1.tape.recs,hp.its,hp.b,recs_app,← bytes_e h.tape,recs_laid,← h.tape.recs]
theorem put_recs {base B:Nat} {w w2:World} {S0 S1:StoD} {m:Msg} {sy:Bool} (h:StoAt base w S0) (h1:StoAt base w2 S1) (hp:Put B S0 S1 m sy) :
 (S0.T.R.e+(fillOf S0.T.R.e m).length,m)∈S1.T.O.recs∧S1.T.O.recs.length=S0.T.O.recs.length+1∧S1.T.R.e=S0.T.R.e+(fillOf S0.T.R.e m).length+(recL m).length:=by
 have e0:=bytes_e h.tape
 have e1:=bytes_e h1.tape
 have hr:S1.T.O.recs=S0.T.O.recs++[(S0.T.R.e+(fillOf S0.T.R.e m).length,m)]:=by
  rw [h1.tape.recs,hp.its,hp.b,recs_app,← e0,recs_laid,← h.tape.recs]
 refine ⟨by rw [hr]; simp,by rw [hr]; simp,?_⟩
 rw [e1,hp.b,hp.its,bytesL_app,bytes_laid,List.length_append,List.length_append]
 omega
end Go.Proofs.YtnoehodmmkioaaaGreatDoor.StoW
namespace Go.Proofs.YtnoehodmmkioaaaGreatDoor.SndW
open Go.RowKit Go.MapKept Go.Sort OctMath RecMath RecW DskW SegW TapeW TapeMath PendW CacheW StoW TopW NameMath CqW
def DisX (base lo:Nat) (w:World) (S:StoD) (X:TabD) (r:Int):Prop:=∃ C D Y B,DisB base B (fun k=>lo≤k) w S C D Y [] 0 0 r∧∀ k,X.foot k→¬ DisF C D Y k∧k≠B
theorem DisX.next {base lo:Nat} {w w':World} {S S':StoD} {X X':TabD} {r:Int} (h:DisX base lo w S X r) (hm:Mod (fun k=>S.foot k∨X.foot k) w w') (e1:S'.cq=S.cq) (e2:S'.kx=S.kx) (e3:S'.dp=S.dp) (e4:S'.T.O.blk=S.T.O.blk) (hf:∀ k,S'.foot k→S.foot k∨w.heap.size≤k) (hx:∀ k,X'.foot k→X.foot k∨w.heap.size≤k):DisX base lo w' S' X' r:=by
 obtain ⟨C,D,Y,B,h1,h2⟩:=h
 refine ⟨C,D,Y,B,h1.next hm (fun k hk=>hk.elim (h1.apart k) (h2 k)) e1 e2 e3 e4 hf,fun k hk=>(hx k hk).elim (h2 k) fun h3=>⟨fun h4=>?_,fun e=>?_⟩⟩
 · have:=h1.inv.lt h4; omega
 · have:=(Array.getElem?_eq_some_iff.1 h1.cell).1; omega
theorem DisX.below {base lo:Nat} {w w':World} {S:StoD} {X:TabD} {r:Int} (h:DisX base lo w S X r) (hb:Below w.heap.size w w'):DisX base lo w' S X r :=
 h.next (Mod.of_below hb) rfl rfl rfl rfl (fun _ h=>.inl h) (fun _ h=>.inl h)
structure MadeI (base:Nat) (W w:World) (D:DiskD) (now used:Int) (S:StoD) (X:TabD):Prop where
 st:StoTab base w S X
 now:S.now=now
 its:S.T.its=[]
 b:S.T.R.b=0
 syn:S.T.R.synced=S.T.R.e
 wt:S.T.D.waits=[]
 q:Quiet S.T.D
 db:S.T.D.blk=D.blk
 room:D.room - used≤S.T.D.room
 files:∀ p∈S.T.D.files,p.1=topicsN
 fl:S.T.D.files.length≤1
 pend:S.P.all=[]
 mod:Mod D.foot W w
 foot:∀ k,S.foot k→D.foot k∨W.heap.size≤k
 xfoot:∀ k,X.foot k→W.heap.size≤k
 low:base≤W.heap.size
 dis:DisX base W.heap.size w S X 4194184
 tb:X.l=[]∨∃ f,S.T.D.find topicsN=some f∧f.now=CrcMath.sealed (putT X.l)
theorem MadeI.below {base:Nat} {W w w':World} {D:DiskD} {now used:Int} {S:StoD} {X:TabD} (h:MadeI base W w D now used S X) (hb:Below w.heap.size w w'):MadeI base W w' D now used S X :=
 { h with st:=h.st.below hb,mod:=h.mod.trans (Mod.of_below hb),dis:=h.dis.below hb }
theorem tab_cell {base:Nat} {w:World} {S0:StoD} {X:TabD} (h:StoTab base w S0 X):w.cell? ⟨S0.blk,3,none⟩=some (.pointer (some ⟨X.blk,0,none⟩)) :=
 (h.sto.cell 3 _ rfl).trans (by show some S0.top=_; rw [h.top])
theorem topics_not:∀ p,p≤99999999→topicsN≠nameL tapeH p:=not_tape fun x l e=>by cases e
theorem MadeI.add {base:Nat} {W w:World} {D:DiskD} {now used:Int} {S0:StoD} {X:TabD} (h:MadeI base W w D now used S0 X) (n:List UInt8) (q:Nat) (u:Int) (hok:rightT X.l n q=0) (hn:n.length≤1000) (hl:∀ x∈X.l,x.1.length≤1000∧x.2≤255)
 (hu:used+((CrcMath.sealed (putT (X.l++[(n,q)]))).length:Int)=u) (hr:u≤D.room) :
 Calls Tryz.prog 22 #[.pointer (some ⟨X.blk,0,none⟩),.string (S n),.int .i64 (q:Int)] w fun e w'=>e=.returned (.int .i64 0)∧∃ S1 X1,MadeI base W w' D now u S1 X1∧X1.l=X.l++[(n,q)]∧X1.blk=X.blk∧S1.blk=S0.blk:=by
 have ht:=h.st.tab
 have hdk:=h.st.dk
 have hz:=h.mod.size
 obtain ⟨xb,dk,v,l⟩:=X
 dsimp only at *
 subst hdk
 have hc:=tadd_q (D:=S0.T.D) n q w ht h.st.sto.tape.whole.dsk (fun k hk e=>h.st.away k (.inr (.inl (.inr (.inl hk)))) (by subst e; exact .inl rfl)) h.q h.wt (fun x hx=>by
  obtain ⟨p,hp,rfl⟩:=List.mem_map.1 hx
  rw [h.files p hp]; decide) (by have:=h.fl; omega) (fun p hp=>by rw [h.files p hp]; decide) hok hn hl (by have:=h.room; omega) (by have:=h.low; omega)
 refine hc.mono fun e w' ⟨he,v',b,wv,m,h1,h2,h3,h4,h5,h6,h7⟩=>⟨he,S0.disk (DiskD.saved S0.T.D topicsN b (CrcMath.sealed (putT (l++[(n,q)]))) wv),⟨xb,S0.T.D.blk,v',l++[(n,q)]⟩,?_,rfl,rfl,rfl⟩
 obtain ⟨hs,hf⟩:=h.st.add topics_not h.wt h2 h1 h3 h4 h5 h6 h7
 have hfl:(DiskD.saved S0.T.D topicsN b (CrcMath.sealed (putT (l++[(n,q)]))) wv).files=[(topicsN,⟨b,CrcMath.sealed (putT (l++[(n,q)])),CrcMath.sealed (putT (l++[(n,q)]))⟩)]:=by
  show without S0.T.D.files topicsN++_=_
  have:without S0.T.D.files topicsN=[]:=List.filter_eq_nil_iff.2 fun p hp=>by simp [h.files p hp]
  rw [this]; rfl
 have hrm:=saved_room (D:=S0.T.D) (n:=topicsN) (t:=CrcMath.sealed (putT (l++[(n,q)]))) (b:=b) (wv:=wv)
 refine ⟨hs,h.now,h.its,h.b,h.syn,h.wt,⟨h.q.left,h.q.up⟩,h.db,by have:=h.room; show _≤(DiskD.saved S0.T.D topicsN b (CrcMath.sealed (putT (l++[(n,q)]))) wv).room; omega,fun p hp=>?_,?_,h.pend,?_,fun k hk=>(hf k hk).elim (h.foot k) fun h=>.inr (by omega),fun k hk=>?_,h.low,h.dis.next (h3.mono fun k _ hk=>hk.elim (fun h9=>.inl (.inr (.inl (.inr (.inl h9))))) fun e=>.inr (.inl e)) rfl rfl rfl rfl hf fun k hk=>hk.elim (fun e=>.inl (.inl e)) fun h9=>.inr (h7 k h9).1,.inr ⟨⟨b,CrcMath.sealed (putT (l++[(n,q)])),CrcMath.sealed (putT (l++[(n,q)]))⟩,?_,rfl⟩⟩
 · have hp:p∈(DiskD.saved S0.T.D topicsN b (CrcMath.sealed (putT (l++[(n,q)]))) wv).files:=hp
   rw [hfl,List.mem_singleton] at hp; rw [hp]
 · show (DiskD.saved S0.T.D topicsN b (CrcMath.sealed (putT (l++[(n,q)]))) wv).files.length≤1
   rw [hfl]; exact Nat.le_refl _
 · exact ((h.mod.mono (N:=fun k=>D.foot k∨W.heap.size≤k) fun k _ h9=>.inl h9).trans (h3.mono (N:=fun k=>D.foot k∨W.heap.size≤k) fun k _ hk=>hk.elim (fun h9=>h.foot k (.inr (.inl (.inr (.inl h9))))) fun e=>.inr (h.xfoot k (.inl e)))).mono fun k hk h9=>h9.elim (fun h=>h) fun h=>by omega
 · rcases hk with hk | hk
   · exact h.xfoot k (.inl hk)
   · have:=(h7 k hk).1; omega
 ·
  show DiskD.find (DiskD.saved S0.T.D topicsN b (CrcMath.sealed (putT (l++[(n,q)]))) wv) topicsN=_
  unfold DiskD.find
  rw [hfl]
  rfl
def made3:List (List UInt8×Nat):=[([97],1),([98],3),([108,111,110,103,45,116,111,112,105,99,45,110,97,109,101,49],2)]
theorem made_len1:((CrcMath.sealed (putT ([]++[([97],1)]))).length:Int)=9:=by rw [CrcMath.sealed_length]; decide
theorem made_len2:((CrcMath.sealed (putT ([([97],1)]++[([98],3)]))).length:Int)=13:=by rw [CrcMath.sealed_length]; decide
theorem made_len3:((CrcMath.sealed (putT ([([97],1),([98],3)]++[([108,111,110,103,45,116,111,112,105,99,45,110,97,109,101,49],2)]))).length:Int)=32:=by rw [CrcMath.sealed_length]; decide
theorem made_any {base:Nat} {D:DiskD} (now:Nat) (W:World) (hD:DiskAt base W D) (hq:Quiet D) (hf:D.files=[]) (hwt:D.waits=[]) (hbase:base≤W.heap.size) (hT:TabB base W) (hnow:now≤1099511626776) (hr:200≤D.room) :
 Calls Tryz.prog 8 #[.pointer (some ⟨D.blk,0,none⟩),.int .i64 (now:Int)] W fun e w'=>∃ S X,e=.returned (.tuple #[.pointer (some ⟨S.blk,0,none⟩),.bool true])∧MadeI base W w' D (now:Int) 54 S X∧X.l=made3:=by
 have HN2:=Lib.hid (DskW.new_any 4194304 base W hbase)
 have H1:Hid (DiskAt base W D∧Quiet D∧D.files=[]∧D.waits=[]∧200≤D.room):=⟨hD,hq,hf,hwt,hr⟩
 have HTB:=Lib.hid hT
 have HBS:=Lib.hid hbase
 have HNW:=Lib.hid hnow
 clear hD hq hf hwt hT hbase hr hnow
 go_enter Tryz.func8,Tryz.ntmps8
 go_wp2_with fail
 refine HN2.out.mono ?_
 rintro e w4 ⟨D2,rfl,hD2,hb4,h11,h12,h13,h14,h15,h16,h17,h18⟩
 clear HN2
 obtain ⟨hD,hq1,hf1,hw1,hr1⟩:=H1.out
 have HB4:=Lib.hid hb4
 have HO:=Lib.hid (sopen_fresh (base:=base) now w4 (hD.below hb4) hq1 hf1 hw1 (Nat.le_trans HBS.out hb4.size) (HTB.out.below hb4) hD2 ⟨h13,h14⟩ h15 (by have:=room_new (c:=4194304) h15 (by rw [h18]; rfl); omega) h16
  (fun k hk h2=>by have h3:=hD.lt hk; have h4:=foot_new hD2 h15 h17 h11 h12 k h2; omega) HNW.out)
 have HR2:Hid (D2.room=4194304):=room_new h15 (by rw [h18]; rfl)
 have HF2:Hid (∀ k,D2.foot k→W.heap.size≤k):=fun k hk=>foot_new hD2 h15 h17 h11 h12 k hk
 clear hD2 hb4 h11 h12 h13 h14 h15 h16 h17 h18 hD hq1 hf1 hw1 hr1 HTB HNW
 go_wp2_with fail
 refine HO.out.mono ?_
 rintro e w5 ⟨S0,rfl,hS,hnw,hits,hb,hsy,hwt,hq,hdb,hrm,hfs,⟨b3,b4,tv,ht3,ht4,hdk,hpr,hn3,hpd,CC,DD,YY,BB,hdis,hdb3⟩,hm,hft⟩
 clear HO
 have hz4:=HB4.out.size
 have HI0:Hid (MadeI base W w5 D (now:Int) 0 S0 ⟨b3,D.blk,tv,[]⟩):=by
  refine ⟨⟨hS,⟨hpr.t,ownb hpr.r (by have:=HBS.out; omega),by have:=hpr.lo; have:=HBS.out; show base≤b3; omega⟩,ht3,hdb.symm,fun k hk h2=>?_⟩,hnw,hits,hb,hsy,hwt,hq,hdb,by rw [hrm]; omega,by rw [hfs]; simp,by rw [hfs]; simp,?_,?_,fun k hk=>(hft k hk).imp (fun h=>h) fun h=>by omega,fun k hk=>?_,HBS.out,?_,.inl rfl⟩
  · rcases h2 with h2 | h2
    · have h2:k=b3:=h2
      subst h2; exact hn3 _ (.inl rfl) hk
    · exact hn3 k (.inr (.inr h2)) hk
  · rw [hpd,recs_zero hS.tape hits]; rfl
  · exact ((Mod.of_below HB4.out).trans (hm.mono (N:=fun k=>D.foot k∨W.heap.size≤k) fun k _ hk=>hk.imp (fun h=>h) (HF2.out k))).mono fun k hk h=>h.elim (fun h=>h) fun h=>by omega
  · rcases hk with h2 | h2
    · have h2:k=b3:=h2
      have:=hpr.lo; omega
    · have:=(hpr.lo_all (.inr (.inr h2))).1; omega
  ·
   refine ⟨CC,DD,YY,BB,{ hdis.mono (L':=fun k=>W.heap.size≤k) (fun k hk=>hk.elim (HF2.out k) fun h=>by omega) with room:=by have:=hdis.room; have:=HR2.out; omega },fun k hk=>?_⟩
   rcases hk with h2 | h2
   · have h2:k=b3:=h2
     exact hdb3 k (.inl h2)
   · exact hdb3 k (.inr (.inr h2))
 have hrr:=H1.out.2.2.2.2
 clear hS hnw hits hb hsy hwt hq hdb hrm hfs ht3 ht4 hdk hpr hn3 hpd hdis hdb3 hm hft hz4 HF2 HR2 HB4 H1
 have HRR:=Lib.hid hrr
 clear hrr
 obtain ⟨sb,hsb⟩:∃ sb,S0.blk=sb:=⟨_,rfl⟩
 have HSB:=Lib.hid hsb
 have c3:w5.cell? ⟨sb,3,none⟩=some (.pointer (some ⟨b3,0,none⟩)):=by rw [← hsb]; exact tab_cell HI0.out.st
 have HAL:=Lib.hid (tall_any w5 HI0.out.st.tab (by simp))
 rw [hsb]
 clear hsb
 go_wp2_with fail
 refine HAL.out.mono ?_
 rintro e w6 ⟨v',rfl,ho,hb6⟩
 obtain ⟨a6,cp6,hv6,_⟩:=RowT.own ho
 subst hv6
 have HI6:=Lib.hid (HI0.out.below hb6)
 have c3':w6.cell? ⟨sb,3,none⟩=some (.pointer (some ⟨b3,0,none⟩)):=by rw [hb6.cell (cell_lt c3)]; exact c3
 clear ho hb6 HAL c3 HI0
 have HA1:=Lib.hid (HI6.out.add [97] 1 9 rfl (by decide) (by simp) (by rw [made_len1]; rfl) (by have:=HRR.out; omega))
 rw [show ((1:Nat):Int)=1 from rfl,show S [97]=⟨#[97]⟩ from rfl] at HA1
 change Hid (Calls _ _ #[.pointer (some ⟨b3,0,none⟩),_,_] _ _) at HA1
 go_wp2_with fail
 refine HA1.out.mono ?_
 rintro e w7 ⟨rfl,S1,X1,hi7,hl7,hx7,hs7⟩
 have HI7:=Lib.hid hi7
 have HL7:Hid (X1.l=[([97],1)]):=hl7
 have c7:w7.cell? ⟨sb,3,none⟩=some (.pointer (some ⟨b3,0,none⟩)):=by rw [← HSB.out,← hs7]; exact (tab_cell hi7.st).trans (by rw [hx7])
 have HA2:=Lib.hid (hi7.add [98] 3 22 (by rw [hl7]; rfl) (by decide) (by rw [hl7]; simp) (by rw [hl7]; rw [show ([]++[([97],1)]++[([98],3)]:List (List UInt8×Nat))=[([97],1)]++[([98],3)] from rfl,made_len2]; rfl) (by have:=HRR.out; omega))
 rw [show ((3:Nat):Int)=3 from rfl,show S [98]=⟨#[98]⟩ from rfl,hx7] at HA2
 have HS7:Hid (S1.blk=sb):=hs7.trans HSB.out
 change Hid (Calls _ _ #[.pointer (some ⟨b3,0,none⟩),_,_] _ _) at HA2
 clear hi7 hl7 hx7 hs7 HA1 HI6 c3'
 go_wp2_with fail
 refine HA2.out.mono ?_
 rintro e w8 ⟨rfl,S2,X2,hi8,hl8,hx8,hs8⟩
 rw [HL7.out] at hl8
 have HI8:=Lib.hid hi8
 have c8:w8.cell? ⟨sb,3,none⟩=some (.pointer (some ⟨b3,0,none⟩)):=by rw [← HS7.out,← hs8]; exact (tab_cell hi8.st).trans (by rw [hx8])
 have HA3:=Lib.hid (hi8.add [108,111,110,103,45,116,111,112,105,99,45,110,97,109,101,49] 2 54 (by rw [hl8]; rfl) (by decide) (by rw [hl8]; simp) (by rw [hl8]; rw [show ([([97],1)]++[([98],3)]++[([108,111,110,103,45,116,111,112,105,99,45,110,97,109,101,49],2)]:List (List UInt8×Nat))=[([97],1),([98],3)]++[([108,111,110,103,45,116,111,112,105,99,45,110,97,109,101,49],2)] from rfl,made_len3]; rfl) (by have:=HRR.out; omega))
 rw [show ((2:Nat):Int)=2 from rfl,show S [108,111,110,103,45,116,111,112,105,99,45,110,97,109,101,49]=⟨#[108,111,110,103,45,116,111,112,105,99,45,110,97,109,101,49]⟩ from rfl,hx8] at HA3
 have HS8:Hid (S2.blk=sb):=hs8.trans HS7.out
 have HL8:Hid (X2.l=[([97],1)]++[([98],3)]):=hl8
 change Hid (Calls _ _ #[.pointer (some ⟨b3,0,none⟩),_,_] _ _) at HA3
 clear hi8 hl8 hx8 hs8 HA2 HI7 c7 HL7 HS7
 go_wp2_with fail
 refine HA3.out.mono ?_
 rintro e w9 ⟨rfl,S3,X3,hi9,hl9,hx9,hs9⟩
 rw [HL8.out] at hl9
 have HI9:Hid (MadeI base W w9 D (now:Int) 54 S3 X3∧X3.l=made3∧S3.blk=sb):=⟨hi9,hl9,hs9.trans HS8.out⟩
 clear hi9 hl9 hx9 hs9 HA3 HI8 c8 HL8 HS8
 go_wp2_with fail
 go_ret2
 obtain ⟨g1,g2,g3⟩:=HI9.out
 exact ⟨S3,X3,by rw [g3]; rfl,g1,g2⟩
def WantRow (w:World) (a:Option Addr) (ms:List (WantD×Option Addr×Nat)):Prop :=
 ∀ i (h:i < ms.length),∃ g off,a=some ⟨g,off,none⟩∧(∀ (j:Nat) (v:Value),(cellsW ms[i].1 ms[i].2.1 ms[i].2.2)[j]?=some v→w.cell? ⟨g,off+i * 5+j,none⟩=some v)∧Strs w ms[i].2.1 (ms[i].1.keys.map S)
theorem WantRow.below {w w':World} {a:Option Addr} {ms:List (WantD×Option Addr×Nat)} (h:WantRow w a ms) (hb:Below w.heap.size w w'):WantRow w' a ms:=fun i hi=>by
 obtain ⟨g,off,h1,h2,h3⟩:=h i hi
 exact ⟨g,off,h1,fun j v hv=>by have h4:=h2 j v hv; rw [hb.cell (cell_lt h4)]; exact h4,Strs.below h3 hb⟩
def great1 (x:WantD):Bool:=decide (100 < x.topic.length) || (decide (100 < x.tag.length) || (decide (10 < x.keys.length) || decide (1000 < x.body.length)))
def greatX (x:WantD):Bool:=great1 x || x.keys.any fun t=>decide (100 < t.length)
theorem want_ok {x:WantD} (hq:inI x.queue) (h:greatX x=false):WantOk x∧x.topic.length≤100∧x.body.length≤1000∧x.keys.length≤10:=by
 unfold greatX great1 at h
 simp only [Bool.or_eq_false_iff,decide_eq_false_iff_not,List.any_eq_false,decide_eq_true_eq] at h
 obtain ⟨⟨g1,g2,g3,g4⟩,g5⟩:=h
 exact ⟨⟨hq,by omega,by omega,by omega,by omega,fun t ht=>by have:=g5 t ht; omega⟩,by omega,by omega,by omega⟩
theorem great_any (ms:List (WantD×Option Addr×Nat)) (a0:Option Addr) (c0:Nat) (W:World) (h:WantRow W a0 ms) (hl:ms.length≤1073741824) :
 Calls Tryz.prog 6 #[.slice a0 ms.length c0] W fun e w'=>e=.returned (.bool (ms.any fun p=>greatX p.1))∧Below W.heap.size W w':=by
 have HH:=Lib.hid h
 have HL:=Lib.hid hl
 clear h
 go_enter Tryz.func6,Tryz.ntmps6
 go_wp2_with fail
 go_loopw [9] (fun i wr=>∃ k:Nat,k≤ms.length∧i=.int .i64 (k:Int)∧Hid (((ms.take k).any fun p=>greatX p.1)=false∧Below W.heap.size W wr)) (fun i _=>ms.length - (intOf i).toNat)
 case atStart=>exact ⟨0,Nat.zero_le _,rfl,rfl,Below.refl _ _⟩
 case round =>
  obtain ⟨k,hk,rfl,HS⟩:=hrel
  obtain ⟨wA,rfl⟩:∃ wA:World,wA=wr:=⟨_,rfl⟩
  by_cases hlt:k < ms.length
  ·
   obtain ⟨g,off,rfl,hcell,hkeys⟩:=HH.out k hlt
   obtain ⟨p,hp⟩:∃ p,p=ms[k]:=⟨_,rfl⟩
   have HANY:Hid (((ms.take (k+1)).any fun p=>greatX p.1)=greatX p.1):=by
    show _=_
    rw [List.take_succ_eq_append_getElem hlt,List.any_append,HS.out.1,← hp]; simp
   have HALL:Hid (greatX p.1=true→(ms.any fun p=>greatX p.1)=true):=fun hg=>List.any_eq_true.2 ⟨p,by rw [hp]; exact List.getElem_mem hlt,hg⟩
   rw [← hp] at hcell hkeys
   clear hp
   obtain ⟨x,a,c⟩:=p
   have HK:=Lib.hid (Strs.below hkeys HS.out.2)
   have hcw:∀ (j:Nat) (v:Value),(cellsW x a c)[j]?=some v→wA.cell? ⟨g,off+k * 5+j,none⟩=some v:=fun j v hv=>by
    have h1:=hcell j v hv
    rw [HS.out.2.cell (cell_lt h1)]; exact h1
   have k0:wA.cell? ⟨g,off+k * 5,none⟩=some (.string (S x.topic)):=hcw 0 _ rfl
   have k1:wA.cell? ⟨g,off+k * 5+1,none⟩=some (.int .i64 x.queue):=hcw 1 _ rfl
   have k2:wA.cell? ⟨g,off+k * 5+2,none⟩=some (.string (S x.tag)):=hcw 2 _ rfl
   have k3:wA.cell? ⟨g,off+k * 5+3,none⟩=some (.slice a x.keys.length c):=hcw 3 _ rfl
   have k4:wA.cell? ⟨g,off+k * 5+4,none⟩=some (.string (S x.body)):=hcw 4 _ rfl
   clear hcell hkeys hcw
   have HB2:Hid (Below W.heap.size W (wA.alloc (.cells #[.string (S x.topic),.int .i64 x.queue,.string (S x.tag),.slice a x.keys.length c,.string (S x.body)] 33))):=HS.out.2.alloc HS.out.2.size _
   by_cases h1:100 < x.topic.length
   ·
    have z1:(100:Int) < ((S x.topic).size:Int):=by rw [S_size]; omega
    have HG:Hid ((ms.any fun p=>greatX p.1)=true):=HALL.out (by unfold greatX great1; simp [h1])
    clear h1
    go_wp2_with fail
    go_ret
    exact ⟨by rw [HG.out]; rfl,HB2.out⟩
   have z1:((S x.topic).size:Int)≤(100:Int):=by rw [S_size]; omega
   by_cases h2:100 < x.tag.length
   ·
    have z2:(100:Int) < ((S x.tag).size:Int):=by rw [S_size]; omega
    have HG:Hid ((ms.any fun p=>greatX p.1)=true):=HALL.out (by unfold greatX great1; simp [h2])
    clear h2
    go_wp2_with fail
    go_ret
    exact ⟨by rw [HG.out]; rfl,HB2.out⟩
   have z2:((S x.tag).size:Int)≤(100:Int):=by rw [S_size]; omega
   by_cases h3:10 < x.keys.length
   ·
    have z3:(10:Int) < (x.keys.length:Int):=by omega
    have HG:Hid ((ms.any fun p=>greatX p.1)=true):=HALL.out (by unfold greatX great1; simp [h3])
    clear h3
    go_wp2_with fail
    go_ret
    exact ⟨by rw [HG.out]; rfl,HB2.out⟩
   have z3:(x.keys.length:Int)≤(10:Int):=by omega
   by_cases h4:1000 < x.body.length
   ·
    have z4:(1000:Int) < ((S x.body).size:Int):=by rw [S_size]; omega
    have HG:Hid ((ms.any fun p=>greatX p.1)=true):=HALL.out (by unfold greatX great1; simp [h4])
    clear h4
    go_wp2_with fail
    go_ret
    exact ⟨by rw [HG.out]; rfl,HB2.out⟩
   have z4:((S x.body).size:Int)≤(1000:Int):=by rw [S_size]; omega
   have HG1:Hid (great1 x=false):=by show _=_; unfold great1; simp; omega
   clear h1 h2 h3 h4
   have HK2:Hid (Strs (wA.alloc (.cells #[.string (S x.topic),.int .i64 x.queue,.string (S x.tag),.slice a x.keys.length c,.string (S x.body)] 33)) a (x.keys.map S)):=Strs.below HK.out ((Below.refl _ _).alloc (Nat.le_refl _) _)
   have hc2:=heap_alloc_new wA (.cells #[.string (S x.topic),.int .i64 x.queue,.string (S x.tag),.slice a x.keys.length c,.string (S x.body)] 33)
   go_upto_region 6 with fail
   clear k0 k1 k2 k3 k4 HK
   generalize (wA.alloc (.cells #[.string (S x.topic),.int .i64 x.queue,.string (S x.tag),.slice a x.keys.length c,.string (S x.body)] 33))=w5 at *
   generalize wA.heap.size=g5 at *
   have k3:w5.cell? ⟨g5,3,none⟩=some (.slice a x.keys.length c):=cell_at hc2 3 _ rfl
   clear hc2
   go_wp2_with fail
   obtain ⟨w6,hw6⟩:∃ w6:World,w6=w5:=⟨_,rfl⟩
   go_loopw [38] (fun i w2=>∃ j:Nat,j≤x.keys.length∧i=.int .i64 (j:Int)∧w2=w6∧Hid (∀ t∈x.keys.take j,t.length≤100)) (fun i _=>x.keys.length - (intOf i).toNat)
   case atStart=>exact ⟨0,Nat.zero_le _,rfl,hw6.symm,fun t ht=>by cases ht⟩
   case round =>
    obtain ⟨j,hj,rfl,rfl,HJ⟩:=hrel
    subst hw6
    by_cases hjl:j < x.keys.length
    ·
     obtain ⟨b,o2,rfl,hcj⟩:=HK2.out j (by rw [List.length_map]; exact hjl)
     rw [List.getElem_map] at hcj
     have HTK:Hid (∀ t∈x.keys.take (j+1),t∈x.keys.take j∨t=x.keys[j]):=fun t ht=>by
      rw [List.take_succ_eq_append_getElem hjl] at ht
      rcases List.mem_append.1 ht with h | h
      · exact .inl h
      · exact .inr (by simpa using h)
     have HIN:Hid (x.keys[j]∈x.keys):=List.getElem_mem hjl
     generalize x.keys[j]=t at *
     by_cases h5:100 < t.length
     · have z5:(100:Int) < ((S t).size:Int):=by rw [S_size]; omega
       have HG:Hid ((ms.any fun p=>greatX p.1)=true):=HALL.out (by unfold greatX; rw [Bool.or_eq_true]; exact .inr (List.any_eq_true.2 ⟨t,HIN.out,by simpa using h5⟩))
       clear h5
       go_wp2_with fail
       go_ret
       exact ⟨by rw [HG.out]; rfl,HB2.out⟩
     · have z5:((S t).size:Int)≤(100:Int):=by rw [S_size]; omega
       have HJ2:Hid (∀ t∈x.keys.take (j+1),t.length≤100):=fun y hy=>(HTK.out y hy).elim (HJ.out y) fun e=>by rw [e]; omega
       clear h5
       go_wp2_with fail
       go_roundw
       case rel=>exact ⟨j+1,by omega,by go_num,trivial,HJ2.out⟩
       case measure=>simp [intOf]; omega
    ·
     have hjn:j=x.keys.length:=by omega
     subst hjn
     rw [List.take_length] at HJ
     have HNG:Hid (greatX x=false):=by
      show _=_
      unfold greatX
      rw [HG1.out,Bool.false_or,List.any_eq_false]
      intro t ht
      have:=HJ.out t ht
      simp; omega
     clear HJ hjl hj
     go_wp2_with fail
     go_roundw
     case rel=>exact ⟨k+1,by omega,by go_num,by rw [HANY.out]; exact HNG.out,HB2.out⟩
     case measure=>simp [intOf]; omega
  ·
   have hkn:k=ms.length:=by omega
   subst hkn
   have HG:Hid ((ms.any fun p=>greatX p.1)=false):=by have h1:=HS.out.1; rw [List.take_length] at h1; exact h1
   go_wp2_with fail
   go_ret
   exact ⟨by rw [HG.out]; rfl,HS.out.2⟩
end Go.Proofs.YtnoehodmmkioaaaGreatDoor.SndW
namespace Go.Proofs.YtnoehodmmkioaaaGreatDoor.RecW
open Go.RowKit OctMath NameMath RecMath
theorem rkey_any (l:List UInt8) (hl:l.length≤1099511627776) (W:World):Calls Tryz.prog 32 #[.string (S l)] W fun e w'=>e=.returned (.bool (keyL l))∧Drawn W w':=by
 have hsz:=S_size l
 have HE:Hid (keyL l=(decide (l≠[]) && decide (l.length≤16) && l.all keySign)):=rfl
 go_enter Tryz.func32,Tryz.ntmps32
 go_wp2_with fail
 go_loopw [3] (fun i wr=>∃ k:Nat,k≤l.length∧i=.int .i64 (k:Int)∧Hid ((l.take k).all keySign=true)∧Hid (Drawn W wr)) (fun i _=>l.length+1 - (intOf i).toNat)
 case atStart=>exact ⟨0,by omega,rfl,rfl,Drawn.refl _⟩
 case round =>
  obtain ⟨k,hk,rfl,HA,HD⟩:=hrel
  by_cases hlt:k < l.length
  ·
   have hi1:k < (S l).size:=by rw [hsz]; exact hlt
   have hx1:=fun w=>NameW.index_at l k (k:Int) rfl hlt .i64 w
   have hstep:(l.take (k+1)).all keySign=((l.take k).all keySign && keySign l[k]):=by rw [List.take_succ_eq_append_getElem hlt,List.all_append,List.all_cons,List.all_nil,Bool.and_true]; rfl
   have hmem:keySign l[k]=false→l.all keySign=false:=fun h=>by rw [List.all_eq_false]; exact ⟨l[k],List.getElem_mem hlt,by rw [h]; simp⟩
   have hdg:keySign l[k]=(decide (33≤l[k].toNat) && decide (l[k].toNat≤126)):=rfl
   generalize l[k]=c at *
   have HST:=Lib.hid hstep
   have HMEM:=Lib.hid hmem
   have HDG:=Lib.hid hdg
   have hc:=c.toNat_lt
   clear hstep hmem hdg
   rcases (show (c.toNat < 33)∨(126 < c.toNat)∨(33≤c.toNat∧c.toNat≤126) by omega) with h | h | h
   ·
    have HS:Hid (keySign c=false):=by show _=_; rw [HDG.out]; simp; omega
    have d33:decide ((c.toNat:Int) < 33)=true:=decide_eq_true (by omega)
    have HT:Hid (keyL l=false):=by show _=_; rw [HE.out,HMEM.out HS.out,Bool.and_false]
    clear HMEM HST HS h HDG
    go_wp2_with fail
    go_ret
    rw [HT.out]
    exact ⟨rfl,HD.out⟩
   ·
    have HS:Hid (keySign c=false):=by show _=_; rw [HDG.out]; simp; omega
    have d33:decide ((c.toNat:Int) < 33)=false:=decide_eq_false (by omega)
    have d126:decide (126 < (c.toNat:Int))=true:=decide_eq_true (by omega)
    have HT:Hid (keyL l=false):=by show _=_; rw [HE.out,HMEM.out HS.out,Bool.and_false]
    clear HMEM HST HS h HDG
    go_wp2_with fail
    go_ret
    rw [HT.out]
    exact ⟨rfl,HD.out⟩
   ·
    have HS:Hid (keySign c=true):=by show _=_; rw [HDG.out]; simp; omega
    have d33:decide ((c.toNat:Int) < 33)=false:=decide_eq_false (by omega)
    have d126:decide (126 < (c.toNat:Int))=false:=decide_eq_false (by omega)
    have HT:Hid ((l.take (k+1)).all keySign=true):=by show _=_; rw [HST.out,HA.out,HS.out]; rfl
    clear HMEM HST HS h HDG
    go_wp2_with fail
    go_roundw
    case rel=>exact ⟨k+1,by omega,by go_num,HT,HD⟩
    case measure=>simp [intOf]; omega
  ·
   obtain rfl:k=l.length:=by omega
   rw [List.take_length] at HA
   have HT:Hid (keyL l=(decide (l≠[]) && decide (l.length≤16))):=by show _=_; rw [HE.out,HA.out,Bool.and_true]
   have h1:decide (1≤(l.length:Int))=decide (l≠[]):=by
    rw [decide_eq_decide]
    cases l with
    | nil=>simp
    | cons _ _=>simp; omega
   have h2:decide ((l.length:Int)≤16)=decide (l.length≤16):=decide_eq_decide.2 (by omega)
   clear HA HE
   generalize decide (l≠[])=b1 at *
   generalize decide (l.length≤16)=b2 at *
   cases b1 <;>
   (go_wp2_with fail
    go_ret
    rw [HT.out]
    exact ⟨rfl,HD.out⟩)
theorem nodup_snoc {α:Type} {xs:List α} {x:α} (h:xs.Nodup) (hx:x∉xs):(xs++[x]).Nodup:=by
 rw [List.nodup_append]
 refine ⟨h,List.nodup_cons.2 ⟨by simp,List.nodup_nil⟩,fun a ha b hb=>?_⟩
 rw [List.mem_singleton.1 hb]
 rintro rfl
 exact hx ha
theorem nodup_snoc2 {α:Type} {xs:List α} {x:α} (h:(xs++[x]).Nodup):x∉xs:=by
 rw [List.nodup_append] at h
 exact fun hx=>h.2.2 x hx x (List.mem_singleton.2 rfl) rfl
end Go.Proofs.YtnoehodmmkioaaaGreatDoor.RecW
namespace Go.Proofs.YtnoehodmmkioaaaGreatDoor.SndW
open Go.RowKit Go.MapKept Go.Sort OctMath RecMath RecW DskW SegW MapG TapeW TapeMath PendW CacheW StoW TopW NameMath
def queues3 (t:List UInt8):Nat:=if t=[97] then 1 else if t=[98] then 3 else if t=[108,111,110,103,45,116,111,112,105,99,45,110,97,109,101,49] then 2 else 0
theorem queues3_eq (t:List UInt8):((ofL t).isEmpty=true→queues3 t=queuesT made3 t)∧((ofL t).isEmpty=false→queues3 t=0):=by
 unfold queues3
 by_cases h1:t=[97]
 · subst h1; exact ⟨fun _=>by decide,fun h=>by exact absurd h (by decide)⟩
 by_cases h2:t=[98]
 · subst h2; exact ⟨fun _=>by decide,fun h=>by exact absurd h (by decide)⟩
 by_cases h3:t=[108,111,110,103,45,116,111,112,105,99,45,110,97,109,101,49]
 · subst h3; exact ⟨fun _=>by decide,fun h=>by exact absurd h (by decide)⟩
 rw [if_neg h1,if_neg h2,if_neg h3]
 refine ⟨fun h=>?_,fun _=>rfl⟩
 unfold queuesT
 rw [if_pos h,find_out t made3 (fun x hx=>by
  unfold made3 at hx
  simp only [List.mem_cons,List.not_mem_nil,or_false] at hx
  rcases hx with rfl | rfl | rfl
  · exact fun e=>h1 e.symm
  · exact fun e=>h2 e.symm
  · exact fun e=>h3 e.symm)]
 rfl
def rightW (x:WantD):Int:=if queues3 x.topic=0 then 12 else if x.queue < 0∨(queues3 x.topic:Int)≤x.queue then 13 else if (tagL x.tag && x.keys.all keyL)=false then 11 else if 3 < x.keys.length∨200 < x.body.length then 6 else if x.keys.Nodup then 0 else 10
theorem right_check (x:WantD):rightW x=checkW made3 x:=by
 obtain ⟨q1,q2⟩:=queues3_eq x.topic
 unfold rightW checkW checkT
 cases h:(ofL x.topic).isEmpty with
 | false=>rw [q2 h]; rfl
 | true =>
   rw [if_neg (show ¬ (true=false) by decide),← q1 h]
   by_cases h1:queues3 x.topic=0
   · simp [h1]
   · by_cases h2:x.queue < 0∨(queues3 x.topic:Int)≤x.queue
     · simp [h1,h2]
     · simp [h1,h2]
theorem keyedT:Keyed Tryz.prog 9 (IsKey .string):=keyedS
theorem zero_int (w:World):(zeroValue 3).run Tryz.prog w=.ok (.int .i64 0) w:=by rfl
theorem map3 (w:World):∃ w1 w2 w3,(Instr.mapUpdate 95 (.map (some w.heap.size)) (.string ⟨#[97]⟩) (.int .i64 1)).run Tryz.prog (w.alloc (.map #[] 0))=.ok () w1 ∧
 (Instr.mapUpdate 95 (.map (some w.heap.size)) (.string ⟨#[98]⟩) (.int .i64 3)).run Tryz.prog w1=.ok () w2 ∧
 (Instr.mapUpdate 95 (.map (some w.heap.size)) (.string ⟨#[108,111,110,103,45,116,111,112,105,99,45,110,97,109,101,49]⟩) (.int .i64 2)).run Tryz.prog w2=.ok () w3∧Below w.heap.size w w3 ∧
 ∀ t:List UInt8,(Instr.lookup 95 (.map (some w.heap.size)) (.string (S t)) false).run Tryz.prog w3=.ok (.int .i64 (queues3 t:Int)) w3:=by
 have hm:Tryz.prog.underlying 95=some (.map 9 3):=Tryz.underlying95
 have hk:∀ s:ByteArray,IsKey .string (.string s):=fun s=>trivial
 have e1:(⟨#[97]⟩:ByteArray)=S [97]:=rfl
 have e2:(⟨#[98]⟩:ByteArray)=S [98]:=rfl
 have e3:(⟨#[108,111,110,103,45,116,111,112,105,99,45,110,97,109,101,49]⟩:ByteArray)=S [108,111,110,103,45,116,111,112,105,99,45,110,97,109,101,49]:=rfl
 rw [e1,e2,e3]
 have hi:∀ {a b:List UInt8},Value.string (S a)=Value.string (S b)→a=b:=fun h=>by injection h with h; exact OctMath.S_inj h
 have p0:=PairsAt.new w
 obtain ⟨w1,r1,p1,m1⟩:=update_new hm keyedT p0 (fun p hp=>by cases hp) (hk (S [97])) (fun p hp=>by cases hp) (.int .i64 1)
 have k1:∀ p∈([]++[(Value.string (S [97]),Value.int .i64 1)]:List (Value×Value)),IsKey .string p.1:=fun p hp=>by
  rw [List.nil_append,List.mem_singleton] at hp; subst hp; exact hk _
 obtain ⟨w2,r2,p2,m2⟩:=update_new hm keyedT p1 k1 (hk (S [98])) (fun p hp e=>by
  rw [List.nil_append,List.mem_singleton] at hp; subst hp; exact absurd (hi e) (by decide)) (.int .i64 3)
 have k2:∀ p∈([]++[(Value.string (S [97]),Value.int .i64 1)]++[(Value.string (S [98]),Value.int .i64 3)]:List (Value×Value)),IsKey .string p.1:=fun p hp=>by
  rcases List.mem_append.1 hp with h | h
  · exact k1 p h
  · rw [List.mem_singleton] at h; subst h; exact hk _
 obtain ⟨w3,r3,p3,m3⟩:=update_new hm keyedT p2 k2 (hk (S [108,111,110,103,45,116,111,112,105,99,45,110,97,109,101,49])) (fun p hp e=>by
  rcases List.mem_append.1 hp with h | h
  · rw [List.nil_append,List.mem_singleton] at h; subst h; exact absurd (hi e) (by decide)
  · rw [List.mem_singleton] at h; subst h; exact absurd (hi e) (by decide)) (.int .i64 2)
 refine ⟨w1,w2,w3,r1,r2,r3,?_,fun t=>?_⟩
 · have hm4:Mod (fun x=>x=w.heap.size) w w3:=(((Mod.of_below ((Below.refl _ w).alloc (Nat.le_refl _) (.map #[] 0))).trans m1).trans m2).trans m3
   exact hm4.to_below _ (Nat.le_refl _) fun k e=>by omega
 ·
  have k3:∀ p∈([]++[(Value.string (S [97]),Value.int .i64 1)]++[(Value.string (S [98]),Value.int .i64 3)]++[(Value.string (S [108,111,110,103,45,116,111,112,105,99,45,110,97,109,101,49]),Value.int .i64 2)]:List (Value×Value)),IsKey .string p.1:=fun p hp=>by
   rcases List.mem_append.1 hp with h | h
   · exact k2 p h
   · rw [List.mem_singleton] at h; subst h; exact hk _
  unfold queues3
  by_cases h1:t=[97]
  · subst h1; exact lookup_has hm keyedT p3 k3 (hk _) (by simp) false
  by_cases h2:t=[98]
  · subst h2; exact lookup_has hm keyedT p3 k3 (hk _) (by simp) false
  by_cases h3:t=[108,111,110,103,45,116,111,112,105,99,45,110,97,109,101,49]
  · subst h3; exact lookup_has hm keyedT p3 k3 (hk _) (by simp) false
  rw [if_neg h1,if_neg h2,if_neg h3]
  exact lookup_not hm keyedT p3 k3 (hk _) (fun p hp e=>by
   simp only [List.nil_append,List.cons_append,List.mem_cons,List.not_mem_nil,or_false] at hp
   rcases hp with rfl | rfl | rfl
   · exact h1 (hi e).symm
   · exact h2 (hi e).symm
   · exact h3 (hi e).symm) zero_int false
theorem nodup_take {ks:List (List UInt8)} {k:Nat} (h:k < ks.length):decide ((ks.take (k+1)).Nodup)=(decide ((ks.take k).Nodup) && (ks.take k).all fun y=>decide (y≠ks[k])):=by
 have hst:ks.take (k+1)=ks.take k++[ks[k]]:=List.take_succ_eq_append_getElem h
 rw [hst]
 by_cases h1:(ks.take k).Nodup
 ·
  rw [decide_eq_true h1,Bool.true_and]
  by_cases h2:ks[k]∈ks.take k
  · rw [decide_eq_false (fun h3=>nodup_snoc2 h3 h2)]
    exact (List.all_eq_false.2 ⟨ks[k],h2,by simp⟩).symm
  · rw [decide_eq_true (nodup_snoc h1 h2)]
    exact (List.all_eq_true.2 fun y hy=>by
     have h3:y≠ks[k]:=fun e=>h2 (by rw [← e]; exact hy)
     simpa using h3).symm
 · rw [decide_eq_false h1,Bool.false_and]
   exact decide_eq_false fun h3=>h1 (h3.sublist (List.sublist_append_left _ _))
theorem right_any (x:WantD) (hx:WantOk x) (a:Option Addr) (c:Nat) (hcap:x.keys.length≤c) (W:World) (hS:Strs W a (x.keys.map S)) :
 Calls Tryz.prog 15 #[.agg (cellsW x a c)] W fun e w'=>e=.returned (.int .i64 (rightW x))∧Below W.heap.size W w':=by
 have hb1:Below W.heap.size W (W.alloc (.cells (cellsW x a c) 33)):=(Below.refl _ W).alloc (Nat.le_refl _) _
 have hX1:RecW.Boxed (W.alloc (.cells (cellsW x a c) 33)) W.heap.size (cellsW x a c):=RecW.Boxed.new W _ _
 obtain ⟨v1,v2,v3,r1,r2,r3,hb3,hlk⟩:=map3 (W.alloc (.cells (cellsW x a c) 33))
 have hl:=hlk x.topic
 have HI3:Hid (Below W.heap.size W v3∧RecW.Boxed v3 W.heap.size (cellsW x a c)∧Strs v3 a (x.keys.map S)):=⟨hb1.trans (hb3.mono hb1.size),hX1.below hb3,Strs.below (Strs.below hS hb1) hb3⟩
 have hcu:(cellsW x a c).size=5:=rfl
 have HTG:=Lib.hid (fun w=>NameW.rtag_any x.tag (by have:=hx.tag; omega) w)
 have HRK:=Lib.hid (fun (t:List UInt8) (ht:t∈x.keys) w=>rkey_any t (by have:=hx.key t ht; omega) w)
 have HRW:Hid (rightW x=if queues3 x.topic=0 then 12 else if x.queue < 0∨(queues3 x.topic:Int)≤x.queue then 13 else if ((x.tag.isEmpty || plainL x.tag) && x.keys.all keyL)=false then 11 else if 3 < x.keys.length∨200 < x.body.length then 6 else if x.keys.Nodup then 0 else 10):=rfl
 have hbl:=S_size x.body
 have hkl:=hx.keys
 have hkl2:(x.keys.length:Int)≤(c:Int):=by omega
 generalize rightW x=R at *
 generalize queues3 x.topic=q3 at *
 generalize (x.tag.isEmpty || plainL x.tag)=tg at *
 have k0:v3.cell? ⟨W.heap.size,0,none⟩=some (.string (S x.topic)):=HI3.out.2.1 0 _ rfl
 have k2:v3.cell? ⟨W.heap.size,2,none⟩=some (.string (S x.tag)):=HI3.out.2.1 2 _ rfl
 clear hb1 hX1 hb3 hlk hS hx
 have hmk:∀ w:World,(Instr.makeMap 95 none).run Tryz.prog w=.ok (.map (some w.heap.size)) (w.alloc (.map #[] 0)):=fun _=>rfl
 go_enter Tryz.func15,Tryz.ntmps15
 go_upto_region 1 with fail
 generalize W.alloc (.cells (cellsW x a c) 33)=w1 at *
 clear hcu
 obtain ⟨A,hA⟩:∃ A,W.heap.size=A:=⟨_,rfl⟩
 rw [hA] at k0 k2 ⊢
 have HI3:Hid (Below W.heap.size W v3∧RecW.Boxed v3 A (cellsW x a c)∧Strs v3 a (x.keys.map S)):=hA ▸ HI3.out
 clear hA
 go_wp2_with fail
 refine (HTG.out _).mono ?_
 rintro e w3 ⟨rfl,hd3⟩
 have HI4:Hid (Below W.heap.size W w3∧RecW.Boxed w3 A (cellsW x a c)∧Strs w3 a (x.keys.map S)):=⟨HI3.out.1.trans ((hd3.below _).mono HI3.out.1.size),HI3.out.2.1.below (hd3.below _),Strs.below HI3.out.2.2 (hd3.below _)⟩
 clear hd3 HTG HI3 k0 k2 r1 r2 r3 hl hmk
 have k3:w3.cell? ⟨A,3,none⟩=some (.slice a x.keys.length c):=HI4.out.2.1 3 _ rfl
 go_wp2_with fail
 go_loopw [21,4,5] (fun i t u wr=>∃ k:Nat,k≤x.keys.length∧i=.int .i64 (k:Int)∧t=.bool (tg && (x.keys.take k).all keyL)∧u=.bool (decide (x.keys.take k).Nodup)∧Hid (Below W.heap.size W wr∧RecW.Boxed wr A (cellsW x a c)∧Strs wr a (x.keys.map S))) (fun i _ _ _=>x.keys.length+1 - (intOf i).toNat)
 case atStart=>exact ⟨0,by omega,rfl,by simp,by simp,HI4.out⟩
 case round =>
  clear k3 HI4
  obtain ⟨k,hk,rfl,rfl,rfl,HI⟩:=hrel
  have k3:wr.cell? ⟨A,3,none⟩=some (.slice a x.keys.length c):=HI.out.2.1 3 _ rfl
  by_cases hlt:k < x.keys.length
  ·
   obtain ⟨b,off,rfl,hcell⟩:=HI.out.2.2 k (by rw [List.length_map]; exact hlt)
   rw [List.getElem_map] at hcell
   have HST:Hid ((x.keys.take (k+1)).all keyL=((x.keys.take k).all keyL && keyL x.keys[k])):=by show _=_; rw [List.take_succ_eq_append_getElem hlt,List.all_append]; simp
   have HND:=Lib.hid (nodup_take hlt)
   have HPC:=Lib.hid (HRK.out x.keys[k] (List.getElem_mem hlt))
   have HJN:Hid (∀ j,j < k→∃ hj:j < x.keys.length,((x.keys.take (j+1)).all fun y=>decide (y≠x.keys[k]))=(((x.keys.take j).all fun y=>decide (y≠x.keys[k])) && decide (x.keys[j]≠x.keys[k]))):=fun j hj=>⟨by omega,by rw [List.take_succ_eq_append_getElem (by omega),List.all_append]; simp⟩
   generalize x.keys[k]=y at *
   generalize decide (x.keys.take k).Nodup=nd at *
   generalize hbb:(tg && (x.keys.take k).all keyL)=bb at *
   have HBB:Hid ((tg && (x.keys.take (k+1)).all keyL)=(bb && keyL y)):=by show _=_; rw [HST.out,← hbb,Bool.and_assoc]
   have HCL:=Lib.hid hcell
   clear hbb HST
   go_upto_region 7 with fail
   go_cut [4] (fun t wx=>t=.bool (bb && keyL y)∧Hid (Drawn wr wx))
   case first =>
    cases bb with
    | false =>
      go_wp2_with fail
      go_meet
      case rel=>exact ⟨rfl,Drawn.refl _⟩
    | true =>
      go_wp2_with fail
      refine (HPC.out _).mono ?_
      rintro e w5 ⟨rfl,hd⟩
      go_wp2_with fail
      go_meet
      case rel=>exact ⟨by simp,hd⟩
   case rest =>
   obtain ⟨rfl,HDR⟩:=hcut
   have HI5:Hid (Below W.heap.size W wc∧RecW.Boxed wc A (cellsW x (some ⟨b,off,none⟩) c)∧Strs wc (some ⟨b,off,none⟩) (x.keys.map S)):=⟨HI.out.1.trans ((HDR.out.below _).mono HI.out.1.size),HI.out.2.1.below (HDR.out.below _),Strs.below HI.out.2.2 (HDR.out.below _)⟩
   have k5:wc.cell? ⟨A,3,none⟩=some (.slice (some ⟨b,off,none⟩) x.keys.length c):=HI5.out.2.1 3 _ rfl
   have hkc:(k:Int)≤(c:Int):=by omega
   clear k3 hcell HI HCL HDR HPC
   go_wp2_with fail
   obtain ⟨w6,hw6⟩:∃ w6:World,w6=wc:=⟨_,rfl⟩
   go_loopw [36,5] (fun i u w2=>∃ j:Nat,j≤k∧i=.int .i64 (j:Int)∧u=.bool (nd && (x.keys.take j).all fun z=>decide (z≠y))∧w2=w6) (fun i _ _=>k+1 - (intOf i).toNat)
   case atStart=>exact ⟨0,Nat.zero_le _,rfl,by simp,hw6.symm⟩
   case round =>
    obtain ⟨j,hj,rfl,rfl,rfl⟩:=hrel
    subst hw6
    by_cases hjl:j < k
    ·
     obtain ⟨hjn,HJ⟩:=HJN.out j hjl
     obtain ⟨b',off',hbo,hcj⟩:=HI5.out.2.2 j (by rw [List.length_map]; exact hjn)
     cases hbo
     rw [List.getElem_map] at hcj
     have HJ2:=Lib.hid HJ
     clear HJ
     generalize x.keys[j]=z at *
     generalize hga:(nd && (x.keys.take j).all fun z=>decide (z≠y))=ga at *
     have HG:Hid ((nd && (x.keys.take (j+1)).all fun z=>decide (z≠y))=(ga && decide (z≠y))):=by show _=_; rw [HJ2.out,← hga,Bool.and_assoc]
     clear hga HJ2
     have htl:=fun t=>NameW.S_toList t
     cases ga with
     | false =>
       go_wp2_with fail
       go_roundw
       case rel=>exact ⟨j+1,by omega,by go_num,by rw [HG.out]; rfl,trivial⟩
       case measure=>simp [intOf]; omega
     | true =>
       by_cases hz:z=y
       · subst hz
         have HG2:Hid ((nd && (x.keys.take (j+1)).all fun w=>decide (w≠z))=false):=by show _=_; rw [HG.out]; simp
         clear HG
         go_wp2_with fail
         go_roundw
         case rel=>exact ⟨j+1,by omega,by go_num,by rw [HG2.out],trivial⟩
         case measure=>simp [intOf]; omega
       · have hzb:((S z).toList == (S y).toList)=false:=by rw [NameW.S_toList,NameW.S_toList]; simp [hz]
         have HG2:Hid ((nd && (x.keys.take (j+1)).all fun w=>decide (w≠y))=true):=by show _=_; rw [HG.out]; simp [hz]
         clear HG htl hz
         go_wp2_with fail
         go_roundw
         case rel=>exact ⟨j+1,by omega,by go_num,by rw [HG2.out],trivial⟩
         case measure=>simp [intOf]; omega
    ·
     obtain rfl:j=k:=by omega
     have HN2:Hid ((nd && (x.keys.take j).all fun z=>decide (z≠y))=decide (x.keys.take (j+1)).Nodup):=HND.out.symm
     clear HND hjl hj
     rw [HN2.out]
     go_wp2_with fail
     go_roundw
     case rel=>exact ⟨j+1,by omega,by go_num,by rw [HBB.out],rfl,HI5.out⟩
     case measure=>simp [intOf]; omega
  ·
   obtain rfl:k=x.keys.length:=by omega
   rw [List.take_length]
   generalize (tg && x.keys.all keyL)=nm at *
   have HDN:Hid (∀ b,decide x.keys.Nodup=b→(if x.keys.Nodup then (0:Int) else 10)=if b=true then 0 else 10):=fun b hb=>by subst hb; simp
   have HRW2:Hid (R=if q3=0 then 12 else if x.queue < 0∨(q3:Int)≤x.queue then 13 else if nm=false then 11 else if 3 < x.keys.length∨200 < x.body.length then 6 else if decide x.keys.Nodup=true then 0 else 10):=by show _=_; rw [HRW.out,HDN.out _ rfl]
   generalize decide x.keys.Nodup=nd at *
   clear HRW HDN hlt hk HRK
   have k1:wr.cell? ⟨A,1,none⟩=some (.int .i64 x.queue):=HI.out.2.1 1 _ rfl
   have k4:wr.cell? ⟨A,4,none⟩=some (.string (S x.body)):=HI.out.2.1 4 _ rfl
   by_cases h0:q3=0
   ·
    have HR:Hid (R=12):=by show _=_; rw [HRW2.out,if_pos h0]
    subst h0
    clear HRW2
    go_wp2_with fail
    go_ret
    rw [HR.out]
    exact ⟨rfl,HI.out.1⟩
   have h0i:((q3:Int) == 0)=false:=beq_eq_false_iff_ne.2 (by omega)
   by_cases h1:x.queue < 0
   ·
    have HR:Hid (R=13):=by show _=_; rw [HRW2.out,if_neg h0,if_pos (.inl h1)]
    have hd:decide (x.queue < 0)=true:=decide_eq_true h1
    clear HRW2 h1 h0
    go_wp2_with fail
    go_ret
    rw [HR.out]
    exact ⟨rfl,HI.out.1⟩
   have hd:decide (x.queue < 0)=false:=decide_eq_false h1
   by_cases h2:(q3:Int)≤x.queue
   ·
    have HR:Hid (R=13):=by show _=_; rw [HRW2.out,if_neg h0,if_pos (.inr h2)]
    have hd2:decide ((q3:Int)≤x.queue)=true:=decide_eq_true h2
    clear HRW2 h1 h2 h0
    go_wp2_with fail
    go_ret
    rw [HR.out]
    exact ⟨rfl,HI.out.1⟩
   have hd2:decide ((q3:Int)≤x.queue)=false:=decide_eq_false h2
   have HRW3:Hid (R=if nm=false then 11 else if 3 < x.keys.length∨200 < x.body.length then 6 else if nd=true then 0 else 10):=by show _=_; rw [HRW2.out,if_neg h0,if_neg (by omega)]
   clear HRW2 h1 h2 h0
   cases nm with
   | false =>
     have HR:Hid (R=11):=by show _=_; rw [HRW3.out,if_pos rfl]
     clear HRW3
     go_wp2_with fail
     go_ret
     rw [HR.out]
     exact ⟨rfl,HI.out.1⟩
   | true =>
   by_cases h3:3 < x.keys.length
   ·
    have HR:Hid (R=6):=by show _=_; rw [HRW3.out,if_neg (by decide),if_pos (.inl h3)]
    have h3i:(3:Int) < (x.keys.length:Int):=by omega
    clear HRW3 h3
    go_wp2_with fail
    go_ret
    rw [HR.out]
    exact ⟨rfl,HI.out.1⟩
   have h3i:(x.keys.length:Int)≤(3:Int):=by omega
   by_cases h4:200 < x.body.length
   ·
    have HR:Hid (R=6):=by show _=_; rw [HRW3.out,if_neg (by decide),if_pos (.inr h4)]
    have h4i:(200:Int) < ((S x.body).size:Int):=by omega
    clear HRW3 h3 h4 hbl
    go_wp2_with fail
    go_ret
    rw [HR.out]
    exact ⟨rfl,HI.out.1⟩
   have h4i:((S x.body).size:Int)≤(200:Int):=by omega
   have HRW4:Hid (R=if nd=true then 0 else 10):=by show _=_; rw [HRW3.out,if_neg (by decide),if_neg (by omega)]
   clear HRW3 h3 h4 hbl
   cases nd with
   | false =>
     go_wp2_with fail
     go_ret
     exact ⟨by rw [HRW4.out]; rfl,HI.out.1⟩
   | true =>
     go_wp2_with fail
     go_ret
     exact ⟨by rw [HRW4.out]; rfl,HI.out.1⟩
theorem made_plain:∀ y∈made3,plainL y.1=true∧y.2≤3:=by decide
def wantN:WantD:=⟨[110,111,110,101],0,[],[],[]⟩
def wantA:WantD:=⟨[97],0,[],[],[]⟩
theorem wantN_ok:WantOk wantN:=⟨⟨by decide,by decide⟩,by decide,by decide,by decide,by decide,fun t ht=>by cases ht⟩
theorem wantA_ok:WantOk wantA:=⟨⟨by decide,by decide⟩,by decide,by decide,by decide,by decide,fun t ht=>by cases ht⟩
theorem wantN_c:checkW made3 wantN=12:=by decide
theorem wantA_c:checkW made3 wantA=0:=by decide
theorem MadeI.fits {base:Nat} {W w:World} {D:DiskD} {now used:Int} {S0:StoD} {X:TabD} (h:MadeI base W w D now used S0 X):S0.T.R.e=0∧S0.T.O.recs=[]∧S0.T.D.waits.length=0:=⟨e_zero h.st.sto.tape h.its h.b,recs_zero h.st.sto.tape h.its,by rw [h.wt]; rfl⟩
theorem awake_any (W:World) (hT:Tab W) :
 Calls Tryz.prog 5 #[] W fun e w'=>e=.returned (.bool true)∧Below W.heap.size W w':=by
 have HTB:Hid (∀ w,Below W.heap.size W w→TabB W.heap.size w):=fun w hb=>⟨W,hT,Nat.le_refl _,hb⟩
 have HN1:=Lib.hid (DskW.new_any 10000 W.heap.size W (Nat.le_refl _))
 clear hT
 go_enter Tryz.func5,Tryz.ntmps5
 go_wp2_with fail
 refine HN1.out.mono ?_
 rintro e w3 ⟨D,rfl,hD,hb3,h11,h12,h13,h14,h15,h16,h17,h18⟩
 have hrm:D.room=10000:=room_new h15 (by rw [h18]; rfl)
 have HM:=Lib.hid (made_any 0 w3 hD ⟨h13,h14⟩ h15 h16 hb3.size (HTB.out w3 hb3) (by decide) (by omega))
 rw [show ((0:Nat):Int)=0 from rfl] at HM
 have HB3:=Lib.hid hb3
 have HRM:=Lib.hid hrm
 have HDF:Hid (∀ k,D.foot k→W.heap.size≤k):=fun k hk=>hD.base_le hk
 clear hD hb3 h11 h12 h13 h14 h15 h16 h17 h18 hrm HN1
 go_wp2_with fail
 refine HM.out.mono ?_
 rintro e w4 ⟨S0,X,rfl,hmi,hxl⟩
 have HMI:=Lib.hid hmi
 have HXL:=Lib.hid hxl
 have HB4:Hid (Below W.heap.size W w4):=HB3.out.trans (hmi.mod.to_below _ HB3.out.size HDF.out)
 have HS1:=Lib.hid (send_bad wantN true wantN_ok 12 (by rw [hxl]; exact wantN_c) (by decide) none 0 w4 hmi.st (by rw [hxl]; decide) (fun i hi=>absurd hi (Nat.not_lt_zero _)))
 change Hid (Calls _ _ #[_,.agg #[.string ⟨#[110,111,110,101]⟩,.int .i64 0,.string ⟨#[]⟩,.slice none 0 0,.string ⟨#[]⟩],_] _ _) at HS1
 clear hmi hxl HM
 go_wp2_with fail
 refine HS1.out.mono ?_
 rintro e w5 ⟨rfl,hb5⟩
 have HB5:Hid (Below W.heap.size W w5):=HB4.out.trans (hb5.mono HB4.out.size)
 have hmi:=HMI.out.below hb5
 obtain ⟨f1,f2,f3⟩:=hmi.fits
 have hc:checkW X.l wantA=0:=by rw [HXL.out]; exact wantA_c
 have hr:=checkW_zero (ki:=1) (due:=0) (now:=S0.now) (by rw [HXL.out]; exact made_plain) hc (.inl ⟨rfl,rfl⟩) rfl (by rw [hmi.now]; rfl)
 obtain ⟨g1,g2⟩:=fill_nil hr (by show (1:Int)≠0; decide)
 have hrl:=(rec_len hr (by show (1:Int)≠0; decide)).2
 have HS2:=Lib.hid (send_ok wantA true wantA_ok hc (by rw [HXL.out]; exact made_plain) none 0 w5 hmi.st (by rw [HXL.out]; decide) (fun i hi=>absurd hi (Nat.not_lt_zero _)) hmi.q (HTB.out w5 HB5.out) HB5.out.size (by rw [hmi.now]; rfl)
  (by rw [f1,g1]; have:=hmi.room; have:=HRM.out; show ((0+(recL _).length:Nat):Int)≤_; omega) (by rw [f3]; decide) (by omega) (by rw [f2]; decide))
 change Hid (Calls _ _ #[_,.agg #[.string ⟨#[97]⟩,.int .i64 0,.string ⟨#[]⟩,.slice none 0 0,.string ⟨#[]⟩],_] _ _) at HS2
 have HFT:Hid (∀ k,S0.foot k→W.heap.size≤k):=fun k hk=>(hmi.foot k hk).elim (HDF.out k) fun h=>by have:=HB3.out.size; omega
 generalize ((S0.T.R.e+(fillOf S0.T.R.e (recW wantA 1 0 S0.now)).length:Nat):Int)=idn at *
 clear hb5 hmi f1 f2 f3 hc hr g1 g2 hrl HS1 HMI
 go_wp2_with fail
 refine HS2.out.mono ?_
 rintro e w6 ⟨rfl,S1,hs,hp,hm⟩
 have HB6:Hid (Below W.heap.size W w6):=HB5.out.trans (hm.to_below _ HB5.out.size HFT.out)
 clear hs hp hm HS2
 go_wp2_with fail
 go_ret
 exact ⟨rfl,HB6.out⟩
theorem rec_room {e:Nat} {m:Msg} (hl:3≤roomL e) (hr:rightL m=true) (h0:m.kind≠0):(fillOf e m).length≤1024∧(recL m).length≤507:=by
 obtain ⟨l1,l2⟩:=rec_len hr h0
 have hf:=fillOf_len e m hl
 have hroom:=room_le e
 refine ⟨?_,l2⟩
 rcases hf with ⟨e,_⟩ | ⟨e,_⟩
 · rw [e]; exact Nat.zero_le _
 · omega
theorem put_full {base:Nat} {S0:StoD} (m:Msg) (sy:Bool) (hm:MsgOk m) (hr:rightL m=true) (h0:m.kind≠0) (a:Option Addr) (c:Nat) (W:World) (h:StoAt base W S0) (hS:Strs W a (m.keys.map S)) (hup:S0.T.D.down=false)
 (hroom:S0.T.D.room < (((fillOf S0.T.R.e m).length+(recL m).length:Nat):Int)) :
 Calls Tryz.prog 28 #[.pointer (some ⟨S0.blk,0,none⟩),.agg (cellsM m a c),.bool sy] W fun e w'=>e=.returned (.tuple #[.int .i64 0,.int .i64 7])∧Below W.heap.size W w' :=
 put_no 7 (by decide) m sy a c W h (Lib.hid (fun w hb=>append_no m hm hr h0 a c w (h.tape.below hb) (Strs.below hS hb) hup hroom))
theorem send_full {base:Nat} {S0:StoD} {X:TabD} (x:WantD) (sy:Bool) (hx:WantOk x) (hc:checkW X.l x=0) (hp:∀ y∈X.l,plainL y.1=true∧y.2≤3) (a:Option Addr) (c:Nat) (W:World) (h:StoTab base W S0 X) (hl:X.l.length≤1000) (hS:Strs W a (x.keys.map S)) (hup:S0.T.D.down=false)
 (hnow:badNum S0.now=false) (hroom:S0.T.D.room < (((fillOf S0.T.R.e (recW x 1 0 S0.now)).length+(recL (recW x 1 0 S0.now)).length:Nat):Int)) :
 Calls Tryz.prog 14 #[.pointer (some ⟨S0.blk,0,none⟩),.agg (cellsW x a c),.bool sy] W fun e w'=>e=.returned (.tuple #[.int .i64 0,.int .i64 7])∧Below W.heap.size W w':=by
 have hni:inI S0.now:=by
  unfold badNum at hnow
  simp only [Bool.or_eq_false_iff,decide_eq_false_iff_not] at hnow
  exact ⟨by omega,by omega⟩
 refine (send_put x sy hx hc a c W h hl hS 0 7 (fun w w'=>Below w.heap.size w w') (Lib.hid (fun (a':Option Addr) (c':Nat) (w:World) (hb:Below W.heap.size W w) (hs:Strs w a' (x.keys.map S))=>put_full (recW x 1 0 S0.now) sy (recW_ok hx (by unfold inI; decide) inI0 hni) (checkW_zero hp hc (.inl ⟨rfl,rfl⟩) rfl hnow) (by show (1:Int)≠0; decide) a' c' w (h.sto.below hb) hs hup hroom))).mono ?_
 rintro e w' ⟨he,w3,hb3,hb⟩
 exact ⟨he,hb3.trans (hb.mono hb3.size)⟩
structure FullI (W w:World) (sb db k:Nat) (S1:StoD) (X:TabD):Prop where
 st:StoTab W.heap.size w S1 X
 q:Quiet S1.T.D
 now:S1.now=0
 blk:S1.blk=sb
 db:S1.T.D.blk=db
 e:S1.T.R.e≤1531 * k
 b:S1.T.R.b=0
 rl:S1.T.O.recs.length≤k
 il:S1.T.its.length≤2 * k
 wt:S1.T.D.waits=[]
 syn:S1.T.R.synced=S1.T.R.e
 foot:∀ j,S1.foot j→W.heap.size≤j
 fl:S1.T.D.files.length≤1+2 * k
 nm:∀ p∈S1.T.D.files,p.1.length≤1000
 tb:∃ f,S1.T.D.find topicsN=some f∧f.now=CrcMath.sealed (putT made3)
 gn:S1.T.D.find groupsN=none
 bn:S1.T.D.find baseN=none
 kd:∀ p∈S1.T.O.recs,p.2.kind=1
 sz:S1.T.D.size≤1000+1531 * k
 low:Below W.heap.size W w
theorem find_only {D:DiskD} {t n:List UInt8} (h:∀ p∈D.files,p.1=t) (hn:t≠n):D.find n=none:=by
 unfold DiskD.find
 rw [List.find?_eq_none.2 (fun p hp=>by rw [h p hp]; simpa using hn)]
 rfl
theorem size_one {D:DiskD} {t:List UInt8} {f:FileD} (hl:D.files.length≤1) (hf:D.find t=some f):D.size=f.now.length:=by
 unfold DiskD.find at hf
 unfold DiskD.size
 match h:D.files with
 | []=>rw [h] at hf; cases hf
 | [p] =>
   rw [h,List.find?_cons] at hf
   split at hf
   · injection hf with hf
     rw [← hf]; simp [sizeL]
   · cases hf
 | _ :: _ :: _=>rw [h] at hl; simp at hl
theorem groups_not:∀ p,p≤99999999→groupsN≠nameL tapeH p:=not_tape fun x l e=>by cases e
theorem base_not:∀ p,p≤99999999→baseN≠nameL tapeH p:=not_tape fun x l e=>by cases e
theorem FullI.below {W w w':World} {sb db k:Nat} {S1:StoD} {X:TabD} (h:FullI W w sb db k S1 X) (hb:Below w.heap.size w w'):FullI W w' sb db k S1 X :=
 { h with st:=h.st.below hb,low:=h.low.trans (hb.mono h.low.size) }
theorem FullI.no {W w:World} {sb db k:Nat} {S1:StoD} {X:TabD} (h:FullI W w sb db k S1 X):FullI W w sb db (k+1) S1 X :=
 { h with e:=by have:=h.e; omega,rl:=by have:=h.rl; omega,il:=by have:=h.il; omega,fl:=by have:=h.fl; omega,sz:=by have:=h.sz; omega }
theorem laid_two (e:Nat) (m:Msg):(laidOf e m).length≤2:=by unfold laidOf; split <;> simp
theorem laid_cost (e:Nat) (m:Msg):(bytesL (laidOf e m)).length=(fillOf e m).length+(recL m).length:=by rw [bytes_laid,List.length_append]
theorem FullI.next {W w w2:World} {sb db k:Nat} {S1 S2:StoD} {X:TabD} {m:Msg} (h:FullI W w sb db k S1 X) (hr:rightL m=true) (hk:m.kind=1)
 (h2:StoTab W.heap.size w2 S2 X) (hp:Put w.heap.size S1 S2 m true) (hm:Mod S1.foot w w2) :
 FullI W w2 sb db (k+1) S2 X∧S2.T.D.size=S1.T.D.size+((fillOf S1.T.R.e m).length+(recL m).length):=by
 have h0:m.kind≠0:=by omega
 obtain ⟨l1,l2⟩:=rec_room (loose_e h.st.sto.tape) hr h0
 obtain ⟨_,r2,r3⟩:=put_recs h.st.sto h2.sto hp
 have hsn:=put_snoc h.st.sto h2.sto hp
 have hlen:=laid_cost S1.T.R.e m
 have hw:S2.T.D.waits=[]∧S2.T.R.synced=S2.T.R.e:=by have:=hp.waits; simpa using this
 have hsz:S2.T.D.size=S1.T.D.size+((fillOf S1.T.R.e m).length+(recL m).length):=by
  have h1:=hp.room
  have h3:=hp.cap
  unfold DiskD.room at h1
  rw [h3,hlen] at h1
  omega
 refine ⟨⟨h2,hp.quiet,by rw [hp.same]; exact h.now,by rw [hp.same]; exact h.blk,hp.dblk.trans h.db,?_,hp.b.trans h.b,?_,?_,hw.1,hw.2,fun j hj=>(hp.foot j hj).elim (h.foot j) fun h9=>by have:=h.low.size; omega,?_,fun p hp2=>?_,?_,hp.find _ groups_not h.gn,hp.find _ base_not h.bn,fun p hp2=>?_,by rw [hsz]; have:=h.sz; omega,h.low.trans (hm.to_below _ h.low.size h.foot)⟩,hsz⟩
 · have:=h.e; omega
 · have:=h.rl; omega
 · rw [hp.its,List.length_append]; have:=laid_two S1.T.R.e m; have:=h.il; omega
 · have:=hp.fl; have:=h.fl; omega
 ·
  rcases hp.nm p hp2 with h9 | ⟨q,hq,e⟩
  · have:tapeH.length=5:=rfl
    omega
  · rw [← e]; exact h.nm q hq
 · obtain ⟨f,f1,f2⟩:=h.tb
   obtain ⟨f',g1,g2⟩:=hp.keep _ f topics_not f1
   exact ⟨f',g1,g2.trans f2⟩
 ·
  rw [hsn] at hp2
  rcases List.mem_append.1 hp2 with h9 | h9
  · exact h.kd p h9
  · rw [List.mem_singleton.1 h9]; exact hk
end Go.Proofs.YtnoehodmmkioaaaGreatDoor.SndW
namespace Go.Proofs.YtnoehodmmkioaaaGreatDoor.RefW
open Go.RowKit OctMath OctW
theorem ints_any (a b:Option Addr) (c d:Nat) (xs ys:List Int) (hx:xs.length≤1048576) (hy:ys.length≤1048576) (w:World) (ha:Ints w a xs) (hb:Ints w b ys) :
 Calls Tryz.prog 17 #[.slice a xs.length c,.slice b ys.length d] w fun e w'=>e=.returned (.bool (decide (xs=ys)))∧Below w.heap.size w w':=by
 have HA:=Lib.hid ha
 have HB:=Lib.hid hb
 clear ha hb
 by_cases hl:xs.length=ys.length
 ·
  have hne:((xs.length:Int) != (ys.length:Int))=false:=by rw [hl]; simp
  have HL:=Lib.hid hl
  go_enter Tryz.func17,Tryz.ntmps17
  go_wp2_with fail
  go_loopw [5] (fun i wr=>∃ k:Nat,k≤xs.length∧i=.int .i64 (k:Int)∧Hid (xs.take k=ys.take k)∧Hid (Below w.heap.size w wr)) (fun i _=>xs.length+1 - (intOf i).toNat)
  case atStart=>exact ⟨0,by omega,rfl,rfl,Below.refl _ _⟩
  case round =>
   obtain ⟨k,hk,rfl,HE,HW⟩:=hrel
   by_cases hlt:k < xs.length
   ·
    obtain ⟨g,o,rfl,h1⟩:=(HA.out.below HW.out) k hlt
    obtain ⟨g2,o2,rfl,h2⟩:=(HB.out.below HW.out) k (by omega)
    have hkl:k < ys.length:=by omega
    have s1:xs.take (k+1)=xs.take k++[xs[k]]:=List.take_succ_eq_append_getElem hlt
    have s2:ys.take (k+1)=ys.take k++[ys[k]]:=List.take_succ_eq_append_getElem hkl
    have HS1:=Lib.hid s1
    have HS2:=Lib.hid s2
    have HX:Hid (xs=ys→xs[k]=ys[k]):=fun e=>by subst e; rfl
    clear s1 s2
    generalize xs[k]=x at *
    generalize ys[k]=y at *
    go_wp2_with fail
    have HWD:Hid (Below w.heap.size w wr.drew):=HW.out.drew
    have e1:wr.drew.cell? ⟨g,o+k,none⟩=some (.int .i64 x):=h1
    have e2:wr.drew.cell? ⟨g2,o2+k,none⟩=some (.int .i64 y):=h2
    clear h1 h2
    refine GrowM.wp_region_s (by kernel_rfl) ?_
    refine GrowM.st_grow 9 [none,none,none,none,none,none,none,none,none] (fun u v=>v=u) (by kernel_rfl) (by kernel_rfl) (fun _=>rfl) (fun _ _ _ h k=>k.trans h) ?_ ?_
    · exact GrowN.stab0 rfl
    simp only [List.take_succ_cons,List.take_zero,List.drop_succ_cons,List.drop_zero,Nat.reduceSub]
    iterate 9
     refine GrowN.g_det rfl ?_
     apply Exists.intro
     refine ⟨fun w hw hF=>?_,?_⟩
     · obtain rfl:=hw.symm
       clear hF
       go_simp
       first | exact rfl | exact ⟨rfl,rfl⟩
     go_frame
    refine GrowN.g_nil fun wz hwz hF=>?_
    obtain rfl:=hwz.symm
    clear hF
    refine GrowM.st_end rfl ?_
    by_cases hxy:x=y
    ·
     have hn:(x != y)=false:=by simp [hxy]
     have HE2:Hid (xs.take (k+1)=ys.take (k+1)):=by show _=_; rw [HS1.out,HS2.out,HE.out,hxy]
     clear hxy
     go_wp2_with fail
     go_roundw
     case rel=>exact ⟨k+1,by omega,by go_num,HE2,HWD⟩
     case measure=>simp [intOf]; omega
    ·
     have hn:(x != y)=true:=by simp [hxy]
     have HF:Hid (decide (xs=ys)=false):=decide_eq_false fun e=>hxy (HX.out e)
     clear hxy
     go_wp2_with fail
     go_ret
     rw [HF.out]
     exact ⟨rfl,HWD.out⟩
   ·
    obtain rfl:k=xs.length:=by omega
    have HT:Hid (decide (xs=ys)=true):=by
     refine decide_eq_true ?_
     have:=HE.out
     rw [List.take_length,HL.out,List.take_length] at this
     exact this
    go_wp2_with fail
    go_ret
    rw [HT.out]
    exact ⟨rfl,HW.out⟩
 ·
  have hne:((xs.length:Int) != (ys.length:Int))=true:=by simp; omega
  have HF:Hid (decide (xs=ys)=false):=decide_eq_false fun e=>hl (by rw [e])
  go_enter Tryz.func17,Tryz.ntmps17
  go_wp2_with fail
  go_ret
  rw [HF.out]
  exact ⟨rfl,Below.refl _ _⟩
end Go.Proofs.YtnoehodmmkioaaaGreatDoor.RefW
namespace Go.Proofs.YtnoehodmmkioaaaGreatDoor.SndW
open Go.RowKit Go.MapKept Go.Sort OctMath RecMath RecW DskW SegW MapG TapeW TapeMath PendW CacheW StoW TopW NameMath
theorem place_zero (l:List (Nat×Msg)):TapeW.placeL l 0=0:=by
 unfold TapeW.placeL idI
 rw [List.countP_eq_zero]
 intro i hi
 obtain ⟨y,hy,rfl⟩:=List.mem_map.1 hi
 simp
theorem ints_own {base n:Nat} {w:World} {v:Value} {l:List (Nat×Msg)} (h:w.ownsRow base 3 1 v n (idsL l)):∃ a c,v=.slice a n c∧OctW.Ints w a (l.map fun p=>(p.1:Int)):=by
 obtain ⟨a,c,hv,hr,hn⟩:=Row1.of_own h
 refine ⟨a,c,hv,fun i hi=>?_⟩
 have hi2:i < l.length:=by rw [List.length_map] at hi; exact hi
 obtain ⟨b,off,e,hc⟩:=hr i (by unfold idsL; rw [List.length_map]; exact hi2)
 refine ⟨b,off,e,?_⟩
 rw [hc]
 simp [idsL]
theorem tids_any {base:Nat} {T:TapeD} (w:World) (h:TapeAt base w T) (hl:T.O.recs.length≤1000000) :
 Calls Tryz.prog 11 #[.pointer (some ⟨T.O.blk,0,none⟩),.int .i64 0] w fun e w'=>∃ a c,e=.returned (.slice a T.O.recs.length c)∧OctW.Ints w' a (T.O.recs.map fun p=>(p.1:Int))∧Below w.heap.size w w' :=
 (ids_any 0 w h.own (by rw [h.recs]; exact (recs_sorted h.fits).2) (by omega) (place_zero _)).mono fun e w' ⟨v,he,ho,hb⟩=>by
  obtain ⟨a,c,hv,hi⟩:=ints_own ho
  exact ⟨a,c,by rw [he,hv],hi,hb⟩
end Go.Proofs.YtnoehodmmkioaaaGreatDoor.SndW
namespace Go.Proofs.YtnoehodmmkioaaaGreatDoor.StoW
open Go.RowKit Go.MapKept OctMath RecMath RecW TapeMath DskW SegW MapG TapeW PendW CacheW CqW KxW
theorem dis_ok {p:Nat×Msg} (h:rightL p.2=true) (hk:p.2.kind=1) (hid:p.1≤99999999):DisOk p:=by
 have h0:p.2.kind≠0:=by omega
 obtain ⟨r1,r2,r3,r4,r5,r6,r7,r8,r9,r10,r11⟩:=right_parts h h0
 have hc:carriesL p.2=true:=by
  unfold rightL at h
  split at h
  · cases h
  · first
    | exact (Bool.and_eq_true_iff.1 (Bool.and_eq_true_iff.1 h).1).1
    | (rw [if_pos hk] at h; exact (Bool.and_eq_true_iff.1 (Bool.and_eq_true_iff.1 h).1).1)
 have hct:NameMath.topicL p.2.topic=true∧p.2.keys.all keyL=true:=by
  unfold carriesL at hc
  simp only [Bool.and_eq_true,decide_eq_true_eq] at hc
  exact ⟨hc.1.1.1.1.1.1.1.1.1,hc.1.1.2⟩
 have hl:=(rec_len h h0).2
 refine ⟨⟨hid,by omega,r3,hct.1,by omega,⟨p.2.queue.toNat,by omega,by omega⟩⟩,.inl hk,fun k hk2=>⟨List.all_eq_true.1 hct.2 k hk2,by have:=r11 k hk2; omega⟩,by omega,by omega⟩
theorem keysN_le:∀ (l:List (Nat×Msg)),(∀ p∈l,p.2.keys.length≤3)→keysN l≤3 * l.length
 | [],_=>Nat.le_refl _
 | p :: l,h=>by
   have ih:=keysN_le l fun x hx=>h x (.tail _ hx)
   have h1:=h p (.head _)
   rw [keysN_cons,List.length_cons]
   omega
end Go.Proofs.YtnoehodmmkioaaaGreatDoor.StoW
namespace Go.Proofs.YtnoehodmmkioaaaGreatDoor.SndW
open Go.RowKit Go.MapKept Go.Sort OctMath RecMath RecW DskW SegW MapG TapeW TapeMath PendW CacheW StoW TopW NameMath CqW KxW
theorem get_made:getT (putT made3)=(made3,true):=by decide
theorem hall_msgs {base kb b7:Nat} {T:TapeD} {C:CqD} {D' D2:DiskD} (w:World) (hf2:D2.files=[]) (hw2:D2.waits=[]) (hr2:100000≤D2.room) (hl:T.O.recs.length≤1000) (hk:∀ p∈T.O.recs,p.2.kind=1) (he:T.R.e≤99999999) (hb:T.R.b=0)
 (a1:TapeAt base w T) (a4:T.R.synced=T.R.e) (a5:Quiet T.D) (a6:TabB base w) (a7:base≤w.heap.size) (a8:CqAt base w C) (a9:C.qs=[]) (b1:C.db=D'.blk) (b2:DiskAt base w D') (b3:Grows D2 D' [xlinks,xslots,wslots,wmarks] 120 2) (b4:∀ k,C.foot k→¬ D'.foot k) (b5:∀ k,T.foot k→¬ C.foot k∧¬ D'.foot k∧k≠kb) (b6:¬ T.foot b7∧¬ C.foot b7∧¬ D'.foot b7∧kb≠b7) (c1:KxAt base w ⟨kb,0⟩ D') (c2:¬ C.foot kb) (c3:base≤b7)
 (hc:w.heap[b7]?=some (.cells #[.pointer (some ⟨T.O.blk,0,none⟩),.pointer (some ⟨C.blk,0,none⟩),.pointer (some ⟨kb,0,none⟩),.int .i64 (T.R.b:Int)] 164 (0,0))) :
 Calls Tryz.prog 18 #[.pointer (some ⟨b7,0,none⟩)] w fun e w'=>∃ n:Int,e=.returned (.tuple #[.int .i64 n,.int .i64 0])∧True∧Mod (fun k=>(C.foot k∨D'.foot k∨k=kb)∨k=b7) w w':=by
 have hI:=dis_nil a8 a9 b1 b2 hf2 hw2 b3 b4 c1 c2
 have hp:∀ p∈T.O.recs,rightL p.2=true∧p.1+(recL p.2).length≤T.R.e:=fun p hp=>by
  obtain ⟨g1,_,_,g4,_⟩:=lies_rec a1 (id:=p.1) (m:=p.2) hp
  exact ⟨g1,g4⟩
 have hkn:keysN T.O.recs≤3 * T.O.recs.length:=keysN_le _ fun p hp2=>(right_parts (hp p hp2).1 (by have:=hk p hp2; omega)).2.2.2.2.2.2.2.2.2.1
 refine (dis_all (X:=⟨kb,0⟩) (T.R.b:Int) w a1 a6 a7 a5.up (by omega) (fun p hp2=>⟨dis_ok (hp p hp2).1 (hk p hp2) (by have:=(hp p hp2).2; omega),by have:=(hp p hp2).2; have:=rec_pos p.2; omega⟩) c3 b6.1 hc (fun p _=>by rw [hb]; omega) hI (fun h=>?_) (fun k h h9=>?_) (by have:=b3.room; omega) (by omega)).mono ?_
 ·
  rcases h with h | h | h
  · exact b6.2.1 h
  · exact b6.2.2.1 h
  · exact b6.2.2.2 h.symm
 ·
  rcases h with h | h | h
  · exact (b5 k h9).1 h
  · exact (b5 k h9).2.1 h
  · exact (b5 k h9).2.2 h
 · rintro e w' ⟨h1,C',D9,X',d',g,_⟩
   exact ⟨_,h1,trivial,g.mod⟩
theorem reopen_any {W w:World} {sb db k:Nat} {S1:StoD} {X:TabD} (h:FullI W w sb db k S1 X) (hk:k≤1000) (hT:TabB W.heap.size w) {D2:DiskD} (h2:DiskAt W.heap.size w D2) (hq2:Quiet D2) (hf2:D2.files=[]) (hr2:100000≤D2.room) (hw2:D2.waits=[]) (hd2:∀ k,D2.foot k→¬ S1.foot k∧W.heap.size≤k) :
 Calls Tryz.prog 16 #[.pointer (some ⟨db,0,none⟩),.pointer (some ⟨D2.blk,0,none⟩),.int .i64 0] w fun e w'=>∃ S2,e=.returned (.tuple #[.pointer (some ⟨S2.blk,0,none⟩),.int .i64 0])∧StoAt W.heap.size w' S2∧S2.T.O.recs=S1.T.O.recs∧OwnAt W.heap.size w' S1.T.O∧w'.cell? ⟨sb,0,none⟩=some (.pointer (some ⟨S1.T.O.blk,0,none⟩))∧Below W.heap.size W w':=by
 have ht:=h.st.sto.tape
 have hTf:∀ k,S1.T.foot k→S1.foot k:=fun k hk=>.inr (.inl hk)
 have hDf:∀ k,S1.T.D.foot k→S1.foot k:=fun k hk=>hTf k (.inr (.inl hk))
 obtain ⟨f,f1,f2⟩:=h.tb
 have he:=h.e
 have hO:=sopen_any (R:=S1.T.R) (its:=S1.T.its) (tl:=made3) (Post:=fun _ _ _ _ _ _ _=>True) 0 w ht.whole.laid ht.whole.dsk h.q (by have:=h.fl; omega) (fun p hp=>by have:=h.nm p hp; omega) h.low.size hT ht.head ht.size ht.txt ht.fits (by have:=h.il; omega) h.wt
  (.inr ⟨putT made3,f,f1,f2,by decide,get_made⟩) h.gn h.bn h2 hq2 hf2 (by omega) hw2 (fun k hk h9=>(hd2 k h9).1 (hDf k hk)) (by omega) (fun p hp=>by rw [← ht.recs] at hp; have:=h.kd p hp; omega) (by rw [← ht.recs]; have:=h.rl; omega)
  (fun T C D' kb w b7 a1 a2 a3 a4 a5 a6 a7 a8 a9 b1 b2 b3 b4 b5 b6 c1 c2 c3 hc=>by
   have hr:T.O.recs=S1.T.O.recs:=by rw [a1.recs,a2,a3,← ht.recs]
   have hte:T.R.e=S1.T.R.e:=by rw [bytes_e a1,bytes_e ht,a2,a3]
   exact hall_msgs w hf2 hw2 hr2 (by rw [hr]; have:=h.rl; omega) (by rw [hr]; exact h.kd) (by rw [hte]; omega) (by rw [a3]; exact h.b) a1 a4 a5 a6 a7 a8 a9 b1 b2 b3 b4 b5 b6 c1 c2 c3 hc)
  (fun _ _ _ _ _ _ _ _ _ _ _ _=>trivial)
 rw [h.db] at hO
 refine hO.mono ?_
 rintro e w' ⟨S2,C,D',kb,b7,w0,x1,x2,x3,x4,_,x5,x6,x7,x8,x9,y1,y2,yf,_,_,hm,y5⟩
 have hfD:∀ k,S1.T.D.foot k∨D2.foot k→W.heap.size≤k:=fun k hk=>hk.elim (fun h9=>h.foot k (hDf k h9)) fun h9=>(hd2 k h9).2
 refine ⟨S2,x1,x2,by rw [x2.tape.recs,x5,x6,← ht.recs],ht.own.mod hm (fun k hk h9=>h9.elim (ht.away k hk).1 fun h9=>(hd2 k h9).1 (hTf k (.inl hk))),?_,h.low.trans (hm.to_below _ h.low.size hfD)⟩
 have c0:w.cell? ⟨S1.blk,0,none⟩=some (.pointer (some ⟨S1.T.O.blk,0,none⟩)):=h.st.sto.cell 0 _ rfl
 rw [h.blk] at c0
 rw [hm.cell (p:=⟨sb,0,none⟩) (by have:=h.st.sto.lt (k:=S1.blk) (.inl rfl); rw [h.blk] at this; exact this) (fun h9=>?_)]
 · exact c0
 ·
  have h9:S1.T.D.foot sb∨D2.foot sb:=h9
  rcases h9 with h9 | h9
  · exact (h.st.sto.away.1 sb (.inr (.inl h9))).1 h.blk.symm
  · exact (hd2 sb h9).1 (.inl h.blk.symm)
theorem sendfull_any (cp:Int) (hcp0:0≤cp∧cp≤65535) (ws:List (WantD×Option Addr×Nat)) (a0:Option Addr) (c0:Nat) (W:World) (hT:Tab W) (hR:WantRow W a0 ws) (hI:∀ p∈ws,inI p.1.queue) (hcap:∀ p∈ws,p.1.keys.length≤p.2.2) (hl:ws.length≤9223372036854775807) :
 Calls Tryz.prog 3 #[.int .u16 cp,.slice a0 ws.length c0] W fun e w'=>e=.returned (.bool true)∧Below W.heap.size W w':=by
 have hcw:IntKind.i64.wrap cp=cp:=IntWalk.i64_in _ (by omega)
 have hrm1:0≤cp % 3000∧cp % 3000 < 3000:=by omega
 have HAW:=Lib.hid (awake_any W hT)
 have HTB:Hid (∀ w,Below W.heap.size W w→TabB W.heap.size w):=fun w hb=>⟨W,hT,Nat.le_refl _,hb⟩
 have HH:=Lib.hid hR
 have HI:=Lib.hid hI
 have HCP:=Lib.hid hcap
 clear hT hR hI hcap
 go_enter Tryz.func3,Tryz.ntmps3
 go_wp2_with fail
 refine HAW.out.mono ?_
 rintro e w1 ⟨rfl,hb1⟩
 have HB1:=Lib.hid hb1
 clear hb1 HAW
 by_cases h20:30 < ws.length
 ·
  have h20':(30:Int) < (ws.length:Int):=by omega
  go_wp2_with fail
  go_ret
  exact ⟨rfl,HB1.out⟩
 have h20':(ws.length:Int)≤(30:Int):=by omega
 have HGR:=Lib.hid (great_any ws a0 c0 w1 (HH.out.below HB1.out) (by omega))
 go_wp2_with fail
 refine HGR.out.mono ?_
 rintro e w2 ⟨rfl,hb2⟩
 have HB2:=Lib.hid (HB1.out.trans (hb2.mono HB1.out.size))
 clear hb2 HGR HB1
 obtain ⟨gr,hgr⟩:∃ gr,gr=ws.any fun p=>greatX p.1:=⟨_,rfl⟩
 rw [← hgr]
 cases gr with
 | true =>
   clear hgr
   go_wp2_with fail
   go_ret
   exact ⟨rfl,HB2.out⟩
 | false =>
 have HNG:Hid (∀ p∈ws,WantOk p.1∧p.1.topic.length≤100∧p.1.body.length≤1000∧p.1.keys.length≤10):=fun p hp=>want_ok (HI.out p hp) (by
  have:=List.any_eq_false.1 hgr.symm p hp
  simpa using this)
 clear hgr
 have HN1:=Lib.hid (DskW.new_any (500+cp % 3000) W.heap.size w2 HB2.out.size)
 go_wp2_with fail
 refine HN1.out.mono ?_
 rintro e w3 ⟨D,rfl,hD,hb3,h11,h12,h13,h14,h15,h16,h17,h18⟩
 have hrm:D.room=500+cp % 3000:=room_new h15 (by rw [h18]; omega)
 have HB3:Hid (Below W.heap.size W w3):=HB2.out.trans (hb3.mono HB2.out.size)
 have HM:=Lib.hid (made_any 0 w3 hD ⟨h13,h14⟩ h15 h16 HB3.out.size (HTB.out w3 HB3.out) (by decide) (by omega))
 rw [show ((0:Nat):Int)=0 from rfl] at HM
 have HDF:Hid (∀ k,D.foot k→W.heap.size≤k):=fun k hk=>hD.base_le hk
 clear hD hb3 h11 h12 h13 h14 h15 h16 h17 h18 hrm HN1 HB2 hcw hrm1
 go_wp2_with fail
 refine HM.out.mono ?_
 rintro e w4 ⟨S0,X,rfl,hmi,hxl⟩
 have HXL:=Lib.hid hxl
 have HB4:Hid (Below W.heap.size W w4):=HB3.out.trans (hmi.mod.to_below _ HB3.out.size HDF.out)
 have hft:∀ k,S0.foot k→W.heap.size≤k:=fun k hk=>(hmi.foot k hk).elim (HDF.out k) fun h=>by have:=HB3.out.size; omega
 obtain ⟨f1,f2,f3⟩:=hmi.fits
 have htb:=hmi.tb.resolve_left (by rw [hxl]; decide)
 rw [hxl] at htb
 have HS4:Hid (FullI W w4 S0.blk D.blk 0 S0 X):=⟨hmi.st,hmi.q,hmi.now,rfl,hmi.db,by rw [f1]; exact Nat.zero_le _,hmi.b,by rw [f2]; exact Nat.zero_le _,by rw [hmi.its]; exact Nat.zero_le _,hmi.wt,hmi.syn,hft,by have:=hmi.fl; omega,fun p hp=>by rw [hmi.files p hp]; decide,htb,find_only hmi.files (by decide),find_only hmi.files (by decide),fun p hp=>(by rw [f2] at hp; cases hp),by obtain ⟨f,g1,g2⟩:=htb; rw [size_one hmi.fl g1,g2,CrcMath.sealed_length]; decide,HB4.out⟩
 clear hmi hxl HM hft f1 f2 f3 HDF HB3 HB4 htb
 generalize S0.blk=sb at *
 generalize D.blk=db at *
 go_wp2_with fail
 go_loopw [42] (fun i wr=>∃ k:Nat,k≤ws.length∧i=.int .i64 (k:Int)∧∃ S1,Hid (FullI W wr sb db k S1 X)) (fun i _=>ws.length - (intOf i).toNat)
 case atStart=>exact ⟨0,Nat.zero_le _,rfl,S0,HS4⟩
 case round =>
  clear HS4
  obtain ⟨k,hk,rfl,S1,HS⟩:=hrel
  obtain ⟨wA,rfl⟩:∃ wA:World,wA=wr:=⟨_,rfl⟩
  by_cases hlt:k < ws.length
  ·
   obtain ⟨g,off,rfl,hcell,hkeys⟩:=(HH.out.below HS.out.low) k hlt
   have hwo:=(HNG.out ws[k] (List.getElem_mem hlt)).1
   have hcp:=HCP.out ws[k] (List.getElem_mem hlt)
   obtain ⟨p,hp⟩:∃ p,ws[k]=p:=⟨_,rfl⟩
   rw [hp] at hcell hkeys hwo hcp
   have hsw:∀ w,Below W.heap.size W w→Strs w p.2.1 (p.1.keys.map S):=fun w hb=>by
    obtain ⟨g2,off2,e2,h2,hk2⟩:=(HH.out.below hb) k hlt
    rw [hp] at hk2
    exact hk2
   clear hp
   obtain ⟨x,a,c⟩:=p
   have HSW:=Lib.hid hsw
   clear hsw
   dsimp only at HSW hcell hkeys hwo hcp
   have k0:wA.cell? ⟨g,off+k * 5,none⟩=some (.string (S x.topic)):=hcell 0 _ rfl
   have k1:wA.cell? ⟨g,off+k * 5+1,none⟩=some (.int .i64 x.queue):=hcell 1 _ rfl
   have k2:wA.cell? ⟨g,off+k * 5+2,none⟩=some (.string (S x.tag)):=hcell 2 _ rfl
   have k3:wA.cell? ⟨g,off+k * 5+3,none⟩=some (.slice a x.keys.length c):=hcell 3 _ rfl
   have k4:wA.cell? ⟨g,off+k * 5+4,none⟩=some (.string (S x.body)):=hcell 4 _ rfl
   have hba:Below wA.heap.size wA (wA.alloc (.cells #[.string (S x.topic),.int .i64 x.queue,.string (S x.tag),.slice a x.keys.length c,.string (S x.body)] 33)):=(Below.refl _ wA).alloc (Nat.le_refl _) _
   have hc2:=heap_alloc_new wA (.cells #[.string (S x.topic),.int .i64 x.queue,.string (S x.tag),.slice a x.keys.length c,.string (S x.body)] 33)
   have HQ5:Hid (FullI W (wA.alloc (.cells #[.string (S x.topic),.int .i64 x.queue,.string (S x.tag),.slice a x.keys.length c,.string (S x.body)] 33)) sb db k S1 X):=HS.out.below hba
   have HST:=Lib.hid (Strs.below hkeys hba)
   have HFA:Hid (∀ j,S1.foot j→j < wA.heap.size):=fun j hj=>HS.out.st.sto.lt hj
   clear hcell hkeys hba HS
   go_upto_region 12 with fail
   clear k0 k1 k2 k3 k4
   generalize wA.alloc (.cells #[.string (S x.topic),.int .i64 x.queue,.string (S x.tag),.slice a x.keys.length c,.string (S x.body)] 33)=w5 at *
   obtain ⟨A,hA⟩:∃ A,wA.heap.size=A:=⟨_,rfl⟩
   rw [hA] at hc2 HFA ⊢
   have HAL:=Lib.hid (Array.getElem?_eq_some_iff.1 hc2).1
   have HK:Hid (∀ w,Below w5.heap.size w5 w→RecW.Boxed w A #[.string (S x.topic),.int .i64 x.queue,.string (S x.tag),.slice a x.keys.length c,.string (S x.body)]):=fun w hb i v hv=>cell_at (heap_below hb hc2) i v hv
   have HSS:Hid (∀ w,Below w5.heap.size w5 w→Strs w a (x.keys.map S)):=fun w hb=>Strs.below HST.out hb
   have HQ:Hid (∀ w,Below w5.heap.size w5 w→FullI W w sb db k S1 X):=fun w hb=>HQ5.out.below hb
   clear hA hc2 HST HQ5
   have HC0:Hid (∀ w,Below w5.heap.size w5 w→w.cell? ⟨sb,0,none⟩=some (.pointer (some ⟨S1.T.O.blk,0,none⟩))):=fun w hb=>by rw [← (HQ.out w hb).blk]; exact (HQ.out w hb).st.sto.cell 0 _ rfl
   have HEN:Hid (∀ w,Below w5.heap.size w5 w→Calls Tryz.prog 9 #[.pointer (some ⟨S1.T.O.blk,0,none⟩)] w fun e w'=>e=.returned (.int .i64 (S1.T.R.e:Int))∧RecW.ExtR w w'):=fun w hb=>(TapeW.end_any w (HQ.out w hb).st.sto.tape).mono fun e w' h=>⟨h.1,h.2 ▸ RecW.ExtR.refl _⟩
   have HSZ:Hid (∀ w,Below w5.heap.size w5 w→Calls Tryz.prog 10 #[.pointer (some ⟨db,0,none⟩)] w fun e w'=>e=.returned (.int .i64 (S1.T.D.size:Int))∧RecW.ExtR w w'):=fun w hb=>by rw [← (HQ.out w hb).db]; exact DskW.size_any w (HQ.out w hb).st.sto.tape.whole.dsk
   have HID:Hid (∀ w,Below w5.heap.size w5 w→Calls Tryz.prog 11 #[.pointer (some ⟨S1.T.O.blk,0,none⟩),.int .i64 0] w fun e w'=>∃ a c,e=.returned (.slice a S1.T.O.recs.length c)∧OctW.Ints w' a (S1.T.O.recs.map fun p=>(p.1:Int))∧Below w.heap.size w w'):=fun w hb=>tids_any w (HQ.out w hb).st.sto.tape (by have:=(HQ.out w hb).rl; omega)
   have DR:Hid (∀ w,RecW.ExtR w5.drew w→Below w5.heap.size w5 w):=fun w hw=>((Below.refl w5.heap.size w5).drew).trans hw
   refine GrowN.wp_region_n 16 [none,none,none,none,some (.inl (.int .i64 (S1.T.R.e:Int))),none,some (.inl (.int .i64 (S1.T.D.size:Int))),none,none,none,none,some (.inr (fun _ v w=>∃ a9 c9,v=.slice a9 S1.T.O.recs.length c9)),some (.inl (.int .i64 (S1.T.O.recs.length:Int))),none,none,none] (RecW.ExtR) (by kernel_rfl) (by kernel_rfl) (by kernel_rfl) (RecW.ExtR.refl) (fun _ _ _=>RecW.ExtR.trans) ?_ ?_
   · intro K hK Y hY l v w w' hR h
     simp only [List.mem_cons,List.not_mem_nil,or_false] at hK
     rcases hK with rfl | rfl | rfl | rfl | rfl | rfl | rfl | rfl | rfl | rfl | rfl | rfl | rfl | rfl | rfl | rfl <;> simp only [reduceCtorEq,Option.some.injEq,Sum.inr.injEq] at hY
     subst hY; exact h
   simp only [List.take_succ_cons,List.take_zero,List.drop_succ_cons,List.drop_zero]
   iterate 3
    refine GrowN.g_det rfl ?_
    apply Exists.intro
    refine ⟨fun w hw hF=>?_,?_⟩
    · clear hF
      go_simp
      exact ⟨rfl,RecW.ExtR.refl _⟩
    go_frame
   refine GrowN.g_det rfl ?_
   apply Exists.intro
   refine ⟨fun w hw hF=>?_,?_⟩
   · clear hF
     have c0:=HC0.out w (DR.out w hw)
     go_simp
     exact ⟨rfl,RecW.ExtR.refl _⟩
   go_frame
   refine GrowN.g_con rfl (fun w hw hF=>?_) ?_
   · clear hF
     go_simp
     exact (HEN.out w (DR.out w hw)).mono fun e w3 h=>⟨_,h.1,rfl,h.2⟩
   go_frame
   refine GrowN.g_det rfl ?_
   apply Exists.intro
   refine ⟨fun w hw hF=>?_,?_⟩
   · clear hF
     go_simp
     exact ⟨rfl,RecW.ExtR.refl _⟩
   go_frame
   refine GrowN.g_con rfl (fun w hw hF=>?_) ?_
   · clear hF
     go_simp
     exact (HSZ.out w (DR.out w hw)).mono fun e w3 h=>⟨_,h.1,rfl,h.2⟩
   iterate 3
    go_frame
    refine GrowN.g_det rfl ?_
    apply Exists.intro
    refine ⟨fun w hw hF=>?_,?_⟩
    · clear hF
      go_simp
      exact ⟨rfl,RecW.ExtR.refl _⟩
   go_frame
   refine GrowN.g_det rfl ?_
   apply Exists.intro
   refine ⟨fun w hw hF=>?_,?_⟩
   · clear hF
     have c0:=HC0.out w (DR.out w hw)
     go_simp
     exact ⟨rfl,RecW.ExtR.refl _⟩
   go_frame
   refine GrowN.g_new rfl (fun w hw hF=>?_) (fun v11=>?_)
   · clear hF
     go_simp
     exact (HID.out w (DR.out w hw)).mono fun e w3 ⟨a9,c9,h1,_,h3⟩=>⟨_,h1,⟨a9,c9,rfl⟩,h3⟩
   go_frame
   refine GrowN.g_con rfl (fun w hw hF=>?_) ?_
   · obtain ⟨a9,c9,rfl⟩:=hF _ (.head _) (by kernel_rfl)
     clear hF
     go_simp
     exact RecW.ExtR.refl _
   iterate 3
    go_frame
    refine GrowN.g_det rfl ?_
    apply Exists.intro
    refine ⟨fun w hw hF=>?_,?_⟩
    · clear hF
      go_simp
      exact ⟨rfl,RecW.ExtR.refl _⟩
   go_frame
   refine GrowN.g_nil fun w6 hw6 hF=>?_
   clear hF
   have HB6:=Lib.hid (DR.out w6 hw6)
   clear hw6 DR
   go_upto_region 13 with fail
   have DR:Hid (∀ w,RecW.ExtR w6.drew w→Below w5.heap.size w5 w):=fun w hw=>HB6.out.trans ((((Below.refl w6.heap.size w6).drew).trans hw).mono HB6.out.size)
   have HCO:Hid (∀ w,Below w5.heap.size w5 w→Calls Tryz.prog 12 #[.pointer (some ⟨S1.T.O.blk,0,none⟩),.agg #[.int .i64 1,.int .i64 x.queue,.int .i64 0,.int .i64 0,.int .i64 0,.int .i64 0,.string (S x.topic),.string (S x.tag),.string (S x.body),.slice a x.keys.length c]] w fun e w'=>e=.returned (.int .i64 (costL S1.T.R.e (recW x 1 0 0):Int))∧RecW.ExtR w w'):=fun w hb=>cost_any (recW x 1 0 0) (recW_ok hwo (by unfold inI; decide) inI0 inI0) a c w (HQ.out w hb).st.sto.tape (HSS.out w hb)
   refine GrowN.wp_region_n 17 [none,none,none,none,none,none,none,none,none,none,none,none,none,none,none,some (.inl (.int .i64 (costL S1.T.R.e (recW x 1 0 0):Int))),none] (RecW.ExtR) (by kernel_rfl) (by kernel_rfl) (by kernel_rfl) (RecW.ExtR.refl) (fun _ _ _=>RecW.ExtR.trans) ?_ ?_
   · exact GrowN.stab0 rfl
   simp only [List.take_succ_cons,List.take_zero,List.drop_succ_cons,List.drop_zero]
   iterate 3
    refine GrowN.g_det rfl ?_
    apply Exists.intro
    refine ⟨fun w hw hF=>?_,?_⟩
    · clear hF
      go_simp
      exact ⟨rfl,RecW.ExtR.refl _⟩
    go_frame
   refine GrowN.g_det rfl ?_
   apply Exists.intro
   refine ⟨fun w hw hF=>?_,?_⟩
   · clear hF
     have c0:=HC0.out w (DR.out w hw)
     go_simp
     exact ⟨rfl,RecW.ExtR.refl _⟩
   go_frame
   refine GrowN.g_det rfl ?_
   apply Exists.intro
   refine ⟨fun w hw hF=>?_,?_⟩
   · clear hF
     go_simp
     exact ⟨rfl,RecW.ExtR.refl _⟩
   go_frame
   refine GrowN.g_det rfl ?_
   apply Exists.intro
   refine ⟨fun w hw hF=>?_,?_⟩
   · clear hF
     have k0:=HK.out w (DR.out w hw) 0 _ rfl
     go_simp
     exact ⟨rfl,RecW.ExtR.refl _⟩
   go_frame
   refine GrowN.g_det rfl ?_
   apply Exists.intro
   refine ⟨fun w hw hF=>?_,?_⟩
   · clear hF
     go_simp
     exact ⟨rfl,RecW.ExtR.refl _⟩
   go_frame
   refine GrowN.g_det rfl ?_
   apply Exists.intro
   refine ⟨fun w hw hF=>?_,?_⟩
   · clear hF
     have k1:=HK.out w (DR.out w hw) 1 _ rfl
     go_simp
     exact ⟨rfl,RecW.ExtR.refl _⟩
   go_frame
   refine GrowN.g_det rfl ?_
   apply Exists.intro
   refine ⟨fun w hw hF=>?_,?_⟩
   · clear hF
     go_simp
     exact ⟨rfl,RecW.ExtR.refl _⟩
   go_frame
   refine GrowN.g_det rfl ?_
   apply Exists.intro
   refine ⟨fun w hw hF=>?_,?_⟩
   · clear hF
     have k2:=HK.out w (DR.out w hw) 2 _ rfl
     go_simp
     exact ⟨rfl,RecW.ExtR.refl _⟩
   go_frame
   refine GrowN.g_det rfl ?_
   apply Exists.intro
   refine ⟨fun w hw hF=>?_,?_⟩
   · clear hF
     go_simp
     exact ⟨rfl,RecW.ExtR.refl _⟩
   go_frame
   refine GrowN.g_det rfl ?_
   apply Exists.intro
   refine ⟨fun w hw hF=>?_,?_⟩
   · clear hF
     have k3:=HK.out w (DR.out w hw) 3 _ rfl
     go_simp
     exact ⟨rfl,RecW.ExtR.refl _⟩
   go_frame
   refine GrowN.g_det rfl ?_
   apply Exists.intro
   refine ⟨fun w hw hF=>?_,?_⟩
   · clear hF
     go_simp
     exact ⟨rfl,RecW.ExtR.refl _⟩
   go_frame
   refine GrowN.g_det rfl ?_
   apply Exists.intro
   refine ⟨fun w hw hF=>?_,?_⟩
   · clear hF
     have k4:=HK.out w (DR.out w hw) 4 _ rfl
     go_simp
     exact ⟨rfl,RecW.ExtR.refl _⟩
   go_frame
   refine GrowN.g_det rfl ?_
   apply Exists.intro
   refine ⟨fun w hw hF=>?_,?_⟩
   · clear hF
     go_simp
     exact ⟨rfl,RecW.ExtR.refl _⟩
   go_frame
   refine GrowN.g_con rfl (fun w hw hF=>?_) ?_
   · clear hF
     go_simp
     exact (HCO.out w (DR.out w hw)).mono fun e w3 h=>⟨_,h.1,rfl,h.2⟩
   go_frame
   refine GrowN.g_det rfl ?_
   apply Exists.intro
   refine ⟨fun w hw hF=>?_,?_⟩
   · clear hF
     go_simp
     exact ⟨rfl,RecW.ExtR.refl _⟩
   go_frame
   refine GrowN.g_nil fun w7 hw7 hF=>?_
   clear hF
   have HB7:=Lib.hid (DR.out w7 hw7)
   clear hw7 DR HCO
   have HRO:=Lib.hid (DskW.room_any w7 (HQ.out w7 HB7.out).st.sto.tape.whole.dsk)
   rw [(HQ.out w7 HB7.out).db] at HRO
   go_wp2_with fail
   refine HRO.out.mono ?_
   rintro e w8 ⟨rfl,hb8⟩
   have HB8:=Lib.hid (HB7.out.trans (hb8.mono HB7.out.size))
   clear hb8 HRO
   have hxp:=made_plain
   have HQ8:=Lib.hid (HQ.out w8 HB8.out)
   have hse:((S1.T.R.e:Int) != (S1.T.R.e:Int))=false:=by simp
   have hss:((S1.T.D.size:Int) != (S1.T.D.size:Int))=false:=by simp
   have hsl:((S1.T.O.recs.length:Int) != (S1.T.O.recs.length:Int))=false:=by simp
   by_cases hck:checkW made3 x=0
   ·
    have hr:=checkW_zero (ki:=1) (due:=0) (now:=0) made_plain hck (.inl ⟨rfl,rfl⟩) rfl (by decide)
    obtain ⟨ct,hct⟩:∃ ct:Nat,ct=(fillOf S1.T.R.e (recW x 1 0 0)).length+(recL (recW x 1 0 0)).length:=⟨_,rfl⟩
    have hcost:costL S1.T.R.e (recW x 1 0 0)=ct:=by unfold costL; rw [if_pos ⟨hr,by show (1:Int)≠0; decide⟩,hct]
    rw [hcost]
    by_cases hfit:S1.T.D.room < (ct:Int)
    ·
     have HSE:=Lib.hid (send_full x true hwo (by rw [HXL.out]; exact hck) (by rw [HXL.out]; exact made_plain) a c w8 HQ8.out.st (by rw [HXL.out]; decide) (HSS.out w8 HB8.out) HQ8.out.q.up (by rw [HQ8.out.now]; decide) (by rw [HQ8.out.now,← hct]; exact hfit))
     rw [show cellsW x a c=#[.string (S x.topic),.int .i64 x.queue,.string (S x.tag),.slice a x.keys.length c,.string (S x.body)] from rfl,HQ8.out.blk] at HSE
     clear hr hct hcost
     have k0:=HK.out w8 (HB8.out) 0 _ rfl
     have k1:=HK.out w8 (HB8.out) 1 _ rfl
     have k2:=HK.out w8 (HB8.out) 2 _ rfl
     have k3:=HK.out w8 (HB8.out) 3 _ rfl
     have k4:=HK.out w8 (HB8.out) 4 _ rfl
     go_wp2_with fail
     refine HSE.out.mono ?_
     rintro e w9 ⟨rfl,hb9⟩
     have HB9:=Lib.hid (HB8.out.trans (hb9.mono HB8.out.size))
     clear hb9 HSE HQ8 k0 k1 k2 k3 k4
     have k0:=HK.out w9 (HB9.out) 0 _ rfl
     have k1:=HK.out w9 (HB9.out) 1 _ rfl
     have k2:=HK.out w9 (HB9.out) 2 _ rfl
     have k3:=HK.out w9 (HB9.out) 3 _ rfl
     have k4:=HK.out w9 (HB9.out) 4 _ rfl
     have HRI:=Lib.hid (right_any x hwo a c hcp w9 (HSS.out w9 HB9.out))
     rw [show cellsW x a c=#[.string (S x.topic),.int .i64 x.queue,.string (S x.tag),.slice a x.keys.length c,.string (S x.body)] from rfl,right_check,hck] at HRI
     go_wp2_with fail
     refine HRI.out.mono ?_
     rintro e wz ⟨rfl,hbz⟩
     have HBZ:=Lib.hid (HB9.out.trans (hbz.mono HB9.out.size))
     clear hbz HRI k0 k1 k2 k3 k4
     have c0':=HC0.out wz HBZ.out
     go_wp2_with fail
     refine (HEN.out wz HBZ.out).mono ?_
     rintro e wp ⟨rfl,hbp⟩
     have HBP:=Lib.hid (HBZ.out.trans (hbp.mono HBZ.out.size))
     clear hbp c0' HBZ
     go_wp2_with fail
     refine (HSZ.out wp HBP.out).mono ?_
     rintro e wq ⟨rfl,hbq⟩
     have HBQ:=Lib.hid (HBP.out.trans (hbq.mono HBP.out.size))
     clear hbq HBP
     have c0':=HC0.out wq HBQ.out
     go_wp2_with fail
     refine (HID.out wq HBQ.out).mono ?_
     rintro e wy ⟨a9,c9,rfl,_,hby⟩
     have HBY:=Lib.hid (HBQ.out.trans (hby.mono HBQ.out.size))
     clear hby c0' HBQ
     go_wp2_with fail
     go_roundw
     case rel=>exact ⟨k+1,by omega,by go_num,S1,(HQ.out wy HBY.out).no⟩
     case measure=>simp [intOf]; omega
    ·
     have hso:=send_ok x true hwo (by rw [HXL.out]; exact hck) (by rw [HXL.out]; exact made_plain) a c w8 HQ8.out.st (by rw [HXL.out]; decide) (HSS.out w8 HB8.out) HQ8.out.q (HTB.out w8 HQ8.out.low) HQ8.out.low.size (by rw [HQ8.out.now]; decide) (by rw [HQ8.out.now,← hct]; omega) (by rw [HQ8.out.wt]; simp) (by have:=HQ8.out.e; omega) (by have:=HQ8.out.rl; omega)
     rw [HQ8.out.now,show cellsW x a c=#[.string (S x.topic),.int .i64 x.queue,.string (S x.tag),.slice a x.keys.length c,.string (S x.body)] from rfl,HQ8.out.blk] at hso
     have HSE:=Lib.hid hso
     have HNX:=Lib.hid (fun (S2:StoD) (w9:World) (h2:StoTab W.heap.size w9 S2 X) (hp:Put w8.heap.size S1 S2 (recW x 1 0 0) true) (hm:Mod S1.foot w8 w9)=>HQ8.out.next hr rfl h2 hp hm)
     rw [← hct] at HNX
     clear hso hcost hct
     generalize ((S1.T.R.e+(fillOf S1.T.R.e (recW x 1 0 0)).length:Nat):Int)=idn at *
     have k0:=HK.out w8 (HB8.out) 0 _ rfl
     have k1:=HK.out w8 (HB8.out) 1 _ rfl
     have k2:=HK.out w8 (HB8.out) 2 _ rfl
     have k3:=HK.out w8 (HB8.out) 3 _ rfl
     have k4:=HK.out w8 (HB8.out) 4 _ rfl
     go_wp2_with fail
     refine HSE.out.mono ?_
     rintro e w9 ⟨rfl,S2,hs2,hp2,hm2⟩
     obtain ⟨hn9,hsz⟩:=HNX.out S2 w9 hs2 hp2 hm2
     have hlt8:A < w8.heap.size:=Nat.lt_of_lt_of_le HAL.out HB8.out.size
     have hk9:∀ (i:Nat) v,w8.cell? ⟨A,i,none⟩=some v→w9.cell? ⟨A,i,none⟩=some v:=fun i v h=>(hm2.cell (p:=⟨A,i,none⟩) hlt8 (fun h9=>by have h9:S1.foot A:=h9; have:=HFA.out A h9; omega)).trans h
     replace k0:=hk9 0 _ k0
     replace k1:=hk9 1 _ k1
     replace k2:=hk9 2 _ k2
     replace k3:=hk9 3 _ k3
     replace k4:=hk9 4 _ k4
     have HN9:=Lib.hid hn9
     have hb1:(S1.T.D.size:Int)≤1000000:=by have:=HQ8.out.sz; omega
     have hb2:(ct:Int)≤1000000:=by have:=hn9.sz; omega
     have hsz2:((S2.T.D.size:Int) != (S1.T.D.size:Int)+(ct:Int))=false:=by rw [hsz]; simp
     have HRI:=Lib.hid (right_any x hwo a c hcp w9 (HSW.out w9 hn9.low))
     rw [show cellsW x a c=#[.string (S x.topic),.int .i64 x.queue,.string (S x.tag),.slice a x.keys.length c,.string (S x.body)] from rfl,right_check,hck] at HRI
     clear hs2 hp2 hm2 hn9 hk9 hlt8 HSE HNX HQ8 hr hsz
     go_wp2_with fail
     refine HRI.out.mono ?_
     rintro e wz ⟨rfl,hbz⟩
     have HNZ:=Lib.hid (HN9.out.below hbz)
     clear hbz HRI HN9 k0 k1 k2 k3 k4
     have HS2:=Lib.hid (DskW.size_any wz HNZ.out.st.sto.tape.whole.dsk)
     rw [HNZ.out.db] at HS2
     go_wp2_with fail
     refine HS2.out.mono ?_
     rintro e wy ⟨rfl,hby⟩
     have HNY:=Lib.hid (HNZ.out.below hby)
     clear hby HS2 HNZ
     go_wp2_with fail
     go_roundw
     case rel=>exact ⟨k+1,by omega,by go_num,S2,HNY.out⟩
     case measure=>simp [intOf]; omega
   ·
    have HSE:=Lib.hid (send_bad x true hwo (checkW made3 x) (by rw [HXL.out]) hck a c w8 HQ8.out.st (by rw [HXL.out]; decide) (HSS.out w8 HB8.out))
    rw [show cellsW x a c=#[.string (S x.topic),.int .i64 x.queue,.string (S x.tag),.slice a x.keys.length c,.string (S x.body)] from rfl,HQ8.out.blk] at HSE
    have hrt:∀ w,Below w5.heap.size w5 w→Calls Tryz.prog 15 #[.agg #[.string (S x.topic),.int .i64 x.queue,.string (S x.tag),.slice a x.keys.length c,.string (S x.body)]] w fun e w'=>e=.returned (.int .i64 (checkW made3 x))∧Below w.heap.size w w':=fun w hb=>by
     have h9:=right_any x hwo a c hcp w (HSS.out w hb)
     rw [show cellsW x a c=#[.string (S x.topic),.int .i64 x.queue,.string (S x.tag),.slice a x.keys.length c,.string (S x.body)] from rfl,right_check] at h9
     exact h9
    have HRT:=Lib.hid hrt
    clear hrt
    obtain ⟨r,hr⟩:∃ r,checkW made3 x=r:=⟨_,rfl⟩
    rw [hr] at HSE HRT hck
    have hne:(r != 0)=true:=bne_iff_ne.2 hck
    have hrr:(r != r)=false:=by simp
    generalize costL S1.T.R.e (recW x 1 0 0)=ct at *
    have k0:=HK.out w8 (HB8.out) 0 _ rfl
    have k1:=HK.out w8 (HB8.out) 1 _ rfl
    have k2:=HK.out w8 (HB8.out) 2 _ rfl
    have k3:=HK.out w8 (HB8.out) 3 _ rfl
    have k4:=HK.out w8 (HB8.out) 4 _ rfl
    go_wp2_with fail
    refine HSE.out.mono ?_
    rintro e w9 ⟨rfl,hb9⟩
    have HB9:=Lib.hid (HB8.out.trans (hb9.mono HB8.out.size))
    clear hb9 HSE HQ8 k0 k1 k2 k3 k4
    have k0:=HK.out w9 (HB9.out) 0 _ rfl
    have k1:=HK.out w9 (HB9.out) 1 _ rfl
    have k2:=HK.out w9 (HB9.out) 2 _ rfl
    have k3:=HK.out w9 (HB9.out) 3 _ rfl
    have k4:=HK.out w9 (HB9.out) 4 _ rfl
    go_wp2_with fail
    refine (HRT.out w9 HB9.out).mono ?_
    rintro e w10 ⟨rfl,hb10⟩
    have HB10:=Lib.hid (HB9.out.trans (hb10.mono HB9.out.size))
    clear hb10 k0 k1 k2 k3 k4 HB9
    have k0:=HK.out w10 (HB10.out) 0 _ rfl
    have k1:=HK.out w10 (HB10.out) 1 _ rfl
    have k2:=HK.out w10 (HB10.out) 2 _ rfl
    have k3:=HK.out w10 (HB10.out) 3 _ rfl
    have k4:=HK.out w10 (HB10.out) 4 _ rfl
    go_wp2_with fail
    refine (HRT.out w10 HB10.out).mono ?_
    rintro e wz ⟨rfl,hbz⟩
    have HBZ:=Lib.hid (HB10.out.trans (hbz.mono HB10.out.size))
    clear hbz k0 k1 k2 k3 k4 HB10
    have c0':=HC0.out wz HBZ.out
    go_wp2_with fail
    refine (HEN.out wz HBZ.out).mono ?_
    rintro e wp ⟨rfl,hbp⟩
    have HBP:=Lib.hid (HBZ.out.trans (hbp.mono HBZ.out.size))
    clear hbp c0' HBZ
    go_wp2_with fail
    refine (HSZ.out wp HBP.out).mono ?_
    rintro e wq ⟨rfl,hbq⟩
    have HBQ:=Lib.hid (HBP.out.trans (hbq.mono HBP.out.size))
    clear hbq HBP
    have c0':=HC0.out wq HBQ.out
    go_wp2_with fail
    refine (HID.out wq HBQ.out).mono ?_
    rintro e wy ⟨a9,c9,rfl,_,hby⟩
    have HBY:=Lib.hid (HBQ.out.trans (hby.mono HBQ.out.size))
    clear hby c0' HBQ
    go_wp2_with fail
    go_roundw
    case rel=>exact ⟨k+1,by omega,by go_num,S1,(HQ.out wy HBY.out).no⟩
    case measure=>simp [intOf]; omega
  ·
   obtain rfl:k=ws.length:=by omega
   have HN2:=Lib.hid (DskW.new_any 4194304 W.heap.size wA HS.out.low.size)
   have HFA:Hid (∀ j,S1.foot j→j < wA.heap.size):=fun j hj=>HS.out.st.sto.lt hj
   have HSO:Hid ((S1.T.O.recs.map (·.1)).Pairwise (· < ·)):=by show List.Pairwise _ _; rw [HS.out.st.sto.tape.recs]; exact (recs_sorted HS.out.st.sto.tape.fits).2
   have HRL:Hid (S1.T.O.recs.length≤1048576):=by have:=HS.out.rl; show _≤_; omega
   go_wp2_with fail
   refine HN2.out.mono ?_
   rintro e w5 ⟨D2,rfl,hD2,hb5,h11,h12,h13,h14,h15,h16,h17,h18⟩
   have HQ5:=Lib.hid (HS.out.below hb5)
   have HRE:=Lib.hid (reopen_any HQ5.out (by omega) (HTB.out w5 HQ5.out.low) hD2 ⟨h13,h14⟩ h15 (by have:=room_new (c:=4194304) h15 (by rw [h18]; rfl); omega) h16 (fun j hj=>by
    have h9:=foot_new hD2 h15 h17 h11 h12 j hj
    exact ⟨fun h=>by have:=HFA.out j h; omega,by have:=HS.out.low.size; omega⟩))
   clear hD2 hb5 h11 h12 h13 h14 h15 h16 h17 h18 HN2 HS HFA
   go_wp2_with fail
   refine HRE.out.mono ?_
   rintro e w6 ⟨S2,rfl,hs2,hrc,how,c0',hb6⟩
   have HB6:=Lib.hid hb6
   have HC0:Hid (∀ w,Below w6.heap.size w6 w→w.cell? ⟨S2.blk,0,none⟩=some (.pointer (some ⟨S2.T.O.blk,0,none⟩))∧w.cell? ⟨sb,0,none⟩=some (.pointer (some ⟨S1.T.O.blk,0,none⟩))):=fun w hb=>⟨(hs2.below hb).cell 0 _ rfl,by rw [hb.cell (cell_lt c0')]; exact c0'⟩
   have HIX:Hid (∀ w,Below w6.heap.size w6 w→Calls Tryz.prog 11 #[.pointer (some ⟨S2.T.O.blk,0,none⟩),.int .i64 0] w fun e w'=>∃ a c,e=.returned (.slice a S1.T.O.recs.length c)∧OctW.Ints w' a (S1.T.O.recs.map fun p=>(p.1:Int))∧Below w.heap.size w w'):=fun w hb=>by
    have h9:=tids_any w (hs2.below hb).tape (by rw [hrc]; have:=HRL.out; have:=HQ5.out.rl; omega)
    rw [hrc] at h9
    exact h9
   have HIS:Hid (∀ w,Below w6.heap.size w6 w→Calls Tryz.prog 11 #[.pointer (some ⟨S1.T.O.blk,0,none⟩),.int .i64 0] w fun e w'=>∃ a c,e=.returned (.slice a S1.T.O.recs.length c)∧OctW.Ints w' a (S1.T.O.recs.map fun p=>(p.1:Int))∧Below w.heap.size w w'):=fun w hb =>
    (ids_any 0 w (how.below hb) HSO.out (by have:=HRL.out; omega) (place_zero _)).mono fun e w' ⟨v,he,ho,hb⟩=>by
     obtain ⟨a,c,hv,hi⟩:=ints_own ho
     exact ⟨a,c,by rw [he,hv],hi,hb⟩
   clear hs2 hrc how c0' hb6 HRE HQ5
   go_upto_region 28 with fail
   have DR:Hid (∀ w,RecW.ExtR w6.drew w→Below w6.heap.size w6 w):=fun w hw=>((Below.refl w6.heap.size w6).drew).trans hw
   refine GrowN.wp_region_n 16 [none,none,none,none,none,none,none,some (.inr (fun _ v w=>∃ a9 c9,v=.slice a9 S1.T.O.recs.length c9∧OctW.Ints w a9 (S1.T.O.recs.map fun p=>(p.1:Int)))),none,none,none,none,some (.inr (fun _ v w=>∃ a9 c9,v=.slice a9 S1.T.O.recs.length c9∧OctW.Ints w a9 (S1.T.O.recs.map fun p=>(p.1:Int)))),some (.inl (.bool true)),none,none] (RecW.ExtR) (by kernel_rfl) (by kernel_rfl) (by kernel_rfl) (RecW.ExtR.refl) (fun _ _ _=>RecW.ExtR.trans) ?_ ?_
   · intro K hK Y hY l v w w' hR h
     simp only [List.mem_cons,List.not_mem_nil,or_false] at hK
     rcases hK with rfl | rfl | rfl | rfl | rfl | rfl | rfl | rfl | rfl | rfl | rfl | rfl | rfl | rfl | rfl | rfl <;> simp only [reduceCtorEq,Option.some.injEq,Sum.inr.injEq] at hY
     iterate 2
      · subst hY; obtain ⟨a9,c9,h1,h2⟩:=h; exact ⟨a9,c9,h1,h2.below hR⟩
   simp only [List.take_succ_cons,List.take_zero,List.drop_succ_cons,List.drop_zero]
   iterate 6
    refine GrowN.g_det rfl ?_
    apply Exists.intro
    refine ⟨fun w hw hF=>?_,?_⟩
    · clear hF
      go_simp
      exact ⟨rfl,RecW.ExtR.refl _⟩
    go_frame
   refine GrowN.g_det rfl ?_
   apply Exists.intro
   refine ⟨fun w hw hF=>?_,?_⟩
   · clear hF
     have c0:=(HC0.out w (DR.out w hw)).1
     go_simp
     exact ⟨rfl,RecW.ExtR.refl _⟩
   go_frame
   refine GrowN.g_new rfl (fun w hw hF=>?_) (fun v7=>?_)
   · clear hF
     go_simp
     exact (HIX.out w (DR.out w hw)).mono fun e w3 ⟨a9,c9,h1,h2,h3⟩=>⟨_,h1,⟨a9,⟨c9,rfl⟩,h2⟩,h3⟩
   iterate 3
    go_frame
    refine GrowN.g_det rfl ?_
    apply Exists.intro
    refine ⟨fun w hw hF=>?_,?_⟩
    · clear hF
      go_simp
      exact ⟨rfl,RecW.ExtR.refl _⟩
   go_frame
   refine GrowN.g_det rfl ?_
   apply Exists.intro
   refine ⟨fun w hw hF=>?_,?_⟩
   · clear hF
     have c0:=(HC0.out w (DR.out w hw)).2
     go_simp
     exact ⟨rfl,RecW.ExtR.refl _⟩
   go_frame
   refine GrowN.g_new rfl (fun w hw hF=>?_) (fun v12=>?_)
   · clear hF
     go_simp
     exact (HIS.out w (DR.out w hw)).mono fun e w3 ⟨a9,c9,h1,h2,h3⟩=>⟨_,h1,⟨a9,⟨c9,rfl⟩,h2⟩,h3⟩
   go_frame
   refine GrowN.g_con rfl (fun w hw hF=>?_) ?_
   ·
    obtain ⟨a9,c9,rfl,hi2⟩:=hF _ (.head _) (by kernel_rfl)
    obtain ⟨a8,c8,rfl,hi1⟩:=hF _ (.tail _ (.head _)) (by kernel_rfl)
    clear hF
    have HII:=Lib.hid (RefW.ints_any a8 a9 c8 c9 (S1.T.O.recs.map fun p=>(p.1:Int)) (S1.T.O.recs.map fun p=>(p.1:Int)) (by rw [List.length_map]; exact HRL.out) (by rw [List.length_map]; exact HRL.out) w hi1 hi2)
    rw [List.length_map,decide_eq_true rfl] at HII
    clear hi1 hi2
    go_simp
    exact HII.out.mono fun e w3 h=>⟨_,h.1,rfl,h.2⟩
   iterate 2
    go_frame
    refine GrowN.g_det rfl ?_
    apply Exists.intro
    refine ⟨fun w hw hF=>?_,?_⟩
    · clear hF
      go_simp
      exact ⟨rfl,RecW.ExtR.refl _⟩
   go_frame
   refine GrowN.g_nil fun w9 hw9 hF=>?_
   clear hF
   have HB9:=Lib.hid (HB6.out.trans ((DR.out w9 hw9).mono HB6.out.size))
   clear hw9 DR
   go_wp2_with fail
   go_ret
   exact ⟨rfl,HB9.out⟩
end Go.Proofs.YtnoehodmmkioaaaGreatDoor.SndW
