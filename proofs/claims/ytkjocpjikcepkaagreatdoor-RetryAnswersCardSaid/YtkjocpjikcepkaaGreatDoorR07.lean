/- The store: what it is in memory; its clock; a record that is put. And what follows. -/
import Derived.Test.YtkjocpjikcepkaaGreatDoorR06
set_option linter.unusedVariables false
set_option linter.unusedSimpArgs false
set_option maxHeartbeats 25600000
set_option maxRecDepth 100000
namespace Go.Proofs.YtkjocpjikcepkaaGreatDoor
namespace StoW
open Go.RowKit Go.MapKept OctMath RecMath RecW TapeMath DskW SegW MapG TapeW PendW
theorem am0 (l:List (List UInt8×FileD)) (f:List UInt8×FileD->List UInt8×FileD) (h:∀ p∈l,(f p).2.now=p.2.now):gu (l.map f)=gu l:=by
 unfold gu;rw [List.map_map];congr 1;exact List.map_congr_left λp hp=>by simp [h p hp]
theorem syncD_room (R:SegD) (D:DiskD) (wv:Value):(R.syncD D wv).room=D.room:=by
 unfold SegD.syncD
 split
 . rfl
 ·
  unfold DiskD.room DiskD.size DiskD.lasts;show D.cap - ((gu (D.files.map _):Nat):Int)=_;rw [am0];intro p _;dsimp only
  split <;> rfl
theorem adg (R:SegD) (D:DiskD) (wv:Value):(R.syncD D wv).files=D.files\/∃ f:List UInt8×FileD->List UInt8×FileD,(∀ p,(f p).1=p.1)/\(R.syncD D wv).files=D.files.map f:=by
 unfold SegD.syncD
 split
 . exact .inl rfl
 . refine .inr ⟨_,λp=>?_,rfl⟩
   dsimp only
   split <;> rfl
theorem am1 (R:SegD) (D:DiskD) (wv:Value):(R.syncD D wv).files.length=D.files.length:=by
 rcases adg R D wv with e | ⟨f,_,e⟩
 . rw [e]
 . rw [e,List.length_map]
theorem am2 {R:SegD} {D:DiskD} {wv:Value} {p:List UInt8×FileD} (h:p∈(R.syncD D wv).files):∃ q∈D.files,q.1=p.1:=by
 rcases adg R D wv with e | ⟨f,hf,e⟩
 . rw [e] at h; exact ⟨p,h,rfl⟩
 . rw [e] at h
   obtain ⟨q,A,rfl⟩:=List.mem_map.1 h;exact ⟨q,A,(hf q).symm⟩
theorem aj3 {R:SegD} {D:DiskD} {wv:Value} {n:List UInt8} (h:D.find n=none):(R.syncD D wv).find n=none:=by
 obtain ⟨g,e,_⟩:=SegW.sj R D wv n;rw [e,h];rfl
structure StoD where
 blk:Nat
 T:TapeD
 P:PendD
 cq:Value
 kx:Value
 top:Value
 off:Value
 tl:Value
 dp:Value
 eq:Value
 dq:Value
 dk:Value
 now:Int
def StoD.cells (S:StoD):Array Value:=#[.pointer (some ⟨S.T.O.blk,0,none⟩),S.cq,S.kx,S.top,S.off,S.tl,.pointer (some ⟨S.P.blk,0,none⟩),S.dp,S.eq,S.dq,S.dk,.int .i64 S.now]
def StoD.foot (S:StoD) (k:Nat):Prop:=k=S.blk\/S.T.foot k\/S.P.foot k
structure StoAt (base:Nat) (w:World) (S:StoD):Prop where
 cells:w.heap[S.blk]?=some (.cells S.cells 52 (0,0))
 tape:TapeAt base w S.T
 pend:PendAt base w S.P
 low:base<=S.blk
 away:(∀ k,S.T.foot k->k≠S.blk/\¬ S.P.foot k)/\∀ k,S.P.foot k->k≠S.blk
theorem StoAt.lt {base:Nat} {w:World} {S:StoD} (h:StoAt base w S) {k:Nat} (hk:S.foot k):k < w.heap.size:=by
 rcases hk with hk | hk | hk
 . rw [hk]; exact (Array.getElem?_eq_some_iff.1 h.cells).1
 . exact h.tape.lt hk
 . exact h.pend.lt hk
theorem StoAt.mod {base:Nat} {w w':World} {S:StoD} {M:Nat->Prop} (h:StoAt base w S) (hm:Mod M w w') (hM:∀ k,S.foot k->¬ M k):StoAt base w' S :=
 ⟨(hm.block _ (h.lt (.inl rfl)) (hM _ (.inl rfl))).trans h.cells,h.tape.mod hm (λk hk=>hM k (.inr (.inl hk))),h.pend.mod hm (λk hk=>hM k (.inr (.inr hk))),h.low,h.away⟩
theorem StoAt.below {base:Nat} {w w':World} {S:StoD} (h:StoAt base w S) (hb:Below w.heap.size w w'):StoAt base w' S :=
 h.mod (M:=λ_=>False) (Mod.of_below hb) (λ_ _ h=>h)
theorem StoAt.cell {base:Nat} {w:World} {S:StoD} (h:StoAt base w S) (k:Nat) (v:Value) (hv:S.cells[k]?=some v):w.cell? ⟨S.blk,k,Option.none⟩=some v:=by
 unfold World.cell?; rw [show w.heap[(⟨S.blk,k,Option.none⟩:Addr).block]?=_ from h.cells]; simpa using hv
theorem alf {base:Nat} {S:StoD} (w:World) (h:StoAt base w S) :
 Calls Tryz.prog 29 #[.pointer (some ⟨S.blk,0,none⟩)] w λe w'=>e=.returned (.int .i64 S.now)/\w'=w:=by
 have A:=h.cell 11 _ rfl;clear h;go_enter Tryz.func29,Tryz.ntmps29;go_wp2_with fail;go_ret;exact ⟨rfl,rfl⟩
theorem aux {base:Nat} {S0:StoD} (r:Int) (hr:r≠0) (m:Msg) (sy:Bool) (a:Option Addr) (c:Nat) (W:World) (h:StoAt base W S0)
 (HAP:Zq (∀ w,Below W.heap.size W w->Calls Tryz.prog 68 #[.pointer (some ⟨S0.T.O.blk,0,none⟩),.agg (af m a c)] w λe w'=>e=.returned (.tuple #[.int .i64 0,.int .i64 r])/\Below w.heap.size w w')) :
 Calls Tryz.prog 27 #[.pointer (some ⟨S0.blk,0,none⟩),.agg (af m a c),.bool sy] W λe w'=>e=.returned (.tuple #[.int .i64 0,.int .i64 r])/\Below W.heap.size W w':=by
 have B:Zq (Below W.heap.size W (W.alloc (.cells (af m a c) 65))):=(Below.refl _ W).alloc (Nat.le_refl _) _;have I:Zq (RecW.Boxed (W.alloc (.cells (af m a c) 65)) W.heap.size (af m a c)):=RecW.Boxed.new W _ _;have M:=zq (h.below B.o);have N:(af m a c).size=10:=rfl;have Z:(r != 0)=true:=bne_iff_ne.2 hr;clear h hr;go_enter Tryz.func27,Tryz.ntmps27;go_upto_region 3 with fail
 generalize W.alloc (.cells (af m a c) 65)=w1 at *
 clear N;obtain ⟨A,R⟩:∃ A,W.heap.size=A:=⟨_,rfl⟩;rw [R] at I ⊢;have ab:=zq R;have c0:w1.cell? ⟨S0.blk,0,none⟩=some (.pointer (some ⟨S0.T.O.blk,0,none⟩)):=M.o.cell 0 _ rfl;have J:=zq (HAP.o w1.drew (B.o.trans ((Below.refl _ w1).drew.mono B.o.size)));have U:Zq (af m a c=#[.int .i64 m.kind,.int .i64 m.queue,.int .i64 m.due,.int .i64 m.retry,.int .i64 m.ref,.int .i64 m.born,.string (S m.topic),.string (S m.tag),.string (S m.body),.slice a m.keys.length c]):=rfl;rw [U.o] at J;obtain ⟨k0,k1,k2,k3,k4,k5,k6,k7,k8,k9⟩:=RecW.qg I.o;clear R;refine GrowM.j3 (by kernel_rfl) ?_;refine GrowM.j5 5 [none,none,none,none,none] (λu v=>v=u) (by kernel_rfl) (by kernel_rfl) (λ_=>rfl) (λ_ _ _ h k=>k.trans h) ?_ ?_
 . exact GrowN.jy rfl
 simp only [List.take_succ_cons,List.take_zero,List.drop_succ_cons,List.drop_zero,Nat.reduceSub]
 iterate 5
  refine GrowN.g_det rfl ?_;apply Exists.intro;refine ⟨λw X E=>?_,?_⟩
  . obtain rfl:=X.symm
    clear E;go_simp
    first | exact rfl | exact ⟨rfl,rfl⟩
  go_frame
 refine GrowN.g_nil λwz F E=>?_
 obtain rfl:=F.symm;clear E;refine GrowM.qj (λv w'=>v=.tuple #[.int .i64 0,.int .i64 r]/\Below w1.drew.heap.size w1.drew w') (by kernel_rfl) rfl rfl ?_ ?_
 ·
  go_simp;refine J.o.mono ?_;rintro e w' ⟨rfl,hb⟩;exact ⟨_,rfl,rfl,hb⟩
 rintro v w2 ⟨rfl,hb⟩;go_frame;have Y:=zq hb;clear hb;refine GrowM.j5 11 [none,none,none,none,none] (λu v=>v=u) (by kernel_rfl) (by kernel_rfl) (λ_=>rfl) (λ_ _ _ h k=>k.trans h) ?_ ?_
 . exact GrowN.jy rfl
 simp only [List.take_succ_cons,List.take_zero,List.drop_succ_cons,List.drop_zero,Nat.reduceSub]
 iterate 5
  refine GrowN.g_det rfl ?_;apply Exists.intro;refine ⟨λw X E=>?_,?_⟩
  . obtain rfl:=X.symm
    clear E;go_simp
    first | exact rfl | exact ⟨rfl,rfl⟩
  go_frame
 refine GrowN.g_nil λwz F E=>?_
 obtain rfl:=F.symm;clear E;refine GrowM.uy rfl ?_;go_wp2_with fail;go_ret2;exact ⟨rfl,(B.o.trans ((Below.refl _ w1).drew.mono B.o.size)).trans (Y.o.mono (Nat.le_trans B.o.size (Nat.le_of_eq rfl)))⟩
structure Put (B:Nat) (S0 S1:StoD) (m:Msg) (sy:Bool):Prop where
 same:S1={ S0 with T:=S1.T,P:=S1.P }
 oblk:S1.T.O.blk=S0.T.O.blk
 pblk:S1.P.blk=S0.P.blk
 dblk:S1.T.D.blk=S0.T.D.blk
 b:S1.T.R.b=S0.T.R.b
 its:S1.T.its=S0.T.its++pg S0.T.R.e m
 quiet:Quiet S1.T.D
 room:S1.T.D.room=S0.T.D.room - ((gz (pg S0.T.R.e m)).length:Int)
 waits:if sy then S1.T.D.waits=[]/\S1.T.R.synced=S1.T.R.e else S1.T.D.waits≠[]/\S1.T.R.synced=S0.T.R.synced
 wl:S1.T.D.waits.length<=S0.T.D.waits.length+2
 foot:∀ k,S1.foot k->S0.foot k\/B<=k
 fl:S1.T.D.files.length<=S0.T.D.files.length+2
 nm:∀ p∈S1.T.D.files,p.1.length<=qz.length+8\/∃ q∈S0.T.D.files,q.1=p.1
 find:∀ n,(∀ p,p<=99999999->n≠ah qz p)->S0.T.D.find n=none->S1.T.D.find n=none
 pall:S1.P.all=uj S0.P.all ((S0.T.R.e+(bv S0.T.R.e m).length:Nat):Int) m
 cap:S1.T.D.cap=S0.T.D.cap
 keep:∀ n f,(∀ p,p<=99999999->n≠ah qz p)->S0.T.D.find n=some f->∃ f',S1.T.D.find n=some f'/\f'.now=f.now
theorem put_ok {base:Nat} {S0:StoD} (m:Msg) (sy:Bool) (hm:vv m) (hr:bn m=true) (h0:m.kind≠0) (a:Option Addr) (c:Nat) (W:World) (h:StoAt base W S0) (hS:Strs W a (m.keys.map S)) (hq:Quiet S0.T.D) (hT:TabB base W) (hbase:base<=W.heap.size)
 (hroom:(((bv S0.T.R.e m).length+(bg m).length:Nat):Int)<=S0.T.D.room) (hwl:S0.T.D.waits.length<=1000000) (hfar:S0.T.R.e<=80000000) (hrl:S0.T.O.recs.length<=1000000) :
 Calls Tryz.prog 27 #[.pointer (some ⟨S0.blk,0,none⟩),.agg (af m a c),.bool sy] W λe w'=>e=.returned (.tuple #[.int .i64 ((S0.T.R.e+(bv S0.T.R.e m).length:Nat):Int),.int .i64 0]) /\
  ∃ S1,StoAt base w' S1/\Put W.heap.size S0 S1 m sy/\Mod S0.foot W w':=by
 have I:Zq (Below W.heap.size W (W.alloc (.cells (af m a c) 65))):=(Below.refl _ W).alloc (Nat.le_refl _) _;have ad:Zq (RecW.Boxed (W.alloc (.cells (af m a c) 65)) W.heap.size (af m a c)):=RecW.Boxed.new W _ _;have ak:Zq ((W.alloc (.cells (af m a c) 65)).heap.size=W.heap.size+1):=by exact Array.size_push _
 have B:=zq (h.below I.o);have b9:=zq (Strs.below hS I.o);have ca:(af m a c).size=10:=rfl;have bd:=zq (hT.below I.o);have bh:=zq hbase;have HQ:=zq hq;have bj:=zq (λ(w:World) (hb:Below w.heap.size (W.alloc (.cells (af m a c) 65)) w) (cb:TapeAt base w S0.T) (cc:Strs w a (m.keys.map S)) (cd:TabB base w) (ce:base<=w.heap.size)=>append_ok m hm hr h0 a c w cb cc hq cd ce hroom hwl (by omega) hrl);have av:=zq (λ(id:Int) (P:PendD) (w:World) (hp:PendAt base w P)=>apg id m a c w hp);have U:=zq (λ(k:Nat) (hk:S0.foot k)=>h.lt hk);have cf:=zq hwl;have cq:=zq hfar;have bk:(0:Int)<=((S0.T.R.e+(bv S0.T.R.e m).length:Nat):Int):=by omega
 obtain ⟨id,hid⟩:∃ id:Int,id=((S0.T.R.e+(bv S0.T.R.e m).length:Nat):Int):=⟨_,rfl⟩;have an:=zq hid;rw [<- hid] at bj ⊢;clear h hS hq hT hbase hroom hwl hfar hrl hm hr h0 bk hid;go_enter Tryz.func27,Tryz.ntmps27;go_upto_region 3 with fail
 generalize W.alloc (.cells (af m a c) 65)=w1 at *
 clear ca;obtain ⟨A,hA⟩:∃ A,W.heap.size=A:=⟨_,rfl⟩;rw [hA] at ad ak U ⊢;have Z:=zq hA;have c0:w1.cell? ⟨S0.blk,0,none⟩=some (.pointer (some ⟨S0.T.O.blk,0,none⟩)):=B.o.cell 0 _ rfl;have a6:=zq (bj.o w1.drew ((Below.refl _ w1).drew) (B.o.tape.below ((Below.refl _ w1).drew)) (Strs.below b9.o ((Below.refl _ w1).drew)) (bd.o.below ((Below.refl _ w1).drew)) (Nat.le_trans bh.o I.o.size));have ci:Zq (af m a c=#[.int .i64 m.kind,.int .i64 m.queue,.int .i64 m.due,.int .i64 m.retry,.int .i64 m.ref,.int .i64 m.born,.string (S m.topic),.string (S m.tag),.string (S m.body),.slice a m.keys.length c]):=rfl;rw [ci.o] at a6 av;obtain ⟨k0,k1,k2,k3,k4,k5,k6,k7,k8,k9⟩:=RecW.qg ad.o;clear hA;refine GrowM.j3 (by kernel_rfl) ?_;refine GrowM.j5 5 [none,none,none,none,none] (λu v=>v=u) (by kernel_rfl) (by kernel_rfl) (λ_=>rfl) (λ_ _ _ h k=>k.trans h) ?_ ?_
 . exact GrowN.jy rfl
 simp only [List.take_succ_cons,List.take_zero,List.drop_succ_cons,List.drop_zero,Nat.reduceSub]
 iterate 5
  refine GrowN.g_det rfl ?_;apply Exists.intro;refine ⟨λw hw hF=>?_,?_⟩
  . obtain rfl:=hw.symm
    clear hF;go_simp
    first | exact rfl | exact ⟨rfl,rfl⟩
  go_frame
 refine GrowN.g_nil λwz ac hF=>?_
 obtain rfl:=ac.symm;clear hF;refine GrowM.qj (λv w'=>v=.tuple #[.int .i64 id,.int .i64 0]/\∃ T',TapeAt base w' T'/\TapeW.Next S0.T T' (pg S0.T.R.e m)/\Mod S0.T.foot w1.drew w'/\∀ k,T'.foot k->S0.T.foot k\/w1.drew.heap.size<=k) (by kernel_rfl) rfl rfl ?_ ?_
 ·
  go_simp;refine a6.o.mono ?_;rintro e w' ⟨rfl,hb⟩;exact ⟨_,rfl,rfl,hb⟩
 rintro v w2 ⟨rfl,hb⟩;go_frame;have HP:=zq hb;clear hb a6;refine GrowM.j5 11 [none,none,none,none,none] (λu v=>v=u) (by kernel_rfl) (by kernel_rfl) (λ_=>rfl) (λ_ _ _ h k=>k.trans h) ?_ ?_
 . exact GrowN.jy rfl
 simp only [List.take_succ_cons,List.take_zero,List.drop_succ_cons,List.drop_zero,Nat.reduceSub]
 iterate 5
  refine GrowN.g_det rfl ?_;apply Exists.intro;refine ⟨λw hw hF=>?_,?_⟩
  . obtain rfl:=hw.symm
    clear hF;go_simp
    first | exact rfl | exact ⟨rfl,rfl⟩
  go_frame
 refine GrowN.g_nil λwz ac hF=>?_
 obtain rfl:=ac.symm;clear hF;refine GrowM.uy rfl ?_;obtain ⟨T',bo,hN,ao,bp⟩:=HP.o;have X:Mod S0.T.foot w1 w2:=(Mod.of_below (M:=S0.T.foot) ((Below.refl _ w1).drew)).trans ao;have br:=zq X;have cj:=zq bo;have E:=zq hN;have bs:=zq bp;have ck:Zq (PendAt base w2 S0.P):=B.o.pend.mod X (λk hk F=>(B.o.away.1 k F).2 hk)
 have bw:Zq (RecW.Boxed w2 A (af m a c)):=λk v e=>by
  have:=ad.o k v e;rw [<- this];exact X.cell (by have:=ak.o; show A < _; omega) (λF=>by have:=U.o A (.inr (.inl F)); omega)
 have d6:w2.cell? ⟨S0.blk,6,none⟩=some (.pointer (some ⟨S0.P.blk,0,none⟩)):=by
  rw [X.cell (B.o.lt (.inl rfl)) (λF=>(B.o.away.1 _ F).1 rfl)]; exact B.o.cell 6 _ rfl
 have d0:w2.cell? ⟨S0.blk,0,none⟩=some (.pointer (some ⟨S0.T.O.blk,0,none⟩)):=by
  rw [X.cell (B.o.lt (.inl rfl)) (λF=>(B.o.away.1 _ F).1 rfl)]; exact B.o.cell 0 _ rfl
 clear ao X bo hN bp HP c0 k0 k1 k2 k3 k4 k5 k6 k7 k8 k9 ad;obtain ⟨l0,l1,l2,l3,l4,l5,l6,l7,l8,l9⟩:=RecW.qg bw.o;have bz:=zq (av.o id S0.P w2.drew (ck.o.below ((Below.refl _ w2).drew)));go_upto_region 6 with fail
 refine GrowM.j3 (by kernel_rfl) ?_;refine GrowM.j5 6 [none,none,none,none,none,none] (λu v=>v=u) (by kernel_rfl) (by kernel_rfl) (λ_=>rfl) (λ_ _ _ h k=>k.trans h) ?_ ?_
 . exact GrowN.jy rfl
 simp only [List.take_succ_cons,List.take_zero,List.drop_succ_cons,List.drop_zero,Nat.reduceSub]
 iterate 6
  refine GrowN.g_det rfl ?_;apply Exists.intro;refine ⟨λw hw hF=>?_,?_⟩
  . obtain rfl:=hw.symm
    clear hF;go_simp
    first | exact rfl | exact ⟨rfl,rfl⟩
  go_frame
 refine GrowN.g_nil λwz ac hF=>?_
 obtain rfl:=ac.symm;clear hF;refine GrowM.qj (λv w'=>PendAt base w' { S0.P with all:=uj S0.P.all id m }/\Mod (λk=>k=S0.P.mB) w2.drew w') (by kernel_rfl) rfl rfl ?_ ?_
 ·
  go_simp;refine bz.o.mono ?_;rintro e w' ⟨v,rfl,hb⟩
  first | exact ⟨⟨_,rfl⟩,hb⟩ | exact ⟨_,hb⟩
 rintro v w3 hb;go_frame;refine GrowM.uy rfl ?_;have a7:=zq hb;clear hb bz av l0 l1 l2 l3 l4 l5 l6 l7 l8 l9 bw;have a8:Mod (λk=>k=S0.P.mB) w2 w3:=(Mod.of_below (M:=λk=>k=S0.P.mB) ((Below.refl _ w2).drew)).trans a7.o.2;have b0:=zq a8
 have e0:w3.cell? ⟨S0.blk,0,none⟩=some (.pointer (some ⟨S0.T.O.blk,0,none⟩)):=by
  rw [a8.cell (Nat.lt_of_lt_of_le (B.o.lt (.inl rfl)) br.o.size) (λF=>B.o.away.2 _ (.inr F) rfl)]; exact d0
 clear a8 d0 d6;have ap:Mod (λk=>S0.T.foot k\/S0.P.foot k) w1 w3:=(br.o.mono (λk _ hk=>.inl hk)).trans (b0.o.mono (λk _ hk=>.inr (.inr hk)));have b1:=zq ap;have J:=zq ((Mod.of_below (M:=λk=>S0.T.foot k\/S0.P.foot k) I.o).trans ap)
 have al:Zq (TapeAt base w3 T'):=cj.o.mod b0.o (λk hk F=>by
  subst F
  rcases bs.o _ hk with Y | Y
  . exact (B.o.away.1 _ Y).2 (.inr rfl)
  . have:=U.o S0.P.mB (.inr (.inr (.inr rfl)))
    have h4:w1.heap.size<=S0.P.mB:=Y;have:=ak.o;omega)
 have KEY:Zq (∀ T2:TapeD,∀ w,TapeAt base w T2->PendAt base w { S0.P with all:=uj S0.P.all id m }->Mod (λk=>S0.T.foot k\/S0.P.foot k) W w->T2.O.blk=S0.T.O.blk->(∀ k,T2.foot k->S0.T.foot k\/A<=k) ->
  StoAt base w { S0 with T:=T2,P:={ S0.P with all:=uj S0.P.all id m } }/\∀ k,StoD.foot { S0 with T:=T2,P:={ S0.P with all:=uj S0.P.all id m } } k->S0.foot k\/A<=k):=λT2 w a1 a2 a3 a4 a5=>by
  have du:=U.o S0.blk (.inl rfl);refine ⟨⟨?_,a1,a2,B.o.low,λk hk=>?_,B.o.away.2⟩,λk hk=>?_⟩
  ·
   have:=(Mod.of_below (M:=λk=>S0.T.foot k\/S0.P.foot k) I.o)
   have h1:w.heap[S0.blk]?=some (.cells S0.cells 52 (0,0)):=by
    rw [a3.block S0.blk (by have:=Z.o; omega) (λF=>F.elim (λY=>(B.o.away.1 _ Y).1 rfl) (λY=>B.o.away.2 _ Y rfl)),<- I.o.block S0.blk (by have:=Z.o; omega)];exact B.o.cells
   rw [show w.heap[S0.blk]?=_ from h1];unfold StoD.cells;rw [a4]
  . rcases a5 k hk with F | F
    . exact B.o.away.1 k F
    . exact ⟨(show k≠S0.blk by omega),λY=>by have:=U.o k (.inr (.inr Y)); omega⟩
  . rcases hk with hk | hk | hk
    . exact .inl (.inl hk)
    . exact (a5 k hk).imp (λh=>.inr (.inl h)) λh=>h
    . exact .inl (.inr (.inr hk))
 have am:Zq (∀ k,T'.foot k->S0.T.foot k\/A<=k):=λk hk=>(bs.o k hk).imp (λh=>h) λF=>by
  have h4:w1.heap.size<=k:=F;have:=ak.o;omega
 have ba:=zq (TapeW.sync_any w3 al.o E.o.quiet (bd.o.mod b1.o (λk hk=>hk.elim (λh=>B.o.tape.base_le h) λh=>h.elim (λe=>e ▸ B.o.pend.low.1) λe=>e ▸ B.o.pend.low.2)) (Nat.le_trans bh.o J.o.size) (by have:=E.o.wl; have:=cf.o; omega) (by
  rcases Nat.eq_zero_or_pos T'.R.n with h0 | hp
  . omega
  . have:=(al.o.whole.seg.long hp).2.2
    rw [al.o.size] at this;omega))
 rw [E.o.blk] at ba
 cases sy
 ·
  go_wp2_with fail;go_ret2;obtain ⟨k1,k2⟩:=KEY.o T' w3 al.o a7.o.1 J.o E.o.blk am.o;exact ⟨rfl,_,k1,⟨rfl,E.o.blk,rfl,E.o.dblk,E.o.b,E.o.its,E.o.quiet,E.o.room,⟨E.o.waits,E.o.syn⟩,E.o.wl,λk hk=>(k2 k hk).imp (λh=>h) λh=>by rw [Z.o]; exact h,by have h1:=E.o.few.1; have F:=E.o.wl; show T'.D.files.length<=_; omega,E.o.few.2.1,λn hn h0=>(E.o.other n hn).trans h0,by show uj S0.P.all id m=_; rw [an.o],E.o.few.2.2,λn f hn hf=>⟨f,(E.o.other n hn).trans hf,rfl⟩⟩,J.o.mono (λk _ hk=>hk.elim (λh=>.inr (.inl h)) λh=>.inr (.inr h))⟩
 ·
  go_wp2_with fail;refine ba.o.mono ?_;rintro e w4 ⟨rfl,wv,b2,b3,b4,b5,b6⟩;have cn:=zq b2;have b7:=zq b3;have b8:=zq b4;have co:=zq b5;have cp:=zq b6;clear b2 b3 b4 b5 b6 ba;go_wp2_with fail;go_ret2;have ar:Mod (λk=>S0.T.foot k\/S0.P.foot k) W w4:=((J.o.mono (N:=λk=>(S0.T.foot k\/S0.P.foot k)\/A<=k) (λk _ h=>.inl h)).trans (b7.o.mono (λk _ h=>(am.o k h).imp (λh=>.inl h) λh=>h))).mono (λk hk h=>h.elim (λh=>h) λh=>by have:=Z.o; omega)
  obtain ⟨k1,k2⟩:=KEY.o _ w4 cn.o (a7.o.1.mod b7.o (λk hk F=>(am.o k F).elim (λY=>(B.o.away.1 k Y).2 hk) λY=>by have:=U.o k (.inr (.inr hk)); omega)) ar E.o.blk (λk hk=>am.o k (by
   rcases hk with h | h | h
   . exact .inl h
   . exact .inr (.inl ((cp.o k).1 h))
   . exact .inr (.inr h)))
  exact ⟨rfl,_,k1,⟨rfl,E.o.blk,rfl,(show (T'.R.syncD T'.D wv).blk=_ from (show (T'.R.syncD T'.D wv).blk=T'.D.blk by unfold SegD.syncD; split <;> rfl).trans E.o.dblk),E.o.b,E.o.its,co.o,(syncD_room _ _ _).trans E.o.room,⟨b8.o,rfl⟩,by show (T'.R.syncD T'.D wv).waits.length<=_; rw [b8.o]; simp,λk hk=>(k2 k hk).imp (λh=>h) λh=>by rw [Z.o]; exact h,by show (T'.R.syncD T'.D wv).files.length<=_; rw [am1]; have h1:=E.o.few.1; have F:=E.o.wl; omega,λp hp=>by obtain ⟨q,hq,e⟩:=am2 hp; exact e ▸ E.o.few.2.1 q hq,λn hn h0=>aj3 ((E.o.other n hn).trans h0),by show uj S0.P.all id m=_; rw [an.o],(show (T'.R.syncD T'.D wv).cap=T'.D.cap by unfold SegD.syncD; split <;> rfl).trans E.o.few.2.2,λn f hn hf=>by obtain ⟨g,h1,F⟩:=sj T'.R T'.D wv n; exact ⟨g f,by show (T'.R.syncD T'.D wv).find n=_; rw [h1,E.o.other n hn,hf]; rfl,(F f).2⟩⟩,ar.mono (λk _ hk=>hk.elim (λh=>.inr (.inl h)) λh=>.inr (.inr h))⟩
structure ar0 (W w:World) (B:Nat) (cs:Array Value) (t:TypeId):Prop where
 cells:w.heap[B]?=some (.cells cs t (0,0))
 below:Below W.heap.size W w
 new:W.heap.size<=B
theorem abq (W w:World) (cs:Array Value) (t:TypeId) (h:Below W.heap.size W w):ar0 W (w.alloc (.cells cs t)) w.heap.size cs t :=
 ⟨heap_alloc_new w _,h.alloc h.size _,h.size⟩
theorem ahu {base:Nat} {T:TapeD} (q x:Nat) (W:World) (h:TapeAt base W T) :
 Calls Tryz.prog 111 #[.pointer (some ⟨T.O.blk,0,none⟩),.pointer (some ⟨q,0,none⟩),.pointer (some ⟨x,0,none⟩)] W λe w'=>∃ B,e=.returned (.tuple #[.pointer (some ⟨B,0,none⟩),.int .i64 0]) /\
  ar0 W w' B #[.pointer (some ⟨T.O.blk,0,none⟩),.pointer (some ⟨q,0,none⟩),.pointer (some ⟨x,0,none⟩),.int .i64 (T.R.b:Int)] 147:=by
 have A:=zq (begin_any W h);clear h;go_enter Tryz.func111,Tryz.ntmps111;go_wp2_with fail;refine A.o.mono ?_;rintro e w2 ⟨rfl,rfl⟩;go_wp2_with fail;go_ret2;exact ⟨_,rfl,abq _ _ _ _ (Below.refl _ _)⟩
theorem aj4 {base:Nat} {T:TapeD} (q x:Nat) (W:World) (h:TapeAt base W T) :
 Calls Tryz.prog 112 #[.pointer (some ⟨T.O.blk,0,none⟩),.pointer (some ⟨q,0,none⟩),.pointer (some ⟨x,0,none⟩)] W λe w'=>∃ B,e=.returned (.tuple #[.pointer (some ⟨B,0,none⟩),.int .i64 0]) /\
  ar0 W w' B #[.pointer (some ⟨T.O.blk,0,none⟩),.pointer (some ⟨q,0,none⟩),.pointer (some ⟨x,0,none⟩),.int .i64 (T.R.b:Int),.slice none 0 0] 266:=by
 have A:=zq (begin_any W h);clear h;go_enter Tryz.func112,Tryz.ntmps112;go_wp2_with fail;refine A.o.mono ?_;rintro e w2 ⟨rfl,rfl⟩;go_wp2_with fail;go_ret2;exact ⟨_,rfl,abq _ _ _ _ (Below.refl _ _)⟩
theorem aj5 (t q x:Nat) (W:World) :
 Calls Tryz.prog 113 #[.pointer (some ⟨t,0,none⟩),.pointer (some ⟨q,0,none⟩),.pointer (some ⟨x,0,none⟩)] W λe w'=>∃ B,e=.returned (.tuple #[.pointer (some ⟨B,0,none⟩),.int .i64 0]) /\
  ar0 W w' B #[.pointer (some ⟨t,0,none⟩),.pointer (some ⟨q,0,none⟩),.pointer (some ⟨x,0,none⟩),.slice none 0 0] 268:=by
 go_enter Tryz.func113,Tryz.ntmps113;go_wp2_with fail;go_ret2;exact ⟨_,rfl,abq _ _ _ _ (Below.refl _ _)⟩
theorem aph {B:Nat} {c0 c1 c2 c3:Value} (W:World) (h:W.heap[B]?=some (.cells #[c0,c1,c2,c3,.slice none 0 0] 266 (0,0))) :
 Calls Tryz.prog 116 #[.pointer (some ⟨B,0,none⟩)] W λe w'=>e=.returned (.slice none 0 0)/\w'.heap[B]?=some (.cells #[c0,c1,c2,c3,.slice none 0 0] 266 (0,0))/\Mod (λk=>k=B) W w':=by
 have c4:W.cell? ⟨B,4,none⟩=some (.slice none 0 0):=by unfold World.cell?; rw [show W.heap[(⟨B,4,none⟩:Addr).block]?=_ from h]; rfl
 have f4:W.frozen? ⟨B,4,none⟩=false:=by unfold World.frozen?; rw [show W.heap[(⟨B,4,none⟩:Addr).block]?=_ from h]; rfl
 have H:=zq h;clear h;go_enter Tryz.func116,Tryz.ntmps116;go_wp2_with fail;go_ret;exact ⟨rfl,heap_setCell_same _ B 4 _ _ _ H.o,(Mod.refl (λk=>k=B) W).setCell (.inl rfl) _⟩
theorem api {B:Nat} {c0 c1 c2:Value} (W:World) (h:W.heap[B]?=some (.cells #[c0,c1,c2,.slice none 0 0] 268 (0,0))) :
 Calls Tryz.prog 115 #[.pointer (some ⟨B,0,none⟩),.slice none 0 0] W λe w'=>∃ v,e=.returned v/\w'.heap[B]?=some (.cells #[c0,c1,c2,.slice none 0 0] 268 (0,0))/\Mod (λk=>k=B) W w':=by
 have c3:W.cell? ⟨B,3,none⟩=some (.slice none 0 0):=by unfold World.cell?; rw [show W.heap[(⟨B,3,none⟩:Addr).block]?=_ from h]; rfl
 have A:W.frozen? ⟨B,3,none⟩=false:=by unfold World.frozen?; rw [show W.heap[(⟨B,3,none⟩:Addr).block]?=_ from h]; rfl
 have H:=zq h;clear h;go_enter Tryz.func115,Tryz.ntmps115;go_wp2_with fail;go_end0;exact ⟨_,rfl,heap_setCell_same _ B 3 _ _ _ H.o,(Mod.refl (λk=>k=B) W).setCell (.inl rfl) _⟩
def aaf (f:Nat) (B:Nat) (Q:World->Prop):Nat->World->Prop
 | 0,w=>Calls Tryz.prog f #[.pointer (some ⟨B,0,none⟩)] w λe w'=>e=.returned (.tuple #[.bool false,.int .i64 0])/\Q w'
 | n+1,w=>Calls Tryz.prog f #[.pointer (some ⟨B,0,none⟩)] w λe w'=>e=.returned (.tuple #[.bool true,.int .i64 0])/\aaf f B Q n w'
theorem ahv {B:Nat} {Q:World->Prop} (n:Nat) (hn:n<=1073741824) (w:World) (h:aaf 30 B Q n w) :
 Calls Tryz.prog 9 #[.pointer (some ⟨B,0,none⟩)] w λe w'=>e=.returned (.tuple #[.int .i64 (n:Int),.int .i64 0])/\Q w':=by
 have M:=zq h;clear h;go_enter Tryz.func9,Tryz.ntmps9;go_wp2_with fail;go_loopw [4] (λi wr=>∃ k:Nat,k<=n/\i=.int .i64 (k:Int)/\Zq (aaf 30 B Q (n - k) wr)) (λi _=>n+1 - (intOf i).toNat)
 case atStart=>exact ⟨0,Nat.zero_le _,rfl,M⟩
 case round =>
  obtain ⟨k,hk,rfl,I⟩:=hrel;clear M
  by_cases hkn:k=n
  ·
   subst hkn;have A:=I.o;rw [Nat.sub_self] at A;have E:Zq _:=zq A;clear A I;unfold aaf at E;go_wp2_with fail;refine E.o.mono ?_;rintro e w2 ⟨rfl,F⟩;have J:=zq F;clear F E;go_wp2_with fail;go_ret2;exact ⟨rfl,J.o⟩
  ·
   obtain ⟨j,N⟩:∃ j,n - k=j+1:=⟨n - k - 1,by omega⟩;have A:=I.o;rw [N] at A;have E:Zq _:=zq A;clear A I;unfold aaf at E;go_wp2_with fail;refine E.o.mono ?_;rintro e w2 ⟨rfl,F⟩;have J:=zq F;clear F E;go_wp2_with fail;go_roundw
   case rel=>exact ⟨k+1,by omega,by go_num,by rw [show n - (k+1)=j by omega]; exact J.o⟩
   case measure=>simp [intOf]; omega
theorem apj {B:Nat} {Q:World->Prop} (n:Nat) (hn:n<=1073741824) (w:World) (h:aaf 178 B Q n w) :
 Calls Tryz.prog 114 #[.pointer (some ⟨B,0,none⟩)] w λe w'=>e=.returned (.tuple #[.int .i64 (n:Int),.int .i64 0])/\Q w':=by
 have M:=zq h;clear h;go_enter Tryz.func114,Tryz.ntmps114;go_wp2_with fail;go_loopw [4] (λi wr=>∃ k:Nat,k<=n/\i=.int .i64 (k:Int)/\Zq (aaf 178 B Q (n - k) wr)) (λi _=>n+1 - (intOf i).toNat)
 case atStart=>exact ⟨0,Nat.zero_le _,rfl,M⟩
 case round =>
  obtain ⟨k,hk,rfl,I⟩:=hrel;clear M
  by_cases hkn:k=n
  ·
   subst hkn;have A:=I.o;rw [Nat.sub_self] at A;have E:Zq _:=zq A;clear A I;unfold aaf at E;go_wp2_with fail;refine E.o.mono ?_;rintro e w2 ⟨rfl,F⟩;have J:=zq F;clear F E;go_wp2_with fail;go_ret2;exact ⟨rfl,J.o⟩
  ·
   obtain ⟨j,N⟩:∃ j,n - k=j+1:=⟨n - k - 1,by omega⟩;have A:=I.o;rw [N] at A;have E:Zq _:=zq A;clear A I;unfold aaf at E;go_wp2_with fail;refine E.o.mono ?_;rintro e w2 ⟨rfl,F⟩;have J:=zq F;clear F E;go_wp2_with fail;go_roundw
   case rel=>exact ⟨k+1,by omega,by go_num,by rw [show n - (k+1)=j by omega]; exact J.o⟩
   case measure=>simp [intOf]; omega
theorem aa {w:World} {B:Nat} {cs:Array Value} {t:TypeId} (h:w.heap[B]?=some (.cells cs t (0,0))) (k:Nat) (v:Value) (hv:cs[k]?=some v):w.cell? ⟨B,k,Option.none⟩=some v:=by
 unfold World.cell?; rw [show w.heap[(⟨B,k,Option.none⟩:Addr).block]?=_ from h]; simpa using hv
theorem ae {w:World} {B:Nat} {cs:Array Value} {t:TypeId} (h:w.heap[B]?=some (.cells cs t (0,0))) (k:Nat):w.frozen? ⟨B,k,Option.none⟩=false:=by
 unfold World.frozen?; rw [show w.heap[(⟨B,k,Option.none⟩:Addr).block]?=_ from h]; rfl
theorem aj6 {w w':World} (h:Drawn w w') {B:Nat} {o:Obj} (hb:w.heap[B]?=some o):w'.heap[B]?=some o:=by rw [h.heap]; exact hb
theorem aep {base B:Nat} {T:OwnD} {q x:Value} {d:Int} (W:World) (h:OwnAt base W T) (hB:W.heap[B]?=some (.cells #[.pointer (some ⟨T.blk,0,none⟩),q,x,.int .i64 d] 147 (0,0))) (hs:(T.recs.map (·.1)).Pairwise (· < ·)) (hl:T.recs.length<=1073741824) (hn:(mi T.recs d).2=false) :
 Calls Tryz.prog 30 #[.pointer (some ⟨B,0,none⟩)] W λe w'=>e=.returned (.tuple #[.bool false,.int .i64 0])/\Drawn W w':=by
 have c0:=aa hB 0 _ rfl;have c3:=aa hB 3 _ rfl;have A:=zq (next_any d W.drew (h.below ((Below.refl _ W).drew)) hs hl);rw [hn] at A;clear h hs hl hn hB;generalize (mi T.recs d).1=p at *
 go_enter Tryz.func30,Tryz.ntmps30;go_upto_region 3 with fail
 refine GrowM.j3 (by kernel_rfl) ?_;refine GrowM.j5 8 [none,none,none,none,none,none,none,none] (λu v=>v=u) (by kernel_rfl) (by kernel_rfl) (λ_=>rfl) (λ_ _ _ h k=>k.trans h) ?_ ?_
 . exact GrowN.jy rfl
 simp only [List.take_succ_cons,List.take_zero,List.drop_succ_cons,List.drop_zero,Nat.reduceSub]
 iterate 8
  refine GrowN.g_det rfl ?_;apply Exists.intro;refine ⟨λw I E=>?_,?_⟩
  . obtain rfl:=I.symm
    clear E;go_simp
    first | exact rfl | exact ⟨rfl,rfl⟩
  go_frame
 refine GrowN.g_nil λJ F E=>?_
 obtain rfl:=F.symm;clear E;refine GrowM.qj (λv w'=>v=.tuple #[.int .i64 p,.bool false]/\Drawn W.drew w') (by kernel_rfl) rfl rfl ?_ ?_
 ·
  go_simp;refine A.o.mono ?_;rintro e w' ⟨rfl,hb⟩;exact ⟨_,rfl,rfl,hb⟩
 rintro v w2 ⟨rfl,hb⟩;go_frame;refine GrowM.j5 14 [none,none,none,none,none] (λu v=>v=u) (by kernel_rfl) (by kernel_rfl) (λ_=>rfl) (λ_ _ _ h k=>k.trans h) ?_ ?_
 . exact GrowN.jy rfl
 simp only [List.take_succ_cons,List.take_zero,List.drop_succ_cons,List.drop_zero,Nat.reduceSub]
 iterate 5
  refine GrowN.g_det rfl ?_;apply Exists.intro;refine ⟨λw I E=>?_,?_⟩
  . obtain rfl:=I.symm
    clear E;go_simp
    first | exact rfl | exact ⟨rfl,rfl⟩
  go_frame
 refine GrowN.g_nil λJ F E=>?_
 obtain rfl:=F.symm;clear E;refine GrowM.uy rfl ?_;have M:=zq hb;clear hb A;go_wp2_with fail;go_ret2;exact ⟨rfl,Drawn.trans (Drawn.refl W).drew M.o⟩
def atj (w1:World) (v:Value) (w:World):Prop:=∃ g,v=.pointer (some ⟨g,0,none⟩)/\w.heap[g]?=some (.cells #[.int .i64 0,.int .i64 0,.int .i64 0,.int .i64 0] 61 (0,0))/\w1.heap.size<=g
theorem ahw {u v:World} (h:RecW.ExtR u v) {g:Nat} {o:Obj} (hg:u.heap[g]?=some o):v.heap[g]?=some o:=by
 rw [Below.block h g (Array.getElem?_eq_some_iff.1 hg).1]; exact hg
theorem am3 (p:Int):mi [] p=(0,false):=rfl
theorem ahx (x:Nat×Msg) (l:List (Nat×Msg)) (p:Int) (h:(x.1:Int) < p):mi (x :: l) p=mi l p:=by
 unfold mi TapeW.placeL idI;rw [List.map_cons,List.countP_cons_of_pos (by simpa using h),List.drop_succ_cons]
theorem ahy (x:Nat×Msg) (l:List (Nat×Msg)) (p:Int) (h:p<=(x.1:Int)) (hs:((x :: l).map (·.1)).Pairwise (· < ·)):mi (x :: l) p=((x.1:Int),true):=by
 have:TapeW.placeL (x :: l) p=0:=by
  unfold TapeW.placeL idI;rw [List.countP_eq_zero];intro i B;obtain ⟨y,A,rfl⟩:=List.mem_map.1 B
  have:x.1<=y.1:=by
   rcases List.mem_cons.1 A with rfl | A
   . exact Nat.le_refl _
   . rw [List.map_cons,List.pairwise_cons] at hs
     exact Nat.le_of_lt (hs.1 y.1 (List.mem_map.2 ⟨y,A,rfl⟩))
  simp; omega
 unfold mi;rw [this]; rfl
theorem aeq (p:Int):∀ l:List (Nat×Msg),(l.map (·.1)).Pairwise (· < ·)->(mi l p).2=true->∃ id m,(id,m)∈l/\mi l p=((id:Int),true)/\p<=(id:Int)
 | [],_,h=>by rw [am3] at h; cases h
 | x :: l,hs,h=>by
   by_cases hx:(x.1:Int) < p
   . rw [ahx x l p hx] at h ⊢
     rw [List.map_cons,List.pairwise_cons] at hs;obtain ⟨id,m,h1,A,B⟩:=aeq p l hs.2 h;exact ⟨id,m,List.mem_cons_of_mem _ h1,A,B⟩
   . exact ⟨x.1,x.2,List.mem_cons_self ..,ahy x l p (by omega) hs,by omega⟩
theorem aj7 {base B:Nat} {T:TapeD} (q x:Value) (cs4:Value) (d e0:Int) (W:World) (h0r:T.O.recs=[]) (h:TapeAt base W T) (hT:TabB base W) (hbase:base<=W.heap.size) (hup:T.D.down=false)
 (hB:W.heap[B]?=some (.cells #[.pointer (some ⟨T.O.blk,0,none⟩),q,x,.int .i64 e0,cs4] 266 (0,0))) (hl:T.O.recs.length<=1073741824) (hk:∀ p∈T.O.recs,p.2.kind≠2) (hd:0<=d/\d<=200000000) :
 Calls Tryz.prog 225 #[.pointer (some ⟨B,0,none⟩),.int .i64 d] W λe w'=>e=.returned (.tuple #[.int .i64 0,.agg #[.int .i64 0,.int .i64 0,.int .i64 0,.int .i64 0,.int .i64 0,.int .i64 0,.string ⟨#[]⟩,.string ⟨#[]⟩,.string ⟨#[]⟩,.slice none 0 0],.bool false])/\Below W.heap.size W w':=by
 have ak:=zq h0r;clear h0r;have U:=(Array.getElem?_eq_some_iff.1 hB).1;have J:(T.O.recs.map (·.1)).Pairwise (· < ·):=by rw [h.recs]; exact (ol h.fits).2
 have al:=zq (λp=>aeq p T.O.recs J);have am:Zq (∀ p w,Below W.heap.size W w->Calls Tryz.prog 72 #[.pointer (some ⟨T.O.blk,0,none⟩),.int .i64 p] w λe w'=>e=.returned (.tuple #[.int .i64 (mi T.O.recs p).1,.bool (mi T.O.recs p).2])/\Drawn w w'):=λp w hb=>next_any p w (h.own.below hb) J hl
 have ba:Zq (∀ w,Below W.heap.size W w->Calls Tryz.prog 73 #[.pointer (some ⟨T.O.blk,0,none⟩)] w λe w'=>e=.returned (.int .i64 (T.R.synced:Int))/\w'=w):=λw hb=>TapeW.synced_any w (h.below hb)
 have bb:Zq (∀ id m w,(id,m)∈T.O.recs->Below W.heap.size W w->Calls Tryz.prog 16 #[.pointer (some ⟨T.O.blk,0,none⟩),.int .i64 (id:Int)] w λe w'=>∃ a c,e=.returned (.tuple #[.agg (af m a c),.int .i64 0])/\Below w.heap.size w w'):=λid m w M hb =>
  (yw id m w (h.below hb) hup (hT.below hb) (Nat.le_trans hbase hb.size) M).mono λe w' ⟨a,c,h5,h6,h7,h8⟩=>⟨a,c,h5,h7⟩
 have bh:Zq (∀ id m w,(id,m)∈T.O.recs->Below W.heap.size W w->Calls Tryz.prog 52 #[.pointer (some ⟨T.O.blk,0,none⟩),.int .i64 (id:Int)] w λe w'=>e=.returned (.int .i64 ((bg m).length:Int))/\w'=w):=λid m w M hb=>by
  have:=size_any (id:Int) w (h.own.below hb);rw [aen (abp h) M] at this;exact this
 have bj:Zq (∀ id m,(id,m)∈T.O.recs->1<=(bg m).length/\(bg m).length<=1024/\id<=100004095):=λid m M=>by
  obtain ⟨a1,a2,a3,a4,a5,a6⟩:=wh h M;have:=acd m;have:=h.whole.seg.e_le;omega
 have HB:Zq (∀ w,Below W.heap.size W w->w.cell? ⟨B,0,none⟩=some (.pointer (some ⟨T.O.blk,0,none⟩))):=λw hb=>aa ((hb.block B U).trans hB) 0 _ rfl
 have HK:=zq hk;have X:Zq (Below W.heap.size W (W.alloc (.cells #[.int .i64 0,.int .i64 0,.int .i64 0,.int .i64 0,.int .i64 0,.int .i64 0,.string ⟨#[]⟩,.string ⟨#[]⟩,.string ⟨#[]⟩,.slice none 0 0] 65))):=(Below.refl _ W).alloc (Nat.le_refl _) _;have Y:Zq ((W.alloc (.cells #[.int .i64 0,.int .i64 0,.int .i64 0,.int .i64 0,.int .i64 0,.int .i64 0,.string ⟨#[]⟩,.string ⟨#[]⟩,.string ⟨#[]⟩,.slice none 0 0] 65)).heap[W.heap.size]?=some (.cells #[.int .i64 0,.int .i64 0,.int .i64 0,.int .i64 0,.int .i64 0,.int .i64 0,.string ⟨#[]⟩,.string ⟨#[]⟩,.string ⟨#[]⟩,.slice none 0 0] 65 (0,0))):=heap_alloc_new W _;have Z:Zq ((W.alloc (.cells #[.int .i64 0,.int .i64 0,.int .i64 0,.int .i64 0,.int .i64 0,.int .i64 0,.string ⟨#[]⟩,.string ⟨#[]⟩,.string ⟨#[]⟩,.slice none 0 0] 65)).heap.size=W.heap.size+1):=by exact Array.size_push _
 generalize T.O.recs=recs at *
 generalize T.R.synced=sy at *
 generalize T.O.blk=tb at *
 clear h hT hbase hup hB hl hk J U;go_enter Tryz.func225,Tryz.ntmps225;go_wp2_with fail;generalize W.alloc (.cells #[.int .i64 0,.int .i64 0,.int .i64 0,.int .i64 0,.int .i64 0,.int .i64 0,.string ⟨#[]⟩,.string ⟨#[]⟩,.string ⟨#[]⟩,.slice none 0 0] 65)=w1 at *
 obtain ⟨A,hA⟩:∃ A,W.heap.size=A:=⟨_,rfl⟩;have ab:=zq hA;rw [hA] at Y Z;clear hA;rw [ab.o];go_loopw [1] (λi wr=>∃ p:Int,0<=p/\p<=200000000/\i=.int .i64 p/\Zq (Below w1.heap.size w1 wr)) (λi _=>sy - (intOf i).toNat)
 case atStart=>exact ⟨d,hd.1,hd.2,rfl,Below.refl _ _⟩
 case round =>
  obtain ⟨p,bl,bm,rfl,HR⟩:=hrel;have hb:Below W.heap.size W wr:=X.o.trans (HR.o.mono X.o.size);have c0:=HB.o wr hb;have HN:=zq (am.o p wr hb);have ao:=zq hb;have I:=zq (al.o p);clear hb
  cases hok:(mi recs p).2 with
  | false =>
    rw [hok] at HN;have ap:Zq (wr.heap[A]?=some (.cells #[.int .i64 0,.int .i64 0,.int .i64 0,.int .i64 0,.int .i64 0,.int .i64 0,.string ⟨#[]⟩,.string ⟨#[]⟩,.string ⟨#[]⟩,.slice none 0 0] 65 (0,0))):=(HR.o.block A (by have:=Z.o; omega)).trans Y.o;clear I hok;generalize (mi recs p).1=np at *
    go_wp2_with fail;refine HN.o.mono ?_;rintro e w2 ⟨rfl,N⟩;have ac:Zq (Below W.heap.size W w2):=ao.o.trans (N.below _);have E:w2.heap[A]?=some (.cells #[.int .i64 0,.int .i64 0,.int .i64 0,.int .i64 0,.int .i64 0,.int .i64 0,.string ⟨#[]⟩,.string ⟨#[]⟩,.string ⟨#[]⟩,.slice none 0 0] 65 (0,0)):=aj6 N ap.o;have bo:=zq E;have HH:=zq (kw rfl E (.int .i64 0) (.int .i64 0) (.int .i64 0) (.int .i64 0) (.int .i64 0) (.int .i64 0) (.string ⟨#[]⟩) (.string ⟨#[]⟩) (.string ⟨#[]⟩) (.slice none 0 0));have ar:=zq (mg w2 A (.int .i64 0) (.int .i64 0) (.int .i64 0) (.int .i64 0) (.int .i64 0) (.int .i64 0) (.string ⟨#[]⟩) (.string ⟨#[]⟩) (.string ⟨#[]⟩) (.slice none 0 0));clear N HN c0;have y0:=aa E 0 _ rfl;have z0:=ae E 0;have y1:=aa E 1 _ rfl;have z1:=ae E 1;have y2:=aa E 2 _ rfl;have z2:=ae E 2;have y3:=aa E 3 _ rfl;have z3:=ae E 3;have y4:=aa E 4 _ rfl;have z4:=ae E 4;have y5:=aa E 5 _ rfl;have z5:=ae E 5;have y6:=aa E 6 _ rfl;have z6:=ae E 6;have y7:=aa E 7 _ rfl;have z7:=ae E 7;have y8:=aa E 8 _ rfl;have z8:=ae E 8;have y9:=aa E 9 _ rfl;have z9:=ae E 9;clear E;go_wp2_with fail;clear y0 y1 y2 y3 y4 y5 y6 y7 y8 y9 z0 z1 z2 z3 z4 z5 z6 z7 z8 z9;change bodyPost _ _ _ _ _ (o9 w2 A (.int .i64 0) (.int .i64 0) (.int .i64 0) (.int .i64 0) (.int .i64 0) (.int .i64 0) (.string ⟨#[]⟩) (.string ⟨#[]⟩) (.string ⟨#[]⟩) (.slice none 0 0));generalize o9 w2 A (.int .i64 0) (.int .i64 0) (.int .i64 0) (.int .i64 0) (.int .i64 0) (.int .i64 0) (.string ⟨#[]⟩) (.string ⟨#[]⟩) (.string ⟨#[]⟩) (.slice none 0 0)=w9 at *
    have F:=HH.o;have c0:=aa F 0 _ rfl;have c1:=aa F 1 _ rfl;have c2:=aa F 2 _ rfl;have c3:=aa F 3 _ rfl;have c4:=aa F 4 _ rfl;have c5:=aa F 5 _ rfl;have c6:=aa F 6 _ rfl;have c7:=aa F 7 _ rfl;have c8:=aa F 8 _ rfl;have c9:=aa F 9 _ rfl;have av:Below W.heap.size W w9:=ac.o.trans (ar.o.to_below _ ac.o.size (λk e=>by rw [e,ab.o]; exact Nat.le_refl _));refine bodyPost_ret (v:=.tuple #[.int .i64 0,.agg #[.int .i64 0,.int .i64 0,.int .i64 0,.int .i64 0,.int .i64 0,.int .i64 0,.string ⟨#[]⟩,.string ⟨#[]⟩,.string ⟨#[]⟩,.slice none 0 0],.bool false]) ?_ rfl ⟨rfl,av⟩;clear F;simp [results,Tryz.results225,go_sem,c0,c1,c2,c3,c4,c5,c6,c7,c8,c9]
  | true =>
    obtain ⟨id,m,M,a7,ca⟩:=I.o hok;rw [a7] at HN;exact absurd M (by rw [ak.o]; exact List.not_mem_nil)
theorem aj8 {base B:Nat} {T:TapeD} (q x:Value) (cs4:Value) (d:Int) (W:World) (h0r:T.O.recs=[]) (h:TapeAt base W T) (hT:TabB base W) (hbase:base<=W.heap.size) (hup:T.D.down=false)
 (hB:W.heap[B]?=some (.cells #[.pointer (some ⟨T.O.blk,0,none⟩),q,x,.int .i64 d,cs4] 266 (0,0))) (hl:T.O.recs.length<=1073741824) (hk:∀ p∈T.O.recs,p.2.kind≠2) (hd:0<=d/\d<=200000000) :
 Calls Tryz.prog 178 #[.pointer (some ⟨B,0,none⟩)] W λe w'=>e=.returned (.tuple #[.bool false,.int .i64 0])/\Below W.heap.size W w':=by
 have A:=zq (aj7 q x cs4 d d W h0r h hT hbase hup hB hl hk hd);have c3:=aa hB 3 _ rfl;clear h0r h hT hbase hup hB hl hk;go_enter Tryz.func178,Tryz.ntmps178;go_wp2_with fail;refine A.o.mono ?_;rintro e w2 ⟨rfl,hb⟩;have E:Zq (Below W.heap.size W (w2.alloc (.cells #[.int .i64 0,.int .i64 0,.int .i64 0,.int .i64 0,.int .i64 0,.int .i64 0,.string ⟨#[]⟩,.string ⟨#[]⟩,.string ⟨#[]⟩,.slice none 0 0] 65))):=hb.alloc hb.size _;clear hb A c3;go_wp2_with fail;go_ret2;exact ⟨rfl,E.o⟩
theorem am4 {base B:Nat} {T:TapeD} (q x:Value) (cs4:Value) (d:Int) (W:World) (h0r:T.O.recs=[]) (h:TapeAt base W T) (hT:TabB base W) (hbase:base<=W.heap.size) (hup:T.D.down=false)
 (hB:W.heap[B]?=some (.cells #[.pointer (some ⟨T.O.blk,0,none⟩),q,x,.int .i64 d,cs4] 266 (0,0))) (hl:T.O.recs.length<=1073741824) (hk:∀ p∈T.O.recs,p.2.kind≠2) (hd:0<=d/\d<=200000000) :
 Calls Tryz.prog 114 #[.pointer (some ⟨B,0,none⟩)] W λe w'=>e=.returned (.tuple #[.int .i64 0,.int .i64 0])/\Below W.heap.size W w' :=
 apj (Q:=λw=>Below W.heap.size W w) 0 (by omega) W (aj8 q x cs4 d W h0r h hT hbase hup hB hl hk hd)
theorem am5 {base B:Nat} {T:OwnD} {q x:Value} {d:Int} (W:World) (h:OwnAt base W T) (hB:W.heap[B]?=some (.cells #[.pointer (some ⟨T.blk,0,none⟩),q,x,.int .i64 d] 147 (0,0))) (hs:(T.recs.map (·.1)).Pairwise (· < ·)) (hl:T.recs.length<=1073741824) (hn:(mi T.recs d).2=false) :
 Calls Tryz.prog 9 #[.pointer (some ⟨B,0,none⟩)] W λe w'=>e=.returned (.tuple #[.int .i64 0,.int .i64 0])/\Drawn W w' :=
 ahv (Q:=λw=>Drawn W w) 0 (by omega) W (aep W h hB hs hl hn)
end StoW
namespace TopW
open Go.RowKit OctMath DskW
theorem ac3 {base:Nat} {D:DiskD} (nm:List UInt8) (w:World) (h:DiskAt base w D) (hup:D.down=false) (hn:D.find nm=none) :
 Calls Tryz.prog 168 #[.pointer (some ⟨D.blk,0,none⟩),.string (S nm)] w λe w'=>e=.returned (.tuple #[.string (S []),.bool false,.int .i64 0])/\Below w.heap.size w w':=by
 have B:=zq (ak2 nm w h);have hb:D.bars [nm]=9:=by rw [vg,hup,hn]; rfl
 have F:D.allT nm=[]:=by unfold DiskD.allT; rw [hb]; rfl
 rw [hb,F] at B;have I:S []=⟨#[]⟩:=rfl;clear h hup hn hb F;go_enter Tryz.func168,Tryz.ntmps168;go_wp2_with fail;refine B.o.mono ?_;rintro e w1 ⟨rfl,A⟩;have E:=zq A;clear A B;go_wp2_with fail;go_ret3;exact ⟨rfl,E.o⟩
def jw:List UInt8:=[116,111,112,105,99,115]
def ads:List UInt8:=[103,114,111,117,112,115]
def ahz:List UInt8:=[98,97,115,101]
theorem ah0 {base:Nat} {D:DiskD} (w:World) (h:DiskAt base w D) (hup:D.down=false) (hn:D.find jw=none) :
 Calls Tryz.prog 101 #[.pointer (some ⟨D.blk,0,none⟩)] w λe w'=>∃ b,e=.returned (.tuple #[.pointer (some ⟨b,0,none⟩),.int .i64 0])/\Below w.heap.size w w'/\w.heap.size<=b/\w'.heap[b]?=some (.cells #[.pointer (some ⟨D.blk,0,none⟩),.slice none 0 0] 134 (0,0)):=by
 have E:=zq (ac3 jw w h hup hn);clear h hup hn;go_enter Tryz.func101,Tryz.ntmps101;go_wp2_with fail;refine E.o.mono ?_;rintro e w1 ⟨rfl,B⟩;have A:=zq B;clear B E;go_wp2_with fail;go_ret2;exact ⟨w1.heap.size,rfl,A.o.alloc A.o.size _,A.o.size,heap_alloc_new w1 _⟩
theorem ah1 {base:Nat} {D:DiskD} (w:World) (h:DiskAt base w D) (hup:D.down=false) (hn:D.find ads=none) :
 Calls Tryz.prog 102 #[.pointer (some ⟨D.blk,0,none⟩)] w λe w'=>∃ b,e=.returned (.tuple #[.pointer (some ⟨b,0,none⟩),.int .i64 0])/\Below w.heap.size w w'/\w.heap.size<=b/\w'.heap[b]?=some (.cells #[.pointer (some ⟨D.blk,0,none⟩),.slice none 0 0] 117 (0,0)):=by
 have E:=zq (ac3 ads w h hup hn);clear h hup hn;go_enter Tryz.func102,Tryz.ntmps102;go_wp2_with fail;refine E.o.mono ?_;rintro e w1 ⟨rfl,B⟩;have A:=zq B;clear B E;go_wp2_with fail;go_ret2;exact ⟨w1.heap.size,rfl,A.o.alloc A.o.size _,A.o.size,heap_alloc_new w1 _⟩
theorem adh {base:Nat} {D:DiskD} (w:World) (h:DiskAt base w D) (hup:D.down=false) (hn:D.find ahz=none) :
 Calls Tryz.prog 103 #[.pointer (some ⟨D.blk,0,none⟩)] w λe w'=>e=.returned (.tuple #[.agg #[.int .i64 0,.slice none 0 0],.bool false,.int .i64 0])/\Below w.heap.size w w':=by
 have E:=zq (λ(w2:World) (hb:Below w.heap.size w w2)=>ac3 ahz w2 (h.below hb) hup hn);clear h hup hn;go_enter Tryz.func103,Tryz.ntmps103;go_wp2_with fail;refine (E.o _ ((Below.refl _ _).alloc (Nat.le_refl _) _)).mono ?_;rintro e w1 ⟨rfl,A⟩
 have g:w1.heap[w.heap.size]?=some (.cells #[.int .i64 0,.slice none 0 0] 182 (0,0)):=by
  have h1:=A.block w.heap.size (by rw [World.size_alloc]; omega);rw [h1]; exact heap_alloc_new w _
 have B:=zq (((Below.refl w.heap.size w).alloc (Nat.le_refl _) (.cells #[.int .i64 0,.slice none 0 0] 182)).trans (A.mono (by rw [World.size_alloc]; omega)));have a0:w1.cell? ⟨w.heap.size,0,none⟩=some (.int .i64 0):=by rw [Lib.cell_of_heap g]; rfl
 have F:w1.cell? ⟨w.heap.size,1,none⟩=some (.slice none 0 0):=by rw [Lib.cell_of_heap g]; rfl
 have b0:w1.frozen? ⟨w.heap.size,0,none⟩=false:=Lib.frozen_of_heap g 0;have I:w1.frozen? ⟨w.heap.size,1,none⟩=false:=Lib.frozen_of_heap g 1;clear A E;go_wp2_with fail;refine bodyPost_ret (v:=.tuple #[.agg #[.int .i64 0,.slice none 0 0],.bool false,.int .i64 0]) ?_ rfl ⟨rfl,?_⟩
 . simp [results,Tryz.results103,go_sem,a0,F]
 . exact (B.o.setCell (p:=⟨w.heap.size,0,none⟩) (Nat.le_refl _) _).setCell (p:=⟨w.heap.size,1,none⟩) (Nat.le_refl _) _
end TopW
namespace CacheW
open Go.RowKit OctMath DskW SegW
structure Grows (D D':DiskD) (ns:List (List UInt8)) (sz wt:Nat):Prop where
 quiet:Quiet D'
 blk:D'.blk=D.blk
 cap:D'.cap=D.cap
 names:D'.files.map (·.1)=D.files.map (·.1)++ns
 size:D'.size=D.size+sz
 waits:D'.waits.length=D.waits.length+wt
theorem Grows.trans {D D1 D2:DiskD} {a b:List (List UInt8)} {s t m n:Nat} (h:Grows D D1 a s m) (k:Grows D1 D2 b t n):Grows D D2 (a++b) (s+t) (m+n) :=
 ⟨k.quiet,k.blk.trans h.blk,k.cap.trans h.cap,by rw [k.names,h.names,List.append_assoc],by rw [k.size,h.size,Nat.add_assoc],by rw [k.waits,h.waits,Nat.add_assoc]⟩
theorem Grows.refl {D:DiskD} (h:Quiet D):Grows D D [] 0 0:=⟨h,rfl,rfl,by rw [List.append_nil],rfl,rfl⟩
theorem Grows.room {D D':DiskD} {a:List (List UInt8)} {s n:Nat} (h:Grows D D' a s n):D'.room=D.room - (s:Int):=by
 unfold DiskD.room; rw [h.cap,h.size]; omega
theorem yx {D:DiskD} {n:List UInt8}:D.find n=none↔n∉D.files.map (·.1):=by
 rw [<- aap]
 cases D.find n <;> simp
theorem ace {base:Nat} {D:DiskD} (n:List UInt8) (w:World) (h:DiskAt base w D) (hq:Quiet D) (hn:n∉D.files.map (·.1)) (hbase:base<=w.heap.size) :
 Calls Tryz.prog 173 #[.pointer (some ⟨D.blk,0,none⟩),.string (S n)] w λe w'=>e=.returned (.int .i64 0)/\∃ D',DiskAt base w' D'/\Grows D D' [n] 0 0/\Mod D.foot w w'/\(∀ k,D'.foot k->D.foot k\/w.heap.size<=k)/\(∃ f,D'.find n=some f/\f.now=[])/\∀ m,m≠n->D'.find m=D.find m:=by
 have A:=yx.2 hn;refine (zl n w h hbase).mono ?_;rintro e w' ⟨b,hb,rfl,hd,B⟩;refine ⟨by rw [hq.createE A],D.create n b,hd,?_,B,λk hk=>?_,?_,λm B=>?_⟩
 ·
  rw [hq.create A];refine ⟨⟨hq.left,hq.up⟩,rfl,rfl,by rw [List.map_append]; rfl,?_,rfl⟩;show gu (D.files++[(n,(⟨b,[],[]⟩:FileD))])=gu D.files+0;rw [zm]; rfl
 . rcases xn hk with h1 | h1
   . exact .inl h1
   . right; omega
 . exact ⟨⟨b,[],[]⟩,by rw [aao hq A,if_pos rfl],rfl⟩
 . rw [aao hq A,if_neg B]
theorem agw {base:Nat} {D:DiskD} (n:List UInt8) (f:FileD) (t:List UInt8) (w:World) (h:DiskAt base w D) (hq:Quiet D) (hf:D.find n=some f) (o:Nat) (ho:o=f.now.length) (ht:t≠[]) (htl:t.length<=1048576) (hr:(t.length:Int)<=D.room) (hwl:D.waits.length<=1048576) (hbase:base<=w.heap.size) :
 Calls Tryz.prog 174 #[.pointer (some ⟨D.blk,0,none⟩),.string (S n),.int .i64 (o:Int),.string (S t)] w λe w'=>e=.returned (.int .i64 0)/\∃ D',DiskAt base w' D'/\Grows D D' [] t.length 1/\Mod D.foot w w'/\(∀ k,D'.foot k->D.foot k\/w.heap.size<=k)/\(∃ f',D'.find n=some f'/\f'.now=f.now++t)/\∀ m,m≠n->D'.find m=D.find m:=by
 have A:=h.small n
 have J:f.now.length<=16777216:=by
  unfold DiskD.bytes at A; rw [hf] at A; exact A
 refine (aa4 n (o:Int) (by omega) t (by omega) hwl w h hbase).mono ?_;rintro e w' ⟨wv,rfl,hd,M,hk⟩;obtain ⟨h1,E⟩:=hq.write h.names hf (o:=(o:Int)) (by rw [ho]) ht hr wv;have B:=oz hf;refine ⟨by rw [h1],D.write n (o:Int) t wv,hd,?_,M,hk,?_,λm F=>?_⟩
 ·
  rw [E];refine ⟨⟨hq.left,hq.up⟩,rfl,rfl,by rw [List.append_nil]; exact abm _ _ _,?_,by simp⟩;have:=aa3 D.files n (f.now++t) f h.names B;rw [List.length_append] at this;show gu (fe D.files n (f.now++t))=gu D.files+t.length;omega
 ·
  rw [E];have:=ui D.files n (f.now++t) n;rw [if_pos rfl] at this;refine ⟨{ f with now:=f.now++t },?_,rfl⟩;have I:(D.files.find? λp=>p.1 == n).map (·.2)=some f:=hf;show (((fe D.files n (f.now++t)).find? λp=>p.1 == n).map (·.2))=_;rw [this,I]; rfl
 ·
  rw [E];have:=ui D.files n (f.now++t) m;rw [if_neg F] at this;exact this
theorem apk {D:DiskD} {hd:List UInt8} (h:∀ x∈D.files.map (·.1),Lib.hasPrefix x hd=false):D.list hd=[]:=by
 cases hl:D.list hd with
 | nil=>rfl
 | cons x l =>
   have A:x∈D.list hd:=by rw [hl]; exact .head _
   have:=ab7.1 A;rw [h x this.2] at this;exact absurd this.1 (by decide)
theorem agx {base:Nat} {D:DiskD} (hd:List UInt8) (w:World) (h:DiskAt base w D) (hfl:D.files.length<=1048576) (hnl:∀ p∈D.files,p.1.length<=maxLen) (hno:∀ x∈D.files.map (·.1),Lib.hasPrefix x hd=false) :
 Calls Tryz.prog 120 #[.pointer (some ⟨D.blk,0,none⟩),.string (S hd)] w λe w'=>(∃ a c,e=.returned (.slice a 0 c))/\Below w.heap.size w w':=by
 refine (list_any hd w h hfl hnl).mono ?_;rintro e w' ⟨v,rfl,A,hb⟩;rw [apk hno] at A;obtain ⟨a,c,rfl,-⟩:=Row1.of_own A;exact ⟨⟨a,c,rfl⟩,hb⟩
open MapG
structure QueD where
 topic:List UInt8
 q:Int
 blk:Nat
 R:SegD
 b0:Nat
 least:Nat
structure CqD where
 blk:Nat
 db:Nat
 mB:Nat
 qs:List QueD
def QueD.key (x:QueD):Value:=.agg #[.string (S x.topic),.int .i64 x.q]
def QueD.cells (x:QueD):Array Value:=#[.pointer (some ⟨x.R.blk,0,none⟩),.int .i64 (x.b0:Int),.int .i64 (x.least:Int)]
structure CqAt (base:Nat) (w:World) (C:CqD):Prop where
 cells:w.heap[C.blk]?=some (.cells #[.pointer (some ⟨C.db,0,none⟩),.map (some C.mB)] 151 (0,0))
 map:PairsAt w C.mB (C.qs.map λx=>(x.key,.pointer (some ⟨x.blk,0,none⟩)))
 que:∀ x∈C.qs,w.heap[x.blk]?=some (.cells x.cells 102 (0,0))/\SegAt base w x.R/\x.R.db=C.db
 low:base<=C.blk/\base<=C.mB/\∀ x∈C.qs,base<=x.blk
 away:∀ x∈C.qs,x.blk≠C.mB/\x.blk≠C.blk/\∀ k,x.R.foot k->k≠C.mB/\k≠C.blk/\k≠x.blk
 sep:C.qs.Pairwise λx y=>∀ k,(k=x.blk\/x.R.foot k)->¬ (k=y.blk\/y.R.foot k)
def CqD.foot (C:CqD) (k:Nat):Prop:=k=C.blk\/k=C.mB\/∃ x∈C.qs,k=x.blk\/x.R.foot k
theorem CqAt.lt {base:Nat} {w:World} {C:CqD} (h:CqAt base w C) {k:Nat} (hk:C.foot k):k < w.heap.size:=by
 rcases hk with hk | hk | ⟨x,hx,hk | hk⟩
 . rw [hk]; exact (Array.getElem?_eq_some_iff.1 h.cells).1
 . rw [hk]; exact h.map.lt
 . rw [hk]; exact (Array.getElem?_eq_some_iff.1 (h.que x hx).1).1
 . exact (h.que x hx).2.1.lt hk
theorem CqAt.mod {base:Nat} {w w':World} {C:CqD} {M:Nat->Prop} (h:CqAt base w C) (hm:Mod M w w') (hM:∀ k,C.foot k->¬ M k):CqAt base w' C :=
 ⟨(hm.block _ (h.lt (.inl rfl)) (hM _ (.inl rfl))).trans h.cells,h.map.mod hm (hM _ (.inr (.inl rfl))),
  λx A=>⟨(hm.block _ (h.lt (.inr (.inr ⟨x,A,.inl rfl⟩))) (hM _ (.inr (.inr ⟨x,A,.inl rfl⟩)))).trans (h.que x A).1,(h.que x A).2.1.mod hm (λk hk=>hM k (.inr (.inr ⟨x,A,.inr hk⟩))),(h.que x A).2.2⟩,h.low,h.away,h.sep⟩
theorem CqAt.below {base:Nat} {w w':World} {C:CqD} (h:CqAt base w C) (hb:Below w.heap.size w w'):CqAt base w' C :=
 h.mod (M:=λ_=>False) (Mod.of_below hb) (λ_ _ h=>h)
theorem ar1 {base:Nat} {D:DiskD} (w:World) (h:DiskAt base w D) (hfl:D.files.length<=1048576) (hnl:∀ p∈D.files,p.1.length<=maxLen) (hno:∀ x∈D.files.map (·.1),Lib.hasPrefix x [113,45]=false) (hbase:base<=w.heap.size) :
 Calls Tryz.prog 106 #[.pointer (some ⟨D.blk,0,none⟩)] w λe w'=>∃ C,e=.returned (.tuple #[.pointer (some ⟨C.blk,0,none⟩),.int .i64 0])/\CqAt base w' C/\C.qs=[]/\C.db=D.blk/\Below w.heap.size w w'/\∀ k,C.foot k->w.heap.size<=k:=by
 have F:=zq (agx [113,45] w h hfl hnl hno);have E:=zq hbase;clear h hfl hnl hno hbase;have I:∀ w:World,(Instr.makeMap 149 none).run Tryz.prog w=.ok (.map (some w.heap.size)) (w.alloc (.map #[] 0)):=λ_=>rfl
 go_enter Tryz.func106,Tryz.ntmps106;go_wp2_with fail;refine F.o.mono ?_;rintro e w1 ⟨⟨a,c,rfl⟩,hb⟩;have J:=zq hb;clear hb F;go_wp2_with fail;go_ret2;have B:=J.o;have M:=B.size;have N:=E.o;refine ⟨⟨w1.heap.size+1,D.blk,w1.heap.size,[]⟩,by first | rfl | (rw [World.size_alloc]),⟨?_,?_,λx A=>absurd A List.not_mem_nil,⟨by show base<=w1.heap.size+1; omega,by show base<=w1.heap.size; omega,λx A=>absurd A List.not_mem_nil⟩,(λx A=>absurd A List.not_mem_nil),List.Pairwise.nil⟩,rfl,rfl,?_,λk hk=>?_⟩
 . have:=heap_alloc_new (w1.alloc (.map #[] 0)) (.cells #[.pointer (some ⟨D.blk,0,none⟩),.map (some w1.heap.size)] 151)
   rw [World.size_alloc] at this; exact this
 . exact (PairsAt.new w1).below ((Below.refl _ _).alloc (Nat.le_refl _) _)
 . exact (B.alloc M _).alloc (by rw [World.size_alloc]; omega) _
 ·
  rcases hk with hk | hk | ⟨x,A,_⟩
  . have:k=w1.heap.size+1:=hk
    omega
  . have:k=w1.heap.size:=hk
    omega
  . exact absurd A List.not_mem_nil
def jg:List UInt8:=[120,45,108,105,110,107,115]
def jd:List UInt8:=[120,45,115,108,111,116,115]
def oo:List UInt8:=[119,45,115,108,111,116,115]
def ul:List UInt8:=[119,45,109,97,114,107,115]
def wm (n:Nat):List UInt8:=List.replicate n 0
theorem ah2 (n:Nat) (hn:n<=1048576) (w:World):(Instr.makeSlice 237 (.int .i64 (n:Int)) (.int .i64 (n:Int))).run Tryz.prog w=.ok (.slice (some ⟨w.heap.size,0,none⟩) n n) (w.alloc (.cells (zeros n) 5)) /\
 (convert 237 9 (.slice (some ⟨w.heap.size,0,none⟩) n n)).run Tryz.prog (w.alloc (.cells (zeros n) 5))=.ok (.string (S (wm n))) (w.alloc (.cells (zeros n) 5)):=by
 obtain ⟨i0,F,A,B,E⟩:=info_parts (show (Tryz.prog.info? 5).map (λi=>(i.zero,i.size,i.bytes))=some (some (.int .u8 0),1,1) by kernel_rfl);refine ⟨aaj (P:=Tryz.prog) w 237 5 i0 Tryz.underlying237 F A B E n hn,?_⟩;exact zf (P:=Tryz.prog) (afh w 5 n) 237 5 9 Tryz.underlying237 Tryz.underlying5 Tryz.underlying9 n n (by simp)
theorem adt {ns:List (List UInt8)} {hd n:List UInt8} (h:∀ x∈ns,Lib.hasPrefix x hd=false) (hn:Lib.hasPrefix n hd=true):n∉ns:=λA=>by
 rw [h n A] at hn; cases hn
theorem aj9 {base:Nat} {D:DiskD} (p:Nat) (hp:p<=1099511627776) (w:World) (h:DiskAt base w D) (hq:Quiet D) (hfl:D.files.length<=1000) (hnl:∀ p∈D.files,p.1.length<=maxLen) (hno:∀ x∈D.files.map (·.1),Lib.hasPrefix x [119,45]=false) (hr:96<=D.room) (hwl:D.waits.length<=1000) (hbase:base<=w.heap.size) :
 Calls Tryz.prog 175 #[.pointer (some ⟨D.blk,0,none⟩),.int .i64 (p:Int)] w λe w'=>∃ b,e=.returned (.tuple #[.pointer (some ⟨b,0,none⟩),.int .i64 0])/\w'.heap[b]?=some (.cells #[.pointer (some ⟨D.blk,0,none⟩),.int .i64 (p:Int)] 317 (0,0))/\w.heap.size<=b /\
  ∃ D',DiskAt base w' D'/\Grows D D' [oo] 96 1/\Mod D.foot w w'/\(∀ k,D'.foot k->(D.foot k\/w.heap.size<=k)/\k≠b)/\(∀ m,m≠oo->D'.find m=D.find m)/\∃ f,D'.find oo=some f/\f.now.length=96:=by
 have HL:=zq (agx [119,45] w h (by omega) hnl hno);have HC:=zq (λ(w2:World) (hb:Below w.heap.size w w2)=>ace oo w2 (h.below hb) hq (adt hno rfl) (Nat.le_trans hbase hb.size));have HZ:=zq (λ(w:World)=>ah2 96 (by omega) w);have HR:=zq hr;have ar:=zq hwl;have av:=zq hbase;have a6:Zq (∀ w:World,(Instr.makeSlice 237 (.int .i64 96) (.int .i64 96)).run Tryz.prog w=.ok (.slice (some ⟨w.heap.size,0,none⟩) 96 96) (w.alloc (.cells (zeros 96) 5))):=λw=>(HZ.o w).1
 have a7:Zq (∀ w:World,(convert 237 9 (.slice (some ⟨w.heap.size,0,none⟩) 96 96)).run Tryz.prog (w.alloc (.cells (zeros 96) 5))=.ok (.string (S (wm 96))) (w.alloc (.cells (zeros 96) 5))):=λw=>(HZ.o w).2
 clear h hq hfl hnl hno hr hwl hbase HZ;go_enter Tryz.func175,Tryz.ntmps175;go_wp2_with fail;refine HL.o.mono ?_;rintro e w1 ⟨⟨a,c,rfl⟩,hb⟩;have B:=zq hb;clear hb HL;go_wp2_with fail;refine (HC.o w1 B.o).mono ?_;rintro e w2 ⟨rfl,D1,J,A,M,O,⟨f,N,E⟩,R⟩;have bz:=zq J;have a8:=zq A;have U:=zq M;have X:=zq O;have b0:=zq N;have b1:=zq E;have ba:=zq R;have bb:=a6.o w2;have bc:=a7.o w2;have HW:=zq (λ(w3:World) (hb:Below w2.heap.size w2 w3)=>agw oo f (wm 96) w3 (J.below hb) A.quiet N 0 (by rw [E]; rfl) (by unfold wm; simp) (by unfold wm; simp) (by rw [A.room]; unfold wm; have:=HR.o; simp; omega) (by rw [A.waits]; have:=ar.o; omega) (by have h1:=av.o; have h2:=B.o.size; have h3:=M.size; have h4:=hb.size; omega));rw [A.blk] at HW;have F:=E;clear J A M O N E R HC;go_wp2_with fail;refine (HW.o _ ((Below.refl _ _).alloc (Nat.le_refl _) _)).mono ?_;rintro e w3 ⟨rfl,D2,Y,Z,ab,ac,I,ad⟩
 have bh:Zq (∃ f':FileD,D2.find oo=some f'/\f'.now.length=96):=by
  obtain ⟨f',a1,a2⟩:=I;exact ⟨f',a1,by rw [a2,F]; unfold wm; simp⟩
 clear I F;have ak:=zq Y;have bj:=zq Z;have al:=zq ab;have bk:=zq ac;have bl:=zq ad;clear Y Z ab ac ad HW bb bc;go_wp2_with fail;go_ret2;have b3:=B.o.size;have b4:=U.o.size;have bm:=al.o.size;rw [World.size_alloc] at bm;have am:∀ o,Below w3.heap.size w3 (w3.alloc o):=λo=>(Below.refl _ _).alloc (Nat.le_refl _) _
 have bo:∀ k,D2.foot k->D.foot k\/w.heap.size<=k:=λk hk=>by
  rcases bk.o k hk with h | h
  . rcases X.o k h with h | h
    . exact .inl h
    . right; omega
  . rw [World.size_alloc] at h; right; omega
 have hm:Mod D.foot w w3:=by
  have h1:Mod D.foot w w2:=(Mod.of_below B.o).trans U.o;have h2:Mod D1.foot w2 w3:=(Mod.of_below ((Below.refl _ _).alloc (Nat.le_refl _) _)).trans al.o;exact jf h1 h2 (λk hk=>(X.o k hk).imp_right λh=>by omega)
 refine ⟨w3.heap.size,rfl,heap_alloc_new w3 _,by omega,D2,ak.o.below (am _),?_,hm.trans (Mod.of_below (am _)),λk hk=>⟨bo k hk,λe=>by have:=ak.o.lt hk; omega⟩,λm an=>(bl.o m an).trans (ba.o m an),bh.o⟩;have:=a8.o.trans bj.o
 simpa [wm] using this
theorem am6 {base:Nat} {D:DiskD} (p:Nat) (hp:p<=1099511627776) (w:World) (h:DiskAt base w D) (hq:Quiet D) (hfl:D.files.length<=1000) (hnl:∀ p∈D.files,p.1.length<=maxLen) (hno:∀ x∈D.files.map (·.1),Lib.hasPrefix x [119,45]=false) (hr:96<=D.room) (B:D.waits.length<=1000) (hbase:base<=w.heap.size) :
 Calls Tryz.prog 108 #[.pointer (some ⟨D.blk,0,none⟩),.int .i64 (p:Int)] w λe w'=>∃ b wb,e=.returned (.tuple #[.pointer (some ⟨b,0,none⟩),.int .i64 0])/\w'.heap[b]?=some (.cells #[.pointer (some ⟨wb,0,none⟩),.int .i64 0] 262 (0,0)) /\
  w'.heap[wb]?=some (.cells #[.pointer (some ⟨D.blk,0,none⟩),.int .i64 (p:Int)] 317 (0,0))/\w.heap.size<=b/\w.heap.size<=wb/\b≠wb /\
  ∃ D',DiskAt base w' D'/\Grows D D' [oo,ul] 96 1/\Mod D.foot w w'/\(∀ k,D'.foot k->(D.foot k\/w.heap.size<=k)/\k≠b/\k≠wb)/\(∀ m,m≠oo->m≠ul->D'.find m=D.find m)/\(∃ f,D'.find oo=some f/\f.now.length=96)/\∃ f,D'.find ul=some f/\f.now.length=0:=by
 have R:=zq (aj9 p hp w h hq hfl hnl hno hr B hbase);have U:ul∉D.files.map (·.1):=adt hno rfl;have ba:=zq U;have bb:=zq hbase;have bp:Zq (∀ k,D.foot k->k < w.heap.size):=λk hk=>h.lt hk
 clear h hq hfl hnl hno hr B hbase U;go_enter Tryz.func108,Tryz.ntmps108;go_wp2_with fail;refine R.o.mono ?_;rintro e w1 ⟨wb,rfl,X,E,D1,F,A,I,J,Y,M⟩;have Z:∀ k,D1.foot k->k≠wb:=λk hk=>(J k hk).2
 have br:=zq F;have bc:=zq A;have ab:=zq I;have ac:=zq J;have bd:=zq Y;have ad:=zq X;have bh:=zq E;have ak:=zq Z;have bj:=zq M;have HC:=zq (ace ul w1 F A.quiet (by rw [A.names]; intro hm; rcases List.mem_append.1 hm with h | h; exact ba.o h; revert h; decide) (by have:=bb.o; have:=I.size; omega));rw [A.blk] at HC;clear F A I J Y X E Z M R;go_wp2_with fail;refine HC.o.mono ?_;rintro e w2 ⟨rfl,D2,al,am,an,ao,ap,ar⟩;have bm:=zq ap;clear ap;have av:=zq al;have bo:=zq am;have N:=zq an;have a6:=zq ao;have a7:=zq ar;clear al am an ao ar HC;go_wp2_with fail;go_ret2;have M:=ab.o.size;have bs:=N.o.size;have E:=bh.o;have B:wb < w1.heap.size:=(Array.getElem?_eq_some_iff.1 ad.o).1;have O:∀ o,Below w2.heap.size w2 (w2.alloc o):=λo=>(Below.refl _ _).alloc (Nat.le_refl _) _
 have a8:w2.heap[wb]?=_:=(N.o.block wb B (λh=>ak.o wb h rfl)).trans ad.o;have hm:Mod D.foot w w2:=jf ab.o N.o (λk hk=>(ac.o k hk).1);refine ⟨w2.heap.size,wb,rfl,heap_alloc_new w2 _,((O _).block wb (by omega)).trans a8,by omega,E,by omega,D2,av.o.below (O _),?_,hm.trans (Mod.of_below (O _)),λk hk=>⟨?_,?_,λe=>?_⟩,λm h1 h2=>(a7.o m h2).trans (bd.o m h1),?_,?_⟩
 . have:=bc.o.trans bo.o
   simpa using this
 . rcases a6.o k hk with h | h
   . exact (ac.o k h).1
   . right; omega
 . have:=av.o.lt hk; omega
 . rcases a6.o k hk with h | h
   . exact ak.o k h e
   . omega
 . rw [a7.o oo (by decide)]; exact bj.o
 . obtain ⟨f,a1,a2⟩:=bm.o
   exact ⟨f,a1,by rw [a2]; rfl⟩
structure Made (base:Nat) (D:DiskD) (w1 wr:World) (k:Nat) (Dk:DiskD):Prop where
 dsk:DiskAt base wr Dk
 grows:Grows D Dk (([jg,jd]:List (List UInt8)).take k) 0 0
 mod:Mod D.foot w1 wr
 foot:∀ j,Dk.foot j->D.foot j\/w1.heap.size<=j
 find:k=2->∃ f,Dk.find jd=some f/\f.now=[]
 findL:1<=k->∃ f,Dk.find jg=some f/\f.now=[]
 other:∀ m,m≠jg->m≠jd->Dk.find m=D.find m
theorem am7 {base:Nat} {D:DiskD} (w:World) (h:DiskAt base w D) (hq:Quiet D) (hfl:D.files.length<=1000) (hnl:∀ p∈D.files,p.1.length<=maxLen) (hno:∀ x∈D.files.map (·.1),Lib.hasPrefix x [120,45]=false) (hr:24<=D.room) (hwl:D.waits.length<=1000) (hbase:base<=w.heap.size) :
 Calls Tryz.prog 107 #[.pointer (some ⟨D.blk,0,none⟩)] w λe w'=>∃ b,e=.returned (.tuple #[.pointer (some ⟨b,0,none⟩),.int .i64 0])/\w'.heap[b]?=some (.cells #[.pointer (some ⟨D.blk,0,none⟩),.int .i64 0] 255 (0,0))/\w.heap.size<=b /\
  ∃ D',DiskAt base w' D'/\Grows D D' [jg,jd] 24 1/\Mod D.foot w w'/\(∀ k,D'.foot k->(D.foot k\/w.heap.size<=k)/\k≠b)/\(∀ m,m≠jg->m≠jd->D'.find m=D.find m)/\(∃ f,D'.find jd=some f/\f.now.length=24)/\∃ f,D'.find jg=some f/\f.now.length=0:=by
 have HL:=zq (agx [120,45] w h (by omega) hnl hno);have a8:jg∉D.files.map (·.1):=adt hno rfl;have X:jd∉D.files.map (·.1):=adt hno rfl;have b2:=zq a8;have b3:=zq X;have HZ:=zq (λ(w:World)=>ah2 24 (by omega) w);have HR:=zq hr;have b5:=zq hwl;have b6:=zq hbase;have HQ:=zq hq;have HD:=zq h;have b7:Zq (∀ w:World,(Instr.makeSlice 237 (.int .i64 24) (.int .i64 24)).run Tryz.prog w=.ok (.slice (some ⟨w.heap.size,0,none⟩) 24 24) (w.alloc (.cells (zeros 24) 5))):=λw=>(HZ.o w).1
 have b8:Zq (∀ w:World,(convert 237 9 (.slice (some ⟨w.heap.size,0,none⟩) 24 24)).run Tryz.prog (w.alloc (.cells (zeros 24) 5))=.ok (.string (S (wm 24))) (w.alloc (.cells (zeros 24) 5))):=λw=>(HZ.o w).2
 clear h hq hfl hnl hno hr hwl hbase HZ a8 X;go_enter Tryz.func107,Tryz.ntmps107;go_wp2_with fail;refine HL.o.mono ?_;rintro e w1 ⟨⟨a,c,rfl⟩,hb⟩;have E:=zq hb;clear hb HL;go_wp2_with fail;have ao:Below w1.heap.size w1 ((w1.alloc (.cells #[.pointer (some ⟨D.blk,0,none⟩),.int .i64 0] 255)).alloc (.cells #[.string ⟨#[120,45,108,105,110,107,115]⟩,.string ⟨#[120,45,115,108,111,116,115]⟩] 9)):=((Below.refl _ _).alloc (Nat.le_refl _) _).alloc (by rw [World.size_alloc]; omega) _
 have ba:((w1.alloc (.cells #[.pointer (some ⟨D.blk,0,none⟩),.int .i64 0] 255)).alloc (.cells #[.string ⟨#[120,45,108,105,110,107,115]⟩,.string ⟨#[120,45,115,108,111,116,115]⟩] 9)).heap[w1.heap.size]?=some (.cells #[.pointer (some ⟨D.blk,0,none⟩),.int .i64 0] 255 (0,0)):=by
  rw [((Below.refl (w1.alloc (.cells #[.pointer (some ⟨D.blk,0,none⟩),.int .i64 0] 255)).heap.size _).alloc (Nat.le_refl _) _).block _ (by rw [World.size_alloc]; omega)];exact heap_alloc_new w1 _
 have X:((w1.alloc (.cells #[.pointer (some ⟨D.blk,0,none⟩),.int .i64 0] 255)).alloc (.cells #[.string ⟨#[120,45,108,105,110,107,115]⟩,.string ⟨#[120,45,115,108,111,116,115]⟩] 9)).heap[w1.heap.size+1]?=some (.cells #[.string ⟨#[120,45,108,105,110,107,115]⟩,.string ⟨#[120,45,115,108,111,116,115]⟩] 9 (0,0)):=by
  have:=heap_alloc_new (w1.alloc (.cells #[.pointer (some ⟨D.blk,0,none⟩),.int .i64 0] 255)) (.cells #[.string ⟨#[120,45,108,105,110,107,115]⟩,.string ⟨#[120,45,115,108,111,116,115]⟩] 9);rw [World.size_alloc] at this; exact this
 generalize (w1.alloc (.cells #[.pointer (some ⟨D.blk,0,none⟩),.int .i64 0] 255)).alloc (.cells #[.string ⟨#[120,45,108,105,110,107,115]⟩,.string ⟨#[120,45,115,108,111,116,115]⟩] 9)=w2 at *
 have Y:DiskAt base w2 D:=(HD.o.below E.o).below ao;have bb:∀ k,D.foot k->k < w1.heap.size:=λk hk=>(HD.o.below E.o).lt hk
 have bc:=zq bb;have ap:=zq ao;have bd:=zq ba;have am:=zq X;have S0:Zq (∃ Dk,Made base D w2 w2 0 Dk):=⟨D,Y,Grows.refl HQ.o,Mod.refl _ _,λj hj=>.inl hj,λh=>absurd h (by decide),λh=>absurd h (by decide),λ_ _ _=>rfl⟩;obtain ⟨gi,F⟩:∃ g,w1.heap.size=g:=⟨_,rfl⟩;obtain ⟨gn,I⟩:∃ g,w1.heap.size+1=g:=⟨_,rfl⟩;have HG:Zq (w1.heap.size=gi/\w1.heap.size+1=gn):=⟨F,I⟩;rw [I,F];clear ao ba X Y bb F I;go_loopw [29] (λi wr=>∃ k:Nat,k<=2/\i=.int .i64 (k:Int)/\Zq (∃ Dk,Made base D w2 wr k Dk)) (λi _=>2 - (intOf i).toNat)
 case atStart=>exact ⟨0,by omega,rfl,S0⟩
 case round =>
  clear S0;obtain ⟨k,hk,rfl,HM⟩:=hrel;obtain ⟨Dk,A⟩:=HM.o;have I:=HG.o.2
  have Z:wr.heap[gn]?=some (.cells #[.string ⟨#[120,45,108,105,110,107,115]⟩,.string ⟨#[120,45,115,108,111,116,115]⟩] 9 (0,0)):=by
   rw [<- I,A.mod.block _ (Array.getElem?_eq_some_iff.1 am.o).1 (λh=>by have:=bc.o _ h; omega)]; exact am.o
  clear I HM;have n0:wr.cell? ⟨gn,0,none⟩=some (.string (S jg)):=by rw [Lib.cell_of_heap Z]; rfl
  have n1:wr.cell? ⟨gn,1,none⟩=some (.string (S jd)):=by rw [Lib.cell_of_heap Z]; rfl
  have J:=A.grows.blk;have al:base<=wr.heap.size:=by have h1:=b6.o; have R:=E.o.size; have h3:=ap.o.size; have h4:=A.mod.size; omega
  have cb:k=0\/k=1\/k=2:=by omega
  rcases cb with rfl | rfl | rfl
  ·
   have ab:jg∉Dk.files.map (·.1):=by rw [A.grows.names]; simpa using b2.o
   have HC:=zq (ace jg wr A.dsk A.grows.quiet ab al);rw [J] at HC;have ac:=zq A;clear A Z n1 J al ab hk;go_wp2_with fail;refine HC.o.mono ?_;rintro e w3 ⟨rfl,D',hd,hg,U,hf,B,N⟩;have HH:=zq (And.intro hd (And.intro hg (And.intro U (And.intro hf (And.intro B N)))));clear hd hg U hf B N HC n0;go_wp2_with fail;go_roundw
   case rel =>
    obtain ⟨hd,hg,U,hf,B,N⟩:=HH.o;have A:=ac.o;have hs:=A.mod.size;refine ⟨1,by omega,rfl,D',hd,A.grows.trans hg,jf A.mod U A.foot,λj hj=>(hf j hj).elim (A.foot j) λh=>.inr (by omega),λh=>absurd h (by decide),λ_=>B,λm h1 R=>(N m h1).trans (A.other m h1 R)⟩
   case measure=>simp [intOf]
  ·
   have ab:jd∉Dk.files.map (·.1):=by
    rw [A.grows.names];intro h
    rcases List.mem_append.1 h with h | h
    . exact b3.o h
    . revert h; decide
   have HC:=zq (ace jd wr A.dsk A.grows.quiet ab al);rw [J] at HC;have ac:=zq A;clear A Z n0 J al ab hk;go_wp2_with fail;refine HC.o.mono ?_;rintro e w3 ⟨rfl,D',hd,hg,U,hf,O,N⟩;have HH:=zq (And.intro hd (And.intro hg (And.intro U (And.intro hf (And.intro O N)))));clear hd hg U hf N O HC n1;go_wp2_with fail;go_roundw
   case rel =>
    obtain ⟨hd,hg,U,hf,O,N⟩:=HH.o;have A:=ac.o;have hs:=A.mod.size;refine ⟨2,by omega,rfl,D',hd,A.grows.trans hg,jf A.mod U A.foot,λj hj=>(hf j hj).elim (A.foot j) λh=>.inr (by omega),λ_=>O,λ_=>by rw [N jg (by decide)]; exact A.findL (by omega),λm h1 R=>(N m R).trans (A.other m h1 R)⟩
   case measure=>simp [intOf]
  ·
   obtain ⟨f,bj,a6⟩:=A.find rfl;have cc:=b7.o wr;have cd:=b8.o wr;have bk:=A.grows.waits;have bl:=A.grows.room;have HW:=zq (λ(w3:World) (hb:Below wr.heap.size wr w3)=>agw jd f (wm 24) w3 (A.dsk.below hb) A.grows.quiet bj 0 (by rw [a6]; rfl) (by unfold wm; simp) (by unfold wm; simp) (by rw [bl]; unfold wm; have:=HR.o; simp; omega) (by rw [bk]; have:=b5.o; omega) (by have h4:=hb.size; omega));rw [J] at HW;have ac:=zq A;have bm:=a6;clear A Z n0 n1 J hk bj a6 bk bl;go_wp2_with fail;refine (HW.o _ ((Below.refl _ _).alloc (Nat.le_refl _) _)).mono ?_;rintro e w3 ⟨rfl,D2,Y,bo,bp,br,an,bs⟩
   have cf:Zq (∃ f':FileD,D2.find jd=some f'/\f'.now.length=24):=by
    obtain ⟨f',a1,a2⟩:=an;exact ⟨f',a1,by rw [a2,bm]; unfold wm; simp⟩
   have HH:=zq (And.intro Y (And.intro bo (And.intro bp (And.intro br bs))));clear Y bo bp br an bs HW cc cd;go_wp2_with fail;go_ret2;obtain ⟨hd,hg,U,hf,N⟩:=HH.o;have A:=ac.o;have hs:=A.mod.size;have F:=HG.o.1;have cs:=E.o.size;have cv:=ap.o.size;have cg:=U.size;rw [World.size_alloc] at cg;have hi:gi < w2.heap.size:=by rw [<- F]; exact (Array.getElem?_eq_some_iff.1 bd.o).1
   have bw:Mod D.foot w2 w3:=jf A.mod ((Mod.of_below (M:=Dk.foot) ((Below.refl _ _).alloc (Nat.le_refl _) _)).trans U) A.foot;have bz:¬ D.foot gi:=λh=>by have:=bc.o _ h; omega
   have O:∀ j,D2.foot j->(D.foot j\/w.heap.size<=j)/\j≠gi:=λj hj=>by
    rcases hf j hj with h | h
    . rcases A.foot j h with R | R
      . exact ⟨.inl R,λe=>bz (e ▸ R)⟩
      . exact ⟨.inr (by omega),λe=>by omega⟩
    . rw [World.size_alloc] at h
      exact ⟨.inr (by omega),λe=>by omega⟩
   refine ⟨gi,rfl,?_,by omega,D2,hd,?_,?_,O,λm h1 R=>(N m R).trans (A.other m h1 R),cf.o,?_⟩
   . rw [bw.block gi hi bz,<- F]; exact bd.o
   . have:=A.grows.trans hg
     simpa [wm] using this
   . exact (Mod.of_below (E.o.trans (ap.o.mono E.o.size))).trans bw
   . obtain ⟨g,g1,g2⟩:=A.findL (by omega)
     exact ⟨g,by rw [N jg (by decide)]; exact g1,by rw [g2]; rfl⟩
end CacheW
namespace TopW
open Go.RowKit Go.MapKept OctMath DskW NameMath NameW
def RowT (w:World) (a:Option Addr) (l:List (List UInt8×Nat)):Prop:=∀ (k:Nat) (h:k < l.length),∃ g,a=some ⟨g,0,none⟩/\g < w.heap.size/\w.cell? ⟨g,k * 2,none⟩=some (.string (S l[k].1))/\w.cell? ⟨g,k * 2+1,none⟩=some (.int .i64 (l[k].2:Int))
theorem RowT.below {w w':World} {a:Option Addr} {l:List (List UInt8×Nat)} (h:RowT w a l) (hb:Below w.heap.size w w'):RowT w' a l:=by
 intro k hk;obtain ⟨g,e,A,h1,B⟩:=h k hk;exact ⟨g,e,Nat.lt_of_lt_of_le A hb.size,by rw [hb.cell A]; exact h1,by rw [hb.cell A]; exact B⟩
theorem am8 (x n:List UInt8) (q:Nat) (bx:Nat) (w:World) (hc:w.cell? ⟨bx,0,none⟩=some (.string (S n))) :
 Calls Tryz.prog 117 #[.agg #[.string (S x),.int .i64 (q:Int)],.pointer (some ⟨bx,0,none⟩)] w λe w'=>e=.returned (.bool (decide (x=n)))/\Below w.heap.size w w':=by
 have hb:Zq (Below w.heap.size w (w.alloc (.cells #[.string (S x),.int .i64 (q:Int)] 132))):=(Below.refl _ _).alloc (Nat.le_refl _) _;have A:(w.alloc (.cells #[.string (S x),.int .i64 (q:Int)] 132)).cell? ⟨bx,0,none⟩=some (.string (S n)):=by rw [hb.o.cell (ax hc)]; exact hc
 have B:Zq (((S x).toList == (S n).toList)=decide (x=n)):=by
  show _=_;rw [DskW.S_toList,DskW.S_toList]
  by_cases h:x=n <;> simp [h]
 clear hc;go_enter Tryz.func117,Tryz.ntmps117;go_wp2_with fail;go_ret;rw [<- B.o];exact ⟨rfl,hb.o⟩
def aer (n:List UInt8):List (List UInt8×Nat)->Nat->Int
 | [],_ => -1
 | x :: l,i=>if x.1=n then (i:Int) else aer n l (i+1)
theorem ah3 (n:List UInt8):∀ (l:List (List UInt8×Nat)) (k i:Nat) (h:k < l.length),(∀ j (A:j < k),(l[j]'(by omega)).1≠n)->l[k].1=n->aer n l i=((i+k:Nat):Int)
 | x :: l,0,i,h,_,he=>by show (if x.1=n then (i:Int) else _)=_; rw [if_pos (show x.1=n from he)]; rfl
 | x :: l,k+1,i,h,hn,he=>by
   show (if x.1=n then (i:Int) else aer n l (i+1))=_;rw [if_neg (show ¬ x.1=n from hn 0 (by omega)),ah3 n l k (i+1) (by simpa using h) (λj A=>hn (j+1) (by omega)) he];congr 1; omega
theorem af3 (n:List UInt8):∀ (l:List (List UInt8×Nat)) (i:Nat),(∀ x∈l,x.1≠n)->aer n l i = -1
 | [],_,_=>rfl
 | x :: l,i,h=>by show (if x.1=n then (i:Int) else aer n l (i+1))=_; rw [if_neg (h x (.head _)),af3 n l (i+1) (λy A=>h y (.tail _ A))]
theorem ar2 (a:Option Addr) (cp:Nat) (l:List (List UInt8×Nat)) (I:l.length<=1048576) (bx:Nat) (n:List UInt8) (w:World) (hr:RowT w a l) (hs:w.cell? ⟨bx,0,none⟩=some (.string (S n))) :
 Calls Tryz.prog 179 #[.slice a l.length cp,.func (.func 117) #[] #[.pointer (some ⟨bx,0,none⟩)]] w λe w'=>e=.returned (.int .i64 (aer n l 0))/\Below w.heap.size w w':=by
 have U:=zq hr;have O:=zq hs;clear hr hs;go_enter Tryz.func179,Tryz.ntmps179;go_wp2_with fail;go_loopw [8] (λi wr=>∃ k:Nat,k<=l.length/\i=.int .i64 (k:Int)/\Zq (∀ x∈l.take k,x.1≠n)/\Zq (Below w.heap.size w wr)) (λi _=>l.length+1 - (intOf i).toNat)
 case atStart=>exact ⟨0,by omega,rfl,λx I=>by simp at I,Below.refl _ _⟩
 case round =>
  obtain ⟨k,hk,rfl,J,B⟩:=hrel
  by_cases hlt:k < l.length
  ·
   obtain ⟨g,rfl,X,h1,R⟩:=(U.o.below B.o) k hlt;have A:=zq (am8 l[k].1 n l[k].2 bx wr (by rw [B.o.cell (ax O.o)]; exact O.o));have E:l.take (k+1)=l.take k++[l[k]]:=List.take_succ_eq_append_getElem hlt
   by_cases he:l[k].1=n
   ·
    have M:Zq (aer n l 0=(k:Int)):=by
     show _=_;rw [ah3 n l k 0 hlt (λj Y=>J.o _ (List.mem_take_iff_getElem.2 ⟨j,by omega,rfl⟩)) he,Nat.zero_add]
    rw [decide_eq_true he] at A;clear E he;go_wp2_with fail;refine A.o.mono ?_;rintro e w2 ⟨rfl,hb⟩;have F:=zq (B.o.trans (hb.mono B.o.size));clear hb A h1 R;go_wp2_with fail;go_ret;rw [M.o];exact ⟨rfl,F.o⟩
   ·
    have N:Zq (∀ x∈l.take (k+1),x.1≠n):=by
     show ∀ x∈l.take (k+1),x.1≠n
     rw [E];intro x I
     rcases List.mem_append.1 I with h | h
     . exact J.o x h
     . rw [List.mem_singleton] at h; subst h; exact he
    rw [decide_eq_false he] at A;clear E he;go_wp2_with fail;refine A.o.mono ?_;rintro e w2 ⟨rfl,hb⟩;have F:=zq (B.o.trans (hb.mono B.o.size));clear hb A h1 R;go_wp2_with fail;go_roundw
    case rel=>exact ⟨k+1,by omega,by go_num,N,F⟩
    case measure=>simp [intOf]; omega
  ·
   obtain rfl:k=l.length:=by omega
   have M:Zq (aer n l 0 = -1):=by
    show _=_;have:=J.o;rw [List.take_length] at this;exact af3 n l 0 this
   go_wp2_with fail;go_ret;rw [M.o];exact ⟨rfl,B.o⟩
theorem alg (n:List UInt8):∀ (l:List (List UInt8×Nat)) (i:Nat),decide (0<=aer n l i)=l.any λx=>decide (x.1=n)
 | [],_=>rfl
 | x :: l,i=>by
   show decide (0<=if x.1=n then (i:Int) else aer n l (i+1))=(decide (x.1=n) || _)
   by_cases h:x.1=n
   . rw [if_pos h,decide_eq_true h,Bool.true_or]; exact decide_eq_true (by omega)
   . rw [if_neg h,decide_eq_false h,Bool.false_or]; exact alg n l (i+1)
theorem aka (a:Option Addr) (cp:Nat) (l:List (List UInt8×Nat)) (hx:l.length<=1048576) (bx:Nat) (n:List UInt8) (w:World) (hr:RowT w a l) (hs:w.cell? ⟨bx,0,none⟩=some (.string (S n))) :
 Calls Tryz.prog 118 #[.slice a l.length cp,.func (.func 117) #[] #[.pointer (some ⟨bx,0,none⟩)]] w λe w'=>e=.returned (.bool (l.any λx=>decide (x.1=n)))/\Below w.heap.size w w':=by
 have A:=zq (ar2 a cp l hx bx n w hr hs);have B:=zq (alg n l 0);generalize aer n l 0=r at *
 clear hr hs;go_enter Tryz.func118,Tryz.ntmps118;go_wp2_with fail;refine A.o.mono ?_;rintro e w2 ⟨rfl,hb⟩;have E:=zq hb;clear hb A;go_wp2_with fail;go_ret;rw [<- B.o];exact ⟨rfl,E.o⟩
def qo (l:List (List UInt8×Nat)) (n:List UInt8) (q:Int):Int:=if fu n=false then 11 else if q < 1\/3 < q then 1 else if (l.any λx=>decide (x.1=n))=true then 10 else if 6<=l.length then 6 else 0
theorem right_any (a:Option Addr) (cp:Nat) (l:List (List UInt8×Nat)) (hx:l.length<=1048576) (n:List UInt8) (hn:n.length<=1099511627776) (q:Int) (w:World) (hr:RowT w a l) :
 Calls Tryz.prog 59 #[.slice a l.length cp,.agg #[.string (S n),.int .i64 q]] w λe w'=>e=.returned (.int .i64 (qo l n q))/\Below w.heap.size w w':=by
 have I:Zq (Below w.heap.size w (w.alloc (.cells #[.string (S n),.int .i64 q] 132))):=(Below.refl _ _).alloc (Nat.le_refl _) _;have R:Zq (qo l n q=if fu n=false then 11 else if q < 1\/3 < q then 1 else if (l.any λx=>decide (x.1=n))=true then 10 else if 6<=l.length then 6 else 0):=rfl;have HP:=zq (λw=>aa5 n hn w);have hh:=heap_alloc_new w (.cells #[.string (S n),.int .i64 q] 132);have E:=zq hh;have U:=zq (hr.below I.o);generalize fu n=pl at *
 clear hr hh;go_enter Tryz.func59,Tryz.ntmps59;go_upto_region 1 with fail
 generalize w.alloc (.cells #[.string (S n),.int .i64 q] 132)=w1 at *
 obtain ⟨A,X⟩:∃ A,w.heap.size=A:=⟨_,rfl⟩;rw [X] at E ⊢;have B:=zq X;clear X;have c0:w1.cell? ⟨A,0,none⟩=some (.string (S n)):=by rw [Lib.cell_of_heap E.o]; rfl
 go_wp2_with fail;refine (HP.o w1).mono ?_;rintro e w2 ⟨rfl,hb⟩;have F:=zq (I.o.trans (hb.mono I.o.size));have J:w2.heap[A]?=_:=(hb.block A (Array.getElem?_eq_some_iff.1 E.o).1).trans E.o;have Y:=zq J;have Z:=zq (U.o.below hb);have d1:w2.cell? ⟨A,1,none⟩=some (.int .i64 q):=by rw [Lib.cell_of_heap J]; rfl
 clear hb J HP c0 E I
 cases pl
 ·
  go_wp2_with fail;go_ret;rw [R.o,<- B.o];exact ⟨rfl,F.o⟩
 by_cases hq1:q < 1
 ·
  have hd:decide (q < 1)=true:=decide_eq_true hq1;have M:Zq (qo l n q=1):=by show _=_; rw [R.o,if_neg (by decide),if_pos (.inl hq1)]
  clear hq1;go_wp2_with fail;go_ret;rw [M.o,<- B.o];exact ⟨rfl,F.o⟩
 have al:decide (q < 1)=false:=decide_eq_false hq1
 by_cases hq3:3 < q
 ·
  have hd:decide (3 < q)=true:=decide_eq_true hq3;have M:Zq (qo l n q=1):=by show _=_; rw [R.o,if_neg (by decide),if_pos (.inr hq3)]
  clear hq1 hq3;go_wp2_with fail;go_ret;rw [M.o,<- B.o];exact ⟨rfl,F.o⟩
 have am:decide (3 < q)=false:=decide_eq_false hq3
 have M:Zq (qo l n q=if (l.any λx=>decide (x.1=n))=true then 10 else if 6<=l.length then 6 else 0):=by
  show _=_;rw [R.o,if_neg (by decide),if_neg (by omega)]
 have HC:=zq (aka a cp l hx A n w2 Z.o (by rw [Lib.cell_of_heap Y.o]; rfl));clear hq1 hq3;generalize (l.any λx=>decide (x.1=n))=an at *
 go_wp2_with fail;refine HC.o.mono ?_;rintro e w3 ⟨rfl,hb⟩;have N:=zq (F.o.trans (hb.mono F.o.size));clear hb HC
 cases an
 ·
  by_cases h6:6<=l.length
  ·
   have ab:decide ((6:Int)<=(l.length:Int))=true:=decide_eq_true (by omega);have O:Zq (qo l n q=6):=by show _=_; rw [M.o,if_neg (by decide),if_pos h6]
   clear h6;go_wp2_with fail;go_ret;rw [O.o,<- B.o];exact ⟨rfl,N.o⟩
  ·
   have ab:decide ((6:Int)<=(l.length:Int))=false:=decide_eq_false (by omega);have O:Zq (qo l n q=0):=by show _=_; rw [M.o,if_neg (by decide),if_neg h6]
   clear h6;go_wp2_with fail;go_ret;rw [O.o,<- B.o];exact ⟨rfl,N.o⟩
 ·
  go_wp2_with fail;go_ret;rw [M.o,<- B.o];exact ⟨rfl,N.o⟩
def je (l:List (List UInt8×Nat)):List Value:=l.flatMap λx=>[.string (S x.1),.int .i64 (x.2:Int)]
theorem akb (l:List (List UInt8×Nat)):(je l).length=l.length * 2:=by
 unfold je
 induction l with
 | nil=>rfl
 | cons x l ih=>simp only [List.flatMap_cons,List.length_append,ih,List.length_cons,List.length_nil]; omega
theorem abr:∀ (l:List (List UInt8×Nat)) (k:Nat) (h:k < l.length),(je l)[k * 2]?=some (.string (S l[k].1))/\(je l)[k * 2+1]?=some (.int .i64 (l[k].2:Int))
 | x :: l,0,_=>⟨rfl,rfl⟩
 | x :: l,k+1,h=>by
   have A:=abr l k (by simpa using h);have e:je (x :: l)=.string (S x.1) :: .int .i64 (x.2:Int) :: je l:=rfl;rw [e,show (k+1) * 2=k * 2+2 by omega];exact A
theorem RowT.own {base:Nat} {w:World} {v:Value} {l:List (List UInt8×Nat)} (h:w.ownsRow base 132 2 v l.length (je l)):∃ a cp,v=.slice a l.length cp/\RowT w a l:=by
 rcases h.2 with ⟨rfl,h0⟩ | ⟨g,cap,cur,rfl,hb,hg,hn,hm,hc,ht⟩
 . exact ⟨none,0,by rw [h0],λk hk=>by omega⟩
 ·
  refine ⟨_,_,rfl,λk hk=>⟨g,rfl,(Array.getElem?_eq_some_iff.1 hg).1,?_,?_⟩⟩
  all_goals
   rw [Lib.cell_of_heap hg]
  . have h1:=(abr l k hk).1
    rw [<- ht,List.getElem?_take,if_pos (by omega)] at h1
    simpa using h1
  . have h1:=(abr l k hk).2
    rw [<- ht,List.getElem?_take,if_pos (by omega)] at h1
    simpa using h1
open OctW
def auh:Nat->RS->List (List UInt8×Nat)->Option (List (List UInt8×Nat)×RS)
 | 0,r,l=>some (l,r)
 | n+1,r,l=>if (dh 1 (iw 16 r).2).2.e≠0 then none else if qo l (iw 16 r).1 ((dh 1 (iw 16 r).2).1:Int)≠0 then none else auh n (dh 1 (iw 16 r).2).2 (l++[((iw 16 r).1,(dh 1 (iw 16 r).2).1)])
def getT (s:List UInt8):List (List UInt8×Nat)×Bool:=match auh (dh 1 ⟨s,0⟩).1 (dh 1 ⟨s,0⟩).2 [] with
 | none=>([],false)
 | some x=>(x.1,decide (yl x.2=0))
theorem ah4 {l:List (List UInt8×Nat)} {n:List UInt8} {q:Int} (h:qo l n q=0):l.length < 6:=by
 unfold qo at h
 split at h
 . cases h
 ·
  split at h
  . cases h
  ·
   split at h
   . cases h
   . split at h
     . cases h
     . omega
structure TopAt (base:Nat) (w:World) (b dk:Nat) (l:List (List UInt8×Nat)):Prop where
 tab:∃ v,w.heap[b]?=some (.cells #[.pointer (some ⟨dk,0,none⟩),v] 134 (0,0))/\w.ownsRow base 132 2 v l.length (je l)
end TopW
namespace StoW
open Go.RowKit Go.MapKept OctMath RecMath RecW TapeMath DskW SegW MapG TapeW PendW
structure Lasts (base B:Nat) (w w':World) (D:DiskD) (its:List TapeMath.Item) (b:Nat) (T:TapeD):Prop where
 tape:TapeAt base w' T
 its:T.its=its
 b:T.R.b=b
 syn:T.R.synced=T.R.e
 waits:T.D.waits=[]
 quiet:Quiet T.D
 dblk:T.D.blk=D.blk
 dfoot:∀ k,T.D.foot k↔D.foot k
 find:∀ n,(T.D.find n).isSome=(D.find n).isSome
 room:T.D.room=D.room
 fresh:∀ k,T.O.foot k\/T.R.foot k->w.heap.size<=k
 mod:Mod (λk=>D.foot k\/k=B) w w'
 kept:∀ n f,D.find n=some f->∃ f',T.D.find n=some f'/\f'.now=f.now
theorem Lasts.of {base B:Nat} {w w':World} {D:DiskD} {its:List TapeMath.Item} {b:Nat} {T:TapeD} (h:apd base w w' D its b T):Lasts base B w w' D its b T :=
 { h with mod:=h.mod.mono λk _ hk=>.inl hk }
theorem Lasts.then {base B:Nat} {w w' w2:World} {D:DiskD} {its:List TapeMath.Item} {b:Nat} {T:TapeD} (h:Lasts base B w w' D its b T) (hm:Mod (λk=>k=B) w' w2) (hB:B < w.heap.size) (hBD:¬ D.foot B):Lasts base B w w2 D its b T :=
 { h with
  tape:=h.tape.mod hm λk hk e=>by
   subst e
   rcases hk with h2 | h2 | h2
   . have:=h.fresh _ (.inl h2); omega
   . exact hBD ((h.dfoot _).1 h2)
   . have:=h.fresh _ (.inr h2); omega
  mod:=h.mod.trans (hm.mono λk _ hk=>.inr hk) }
theorem Lasts.none {base B:Nat} {w w':World} {D:DiskD} {its:List TapeMath.Item} {b:Nat} {T:TapeD} (h:Lasts base B w w' D its b T) {n:List UInt8} (hn:D.find n=none):T.D.find n=none:=by
 have:=h.find n;rw [hn] at this
 cases hf:T.D.find n with
 | none=>rfl
 | some f=>rw [hf] at this; cases this
theorem am9 {M:Nat->Prop} {u v:World} (h:Mod M u v) {b:Nat} {o:Obj} (hb:u.heap[b]?=some o) (hM:¬ M b):v.heap[b]?=some o :=
 (h.block b (Array.getElem?_eq_some_iff.1 hb).1 hM).trans hb
theorem Lasts.own {w:World} {n k sz:Nat} {e:TypeId} {v:Value} {xs:List Value} (h:w.ownsRow n e sz v k xs) {g:Nat} (hg:v.ownBlock=some g):n<=g/\∃ cur,w.heap[g]?=some (.cells cur e (0,0)):=by
 rcases h.2 with ⟨rfl,_⟩ | ⟨g',cap,cur,rfl,hb,h,_⟩
 . cases hg
 . injection hg with hg
   subst hg;exact ⟨hb,cur,h⟩
def ah5 (D:DiskD) (tl:List (List UInt8×Nat)):Prop:=D.find TopW.jw=none/\tl=[]
theorem akc {base:Nat} {D:DiskD} (tl:List (List UInt8×Nat)) (w:World) (h:DiskAt base w D) (hup:D.down=false) (hl:ah5 D tl) :
 Calls Tryz.prog 101 #[.pointer (some ⟨D.blk,0,none⟩)] w λe w'=>∃ b v,e=.returned (.tuple #[.pointer (some ⟨b,0,none⟩),.int .i64 0])/\Below w.heap.size w w'/\w.heap.size<=b/\w'.heap[b]?=some (.cells #[.pointer (some ⟨D.blk,0,none⟩),v] 134 (0,0))/\w'.ownsRow w.heap.size 132 2 v tl.length (TopW.je tl):=by
 obtain ⟨A,rfl⟩:=hl;exact (TopW.ah0 w h hup A).mono λe w' ⟨b,k1,B,E,F⟩=>⟨b,_,k1,B,E,F,⟨rfl,.inl ⟨rfl,rfl⟩⟩⟩
theorem Lasts.tab {base B:Nat} {w w':World} {D:DiskD} {its:List TapeMath.Item} {b:Nat} {T:TapeD} (h:Lasts base B w w' D its b T) {tl:List (List UInt8×Nat)} (hl:ah5 D tl):ah5 T.D tl:=⟨h.none hl.1,hl.2⟩
def PB (b3 b4:Nat) (v:Value) (k:Nat):Prop:=k=b3\/k=b4\/v.ownBlock=some k
structure Pair (w:World) (n b3 b4 dk:Nat) (v:Value) (tl:List (List UInt8×Nat)) (T:TapeD):Prop where
 t:w.heap[b3]?=some (.cells #[.pointer (some ⟨dk,0,none⟩),v] 134 (0,0))
 r:w.ownsRow n 132 2 v tl.length (TopW.je tl)
 g:w.heap[b4]?=some (.cells #[.pointer (some ⟨dk,0,none⟩),.slice none 0 0] 117 (0,0))
 lo:n<=b3/\n<=b4/\b3≠b4
 away:∀ k,T.foot k->¬ PB b3 b4 v k
theorem Pair.lo_all {w:World} {n b3 b4 dk:Nat} {v:Value} {tl:List (List UInt8×Nat)} {T:TapeD} (h:Pair w n b3 b4 dk v tl T) {k:Nat} (hk:PB b3 b4 v k):n<=k/\k < w.heap.size:=by
 rcases hk with e | e | e
 . exact ⟨e ▸ h.lo.1,e ▸ (Array.getElem?_eq_some_iff.1 h.t).1⟩
 . exact ⟨e ▸ h.lo.2.1,e ▸ (Array.getElem?_eq_some_iff.1 h.g).1⟩
 . obtain ⟨h1,cur,A⟩:=Lasts.own h.r e
   exact ⟨h1,(Array.getElem?_eq_some_iff.1 A).1⟩
theorem Pair.own {w:World} {n b3 b4 dk:Nat} {v:Value} {tl:List (List UInt8×Nat)} {T:TapeD} (h:Pair w n b3 b4 dk v tl T) {k:Nat} (hk:v.ownBlock=some k):k≠b3/\k≠b4:=by
 obtain ⟨_,cur,A⟩:=Lasts.own h.r hk;refine ⟨λe=>?_,λe=>?_⟩
 ·
  rw [e,h.t] at A;injection A with A
  injection A with _ A
  exact absurd A (by decide)
 ·
  rw [e,h.g] at A;injection A with A
  injection A with _ A
  exact absurd A (by decide)
theorem Pair.mod {w w':World} {n b3 b4 dk:Nat} {v:Value} {tl:List (List UInt8×Nat)} {T:TapeD} {M:Nat->Prop} (h:Pair w n b3 b4 dk v tl T) (hm:Mod M w w') (hM:∀ k,PB b3 b4 v k->¬ M k):Pair w' n b3 b4 dk v tl T :=
 { h with t:=(hm.block _ (Array.getElem?_eq_some_iff.1 h.t).1 (hM _ (.inl rfl))).trans h.t,g:=(hm.block _ (Array.getElem?_eq_some_iff.1 h.g).1 (hM _ (.inr (.inl rfl)))).trans h.g,r:=SegW.ownsRow_mod h.r hm λk hk=>hM k (.inr (.inr hk)) }
theorem ah6 {base B:Nat} {D:DiskD} {R:SegD} {its:List TapeMath.Item} (v1 v2 v5 v6 v7 v8 v9:Value) (now:Int) (w:World) (h0n:R.n=0) (h0:its=[]) (hB:w.heap[B]?=some (.cells #[.pointer none,v1,v2,.pointer none,.pointer none,v5,v6,v7,v8,v9,.pointer (some ⟨D.blk,0,none⟩),.int .i64 now] 52 (0,0))) (hBD:¬ D.foot B)
 (hL:LaidOn D R) (hD:DiskAt base w D) (hq:Quiet D) (hfl:D.files.length<=1048576) (hnl:∀ p∈D.files,p.1.length<=1073741824) (hbase:base<=w.heap.size) (hT:TabB base w)
 (hh:R.head=qz) (hs:R.size=1024) (ht:R.txt=gz its) (hf:Fits R.b its) (hil:its.length<=1000000) (hwt:D.waits=[]) {tl:List (List UInt8×Nat)} (hn1:ah5 D tl) (hn2:D.find TopW.ads=none) :
 Calls Tryz.prog 54 #[.pointer (some ⟨B,0,none⟩)] w λe w'=>e=.returned (.int .i64 0)/\∃ T A b4 v,Lasts base B w w' D its R.b T/\Pair w' w.heap.size A b4 D.blk v tl T /\
  w'.heap[B]?=some (.cells #[.pointer (some ⟨T.O.blk,0,none⟩),v1,v2,.pointer (some ⟨A,0,none⟩),.pointer (some ⟨b4,0,none⟩),v5,v6,v7,v8,v9,.pointer (some ⟨D.blk,0,none⟩),.int .i64 now] 52 (0,0)):=by
 have ar:=zq (amx w h0n h0 hL hD hq hfl hnl hbase hT hh hs ht hf hil hwt);have HB:=zq hB;have bp:=aa hB 10 _ rfl;have f0:=ae hB 0;have HD:=zq hD;have E:=zq hBD;have br:=zq hn1;have bs:=zq hn2;have F:=(Array.getElem?_eq_some_iff.1 hB).1;clear hB hL hD hq hfl hnl hbase hT hh hs ht hf hil hwt hn1 hn2 hBD;go_enter Tryz.func54,Tryz.ntmps54;go_wp2_with fail;refine ar.o.mono ?_;rintro e w2 ⟨T,rfl,Z⟩;have HO:=zq Z;have N:w2.heap[B]?=_:=(Z.mod.block B F E.o).trans HB.o;have bw:=zq N;have d0:=aa N 0 _ rfl;have bz:=aa N 10 _ rfl;have b0:=ae N 0;have I:Lasts base B w (w2.setCell ⟨B,0,none⟩ (.pointer (some ⟨T.O.blk,0,none⟩))) D its R.b T:=(Lasts.of Z).then ((Mod.refl (λk=>k=B) w2).setCell (.inl rfl) _) F E.o
 have ab:=zq I;have av:=zq (heap_setCell_same w2 B 0 _ _ (.pointer (some ⟨T.O.blk,0,none⟩)) bw.o);have am:=zq (akc tl _ I.tape.whole.dsk I.quiet.up (I.tab br.o));rw [I.dblk] at am;clear Z N ar bp f0 I;go_wp2_with fail;refine am.o.mono ?_;rintro e w4 ⟨A,tv,rfl,an,a6,a7,ac⟩;have ao:=ab.o.then (Mod.of_below (M:=λk=>k=B) an) F E.o
 have cf:=zq ao;have U:w4.heap[B]?=_:=(an.block B (Array.getElem?_eq_some_iff.1 av.o).1).trans av.o;have b1:=zq U;have e3:=aa U 3 _ rfl;have b2:=aa U 10 _ rfl;have b5:=ae U 3;have J:Lasts base B w (w4.setCell ⟨B,3,none⟩ (.pointer (some ⟨A,0,none⟩))) D its R.b T:=ao.then ((Mod.refl (λk=>k=B) w4).setCell (.inl rfl) _) F E.o
 have ap:=zq J;have a8:=zq (heap_setCell_same w4 B 3 _ _ (.pointer (some ⟨A,0,none⟩)) b1.o);have ak:w.heap.size<=(w2.setCell ⟨B,0,none⟩ (.pointer (some ⟨T.O.blk,0,none⟩))).heap.size:=ab.o.mod.size;have ba:A≠B:=by omega
 have b6:Zq ((w4.setCell ⟨B,3,none⟩ (.pointer (some ⟨A,0,none⟩))).ownsRow w.heap.size 132 2 tv tl.length (TopW.je tl)/\∀ k,tv.ownBlock=some k->(w2.setCell ⟨B,0,none⟩ (.pointer (some ⟨T.O.blk,0,none⟩))).heap.size<=k):=⟨SegW.ownsRow_mod (ahs ac ak) ((Mod.refl (λk=>k=B) w4).setCell (a:=⟨B,3,none⟩) (.inl rfl) _) (λk hk e=>by have:=az ac k hk; omega),λk hk=>az ac k hk⟩;have bb:Zq ((w4.setCell ⟨B,3,none⟩ (.pointer (some ⟨A,0,none⟩))).heap[A]?=some (.cells #[.pointer (some ⟨D.blk,0,none⟩),tv] 134 (0,0))):=am9 ((Mod.refl (λk=>k=B) w4).setCell (.inl rfl) _) a7 ba;have H3:Zq ((∀ k,T.foot k->k < A)/\w.heap.size<=A/\A < (w4.setCell ⟨B,3,none⟩ (.pointer (some ⟨A,0,none⟩))).heap.size):=⟨λk hk=>Nat.lt_of_lt_of_le (ab.o.tape.lt hk) a6,by omega,(Array.getElem?_eq_some_iff.1 bb.o).1⟩;have X:=zq (TopW.ah1 _ J.tape.whole.dsk J.quiet.up (J.none bs.o));rw [J.dblk] at X;clear an ao U am d0 bz b0 J a6 a7 ak ba ac;go_wp2_with fail;refine X.o.mono ?_;rintro e w6 ⟨b4,rfl,Y,bc,bd⟩;have bh:=ap.o.then (Mod.of_below (M:=λk=>k=B) Y) F E.o
 have b7:=zq bh;have ad:w6.heap[B]?=_:=(Y.block B (Array.getElem?_eq_some_iff.1 a8.o).1).trans a8.o;have b8:=zq ad;have bj:=bb.o;have h3:=H3.o;have h6:=ap.o.mod.size;have b9:b4≠B:=by omega
 obtain ⟨r3,bk⟩:=b6.o;have bl:∀ k,T.foot k->k < (w2.setCell ⟨B,0,none⟩ (.pointer (some ⟨T.O.blk,0,none⟩))).heap.size:=λk hk=>ab.o.tape.lt hk
 have cb:Zq (Pair (w6.setCell ⟨B,4,none⟩ (.pointer (some ⟨b4,0,none⟩))) w.heap.size A b4 D.blk tv tl T):=Pair.mod (M:=λk=>k=B) ⟨(Y.block A h3.2.2).trans bj,SegW.ownsRow_mod r3 (Mod.of_below (M:=λ_=>False) Y) (λ_ _ h=>h),bd,⟨h3.2.1,by omega,by omega⟩,λk hk h=>by
  rcases h with h | h | h
  . have:=h3.1 k hk; omega
  . have:=ap.o.tape.lt hk; omega
  . have:=bl k hk; have:=bk k h; omega⟩ ((Mod.refl (λk=>k=B) w6).setCell (.inl rfl) _) (λk hk e=>by
  rcases hk with h | h | h
  . omega
  . omega
  . have:=az r3 k h; omega)
 clear r3 bk bl;clear bj h3 h6 b9 bc bd;have g4:=aa ad 4 _ rfl;have ck:=ae ad 4;clear Y bh ad X e3 b2 b5;go_wp2_with fail;go_ret;exact ⟨rfl,T,A,b4,tv,b7.o.then ((Mod.refl (λk=>k=B) w6).setCell (.inl rfl) _) F E.o,cb.o,heap_setCell_same _ B 4 _ _ _ b8.o⟩
theorem akd {base B:Nat} {D:DiskD} {cs:Array Value} (w:World) (hB:w.heap[B]?=some (.cells cs 52 (0,0))) (hc:cs[10]?=some (.pointer (some ⟨D.blk,0,none⟩))) (h:DiskAt base w D) (hup:D.down=false) (hn:D.find TopW.ahz=none) :
 Calls Tryz.prog 55 #[.pointer (some ⟨B,0,none⟩)] w λe w'=>e=.returned (.int .i64 0)/\Below w.heap.size w w':=by
 have E:=zq (TopW.adh w h hup hn);have A:=aa hB 10 _ hc;clear hB hc h hup hn;go_enter Tryz.func55,Tryz.ntmps55;go_wp2_with fail;refine E.o.mono ?_;rintro e w2 ⟨rfl,hb⟩;have F:Zq (Below w.heap.size w (w2.alloc (.cells #[.int .i64 0,.slice none 0 0] 182))):=hb.alloc hb.size _;clear hb E A;go_wp2_with fail;go_ret;exact ⟨rfl,F.o⟩
end StoW
namespace CqW
open Go.RowKit Go.MapKept OctMath DskW SegW MapG CacheW
def aui (v:Value):Prop:=∃ (t:List UInt8) (q:Int),v=.agg #[.string (S t),.int .i64 q]
theorem ana (s t:List UInt8) (a b:Int) (w:World):(Op.equal 153 (.agg #[.string (S s),.int .i64 a]) (.agg #[.string (S t),.int .i64 b])).run Tryz.prog w=.ok (decide (s=t) && a == b) w:=by
 have E:Tryz.prog.stoodInHeld 153=false:=by kernel_rfl
 have M:∀ x y:Int,(Op.equalIn 9999 3 (.int .i64 x) (.int .i64 y)).run Tryz.prog w=.ok (x == y) w:=λx y=>run_equalIn_int _ 9998 _ _ _ _ _ Tryz.underlying3
 have A:∀ x y:ByteArray,(Op.equalIn 9999 9 (.string x) (.string y)).run Tryz.prog w=.ok (x == y) w:=λx y=>by
  show (Op.equalIn (9998+1) _ _ _).run _ _=_;unfold Op.equalIn;simp [run_underlying Tryz.underlying9,Result.andThen]
 have F:∀ w,Sem.run Tryz.prog program w=.ok Tryz.prog w:=λ_=>rfl
 have I:(isAgg 3).run Tryz.prog w=.ok false w:=by kernel_rfl
 have J:(isAgg 9).run Tryz.prog w=.ok false w:=by kernel_rfl
 have B:(S s == S t)=decide (s=t):=by
  rw [Bool.eq_iff_iff,bytes_beq,decide_eq_true_iff];exact ⟨λh=>OctMath.S_inj h,λh=>by rw [h]⟩
 unfold Op.equal Op.maxDepth;show (Op.equalIn (9999+1) _ _ _).run _ _=_;unfold Op.equalIn;simp [go_sem,run_underlying Tryz.underlying153,Result.andThen,F,E,I,J,M,A,B]
 by_cases h1:s=t <;> by_cases h2:a=b <;> simp [h1,h2,M,A,B]
theorem aes:Keyed Tryz.prog 153 aui:=by
 refine Keyed.of_equal Tryz.underlying153 ?_ ?_ ?_ ?_
 . rintro _ _ ⟨s,a,rfl⟩ ⟨t,b,rfl⟩; rfl
 ·
  rintro _ _ ⟨s,a,rfl⟩ ⟨t,b,rfl⟩ w;refine ⟨_,ana s t a b w,?_⟩;simp only [Bool.and_eq_true,decide_eq_true_eq,beq_iff_eq]
  constructor
  . rintro ⟨rfl,rfl⟩; rfl
  ·
   intro h;injection h with h
   injection h with h
   injection h with h1 A
   injection h1 with h1
   injection A with A _
   injection A with _ A
   exact ⟨OctMath.S_inj h1,A⟩
 ·
  rintro _ ⟨s,a,rfl⟩ e w;have c1:(Instr.checkKey e 9999 9 (.string (S s))).run Tryz.prog w=.ok () w:=Go.MapKept.run_checkKey Tryz.underlying9 (k:=.string (S s)) trivial e 9998;have c2:(Instr.checkKey e 9999 3 (.int .i64 a)).run Tryz.prog w=.ok () w:=Go.MapKept.run_checkKey Tryz.underlying3 (k:=.int .i64 a) rfl e 9998;have B:(isAgg 3).run Tryz.prog w=.ok false w:=by kernel_rfl
  have E:(isAgg 9).run Tryz.prog w=.ok false w:=by kernel_rfl
  show (Instr.checkKey e (9999+1) _ _).run _ _=_;unfold Instr.checkKey;simp [go_sem,run_underlying Tryz.underlying153,Result.andThen,B,E,c1,c2]
 ·
  rintro _ ⟨s,a,rfl⟩;show Instr.sameBits (9999+1) _ _=true;unfold Instr.sameBits;have h1:Instr.sameBits 9999 (.string (S s)) (.string (S s))=true:=sameBits_self (d:=.string) (k:=.string (S s)) trivial 9999;have A:Instr.sameBits 9999 (.int .i64 a) (.int .i64 a)=true:=sameBits_self (d:=.int .i64) (k:=.int .i64 a) rfl 9999;simp [h1,A]
end CqW
namespace EntW
open Go.RowKit OctW OctMath
def Wid (w:World) (a:Option Addr) (ws:List (Nat×Int)):Prop:=∀ i (h:i < ws.length),∃ b off,a=some ⟨b,off,none⟩/\w.cell? ⟨b,off+i * 2,none⟩=some (.int .i64 (ws[i].1:Int))/\w.cell? ⟨b,off+i * 2+1,none⟩=some (.int .i64 ws[i].2)
def aag (ws:List (Nat×Int)):List UInt8:=ws.flatMap λp=>be p.1 p.2.toNat
def yz (ws:List (Nat×Int)):Bool:=decide (∀ p∈ws,fits p.1 p.2)
def wu (ws:List (Nat×Int)):List UInt8:=if yz ws then aag ws else []
theorem anb (ws:List (Nat×Int)) (k:Nat) (h:k < ws.length):aag (ws.take (k+1))=aag (ws.take k)++be ws[k].1 ws[k].2.toNat:=by
 unfold aag; rw [List.take_succ_eq_append_getElem h,List.flatMap_append]; simp
theorem ar3:∀ (ws:List (Nat×Int)),(∀ p∈ws,p.1<=7)->(aag ws).length<=7 * ws.length:=by
 intro ws
 induction ws with
 | nil=>intro _; simp [aag]
 | cons p ws ih =>
   intro h;have h1:=h p (List.mem_cons_self ..);have B:=ih (λq A=>h q (List.mem_cons_of_mem _ A));have:aag (p :: ws)=be p.1 p.2.toNat++aag ws:=by simp [aag]
   rw [this,List.length_append,bq,List.length_cons]; omega
theorem acf (n:Nat) (x:Int) (h1:1<=n) (h7:n<=7):pu (n:Int) [x]=if fits n x then (be n x.toNat,0) else ([],2):=by
 unfold pu;rw [if_neg (by omega)];have:(∀ y∈[x],fits ((n:Int)).toNat y)↔fits n x:=by simp
 by_cases h:fits n x
 . rw [if_pos (this.2 h),if_pos h]; simp [numsL]
 . rw [if_neg (λA=>h (this.1 A)),if_neg h]
theorem put_any (a:Option Addr) (cap:Nat) (ws:List (Nat×Int)) (hl:ws.length<=16) (J:∀ p∈ws,1<=p.1/\p.1<=7) (hx:∀ p∈ws,-9223372036854775808<=p.2/\p.2<=9223372036854775807) (W:World) (h:Wid W a ws) :
 Calls Tryz.prog 241 #[.slice a ws.length cap] W λe w'=>e=.returned (.tuple #[.string (S (wu ws)),.bool (yz ws)])/\Below W.heap.size W w':=by
 have HI:=zq h;have HW:=zq J;have HX:=zq hx;clear h J hx;go_enter Tryz.func241,Tryz.ntmps241;go_wp2_with fail;go_loopw [4,11] (λs i wr=>∃ k:Nat,k<=ws.length/\i=.int .i64 k/\s=.string (S (aag (ws.take k)))/\Zq (Below W.heap.size W wr)/\Zq (∀ p∈ws.take k,fits p.1 p.2)) (λ_ i _=>ws.length - (intOf i).toNat)
 case atStart=>exact ⟨0,by omega,rfl,rfl,Below.refl _ _,by simp [Zq]⟩
 case round =>
  obtain ⟨k,hk,rfl,rfl,B,HA⟩:=hrel
  by_cases hlt:k < ws.length
  ·
   obtain ⟨b,off,rfl,M,N⟩:=HI.o k hlt;rw [<- B.o.cell (ax M)] at M;rw [<- B.o.cell (ax N)] at N;have ak:=HW.o ws[k] (by simp);have al:=HX.o ws[k] (by simp);have O:=anb ws k hlt;have R:∀ y,y∈ws.take (k+1)↔y∈ws.take k\/y=ws[k]:=by intro y; rw [List.take_succ_eq_append_getElem hlt,List.mem_append,List.mem_singleton]
   have E:ws[k]∈ws:=by simp
   have F:=ar3 (ws.take k) (λp hp=>(HW.o p (List.mem_of_mem_take hp)).2);rw [List.length_take] at F;generalize ws[k]=p at *
   obtain ⟨n,x⟩:=p;simp only at *
   obtain ⟨am,an⟩:=ak;obtain ⟨a6,a7⟩:=al;have ao:=zq O;have ap:=zq R;have U:=zq E;clear O R E;go_wp2_with fail
   have A:Ints ((wr.alloc (.cells #[.int .i64 (n:Int),.int .i64 x] 228)).alloc (.cells #[.int .i64 x] 3)) (some ⟨wr.heap.size+1,0,none⟩) [x]:=by
    intro i hi;have:i=0:=by simpa using hi
    subst this;refine ⟨_,_,rfl,?_⟩;have:=World.cell?_alloc_new (wr.alloc (.cells #[.int .i64 (n:Int),.int .i64 x] 228)) #[.int .i64 x] 3 0;simp only [World.size_alloc] at this;rw [this]; rfl
   have I:Zq (Below W.heap.size W ((wr.alloc (.cells #[.int .i64 (n:Int),.int .i64 x] 228)).alloc (.cells #[.int .i64 x] 3))):=(B.o.alloc B.o.size _).alloc (B.o.alloc B.o.size _).size _
   refine (nums_any (n:Int) (by omega) (by omega) _ 1 [x] (by simp) (λy X=>by
    have:y=x:=by simpa using X
    omega) _ A).mono ?_
   rintro e w3 ⟨rfl,Y⟩;have Z:Zq (Below W.heap.size W w3):=I.o.trans (Y.mono I.o.size);rw [acf n x am an];clear Y B I A
   by_cases hf:fits n x
   ·
    rw [if_pos hf];have HF:=zq hf;have bb:(S (aag (ws.take k))).size<=200:=by rw [ai]; omega
    have bc:(S (be n x.toNat)).size<=7:=by rw [ai,bq]; omega
    have ab:Zq (S (aag (ws.take k))++S (be n x.toNat)=S (aag (ws.take (k+1)))):=by rw [gm,ao.o]; rfl
    generalize S (aag (ws.take k))=s1 at *
    generalize S (be n x.toNat)=s2 at *
    clear hf F;go_wp2_with fail;rw [ab.o];go_wp2_with fail;go_roundw
    case rel =>
     refine ⟨k+1,by omega,by go_num,rfl,Z,λy X=>?_⟩
     rcases (ap.o y).1 X with X | rfl
     . exact HA.o y X
     . exact HF.o
    case measure=>simp [intOf]; omega
   ·
    rw [if_neg hf];have ho:Zq (yz ws=false):=decide_eq_false (λh=>hf (h _ U.o));have J:Zq (wu ws=[]):=by show _=_; unfold wu; rw [ho.o]; rfl
    clear hf F;go_wp2_with fail;go_ret2;rw [ho.o,J.o];exact ⟨rfl,Z.o⟩
  ·
   have ek:k=ws.length:=by omega
   subst ek;rw [List.take_length] at HA;rw [List.take_length];have ho:Zq (yz ws=true):=decide_eq_true HA.o;have J:Zq (wu ws=aag ws):=by show _=_; unfold wu; rw [ho.o]; rfl
   go_wp2_with fail;go_ret2;rw [ho.o,J.o];exact ⟨rfl,B.o⟩
def fw (a b c d:Int):List (Nat×Int):=[(6,a),(2,b),(5,c),(7,d)]
theorem anc (a b c d:Int) (ha : -9223372036854775808<=a/\a<=9223372036854775807) (hb : -9223372036854775808<=b/\b<=9223372036854775807) (hc : -9223372036854775808<=c/\c<=9223372036854775807) (hd : -9223372036854775808<=d/\d<=9223372036854775807) (W:World) :
 Calls Tryz.prog 203 #[.agg #[.int .i64 a,.int .i64 b,.int .i64 c,.int .i64 d]] W λe w'=>e=.returned (.tuple #[.string (S (wu (fw a b c d))),.bool (yz (fw a b c d))])/\Below W.heap.size W w':=by
 have M:Zq (∀ p∈fw a b c d,-9223372036854775808<=p.2/\p.2<=9223372036854775807):=by
  intro p hp;simp only [fw,List.mem_cons,List.not_mem_nil,or_false] at hp
  rcases hp with rfl | rfl | rfl | rfl <;> assumption
 clear ha hb hc hd;go_enter Tryz.func203,Tryz.ntmps203;go_wp2_with fail;generalize hw1:(W.alloc (.cells #[.int .i64 a,.int .i64 b,.int .i64 c,.int .i64 d] 61))=w1 at *
 have N:w1.heap.size=W.heap.size+1:=by rw [<- hw1]; simp
 have J:Zq (Below W.heap.size W w1):=by rw [<- hw1]; exact (Below.refl _ W).alloc (Nat.le_refl _) _
 clear hw1;rw [<- N]
 have A:Wid (w1.alloc (.cells #[.int .i64 6,.int .i64 a,.int .i64 2,.int .i64 b,.int .i64 5,.int .i64 c,.int .i64 7,.int .i64 d] 228)) (some ⟨w1.heap.size,0,none⟩) (fw a b c d):=by
  intro i E;have E:i < 4:=E;refine ⟨_,_,rfl,?_,?_⟩
  iterate 2
   ·
    rw [World.cell?_alloc_new]
    match i,E with
    | 0,_=>rfl
    | 1,_=>rfl
    | 2,_=>rfl
    | 3,_=>rfl
 have B:Zq (Below W.heap.size W (w1.alloc (.cells #[.int .i64 6,.int .i64 a,.int .i64 2,.int .i64 b,.int .i64 5,.int .i64 c,.int .i64 7,.int .i64 d] 228))):=J.o.alloc J.o.size _;refine (put_any _ 4 (fw a b c d) (by simp [fw]) (by intro p hp; simp only [fw,List.mem_cons,List.not_mem_nil,or_false] at hp; rcases hp with rfl | rfl | rfl | rfl <;> exact ⟨by simp,by simp⟩) M.o _ A).mono ?_;clear A;rintro e w2 ⟨rfl,F⟩;have I:Zq (Below W.heap.size W w2):=B.o.trans (F.mono B.o.size);go_wp2_with fail;go_ret2;exact ⟨rfl,I.o⟩
def qp (a b c d:Int):List (Nat×Int):=[(5,a),(6,b),(6,c),(3,d)]
theorem apl (a b c d:Int) (ha : -9223372036854775808<=a/\a<=9223372036854775807) (hb : -9223372036854775808<=b/\b<=9223372036854775807) (hc : -9223372036854775808<=c/\c<=9223372036854775807) (hd : -9223372036854775808<=d/\d<=9223372036854775807) (W:World) :
 Calls Tryz.prog 206 #[.agg #[.int .i64 a,.int .i64 b,.int .i64 c,.int .i64 d]] W λe w'=>e=.returned (.tuple #[.string (S (wu (qp a b c d))),.bool (yz (qp a b c d))])/\Below W.heap.size W w':=by
 have M:Zq (∀ p∈qp a b c d,-9223372036854775808<=p.2/\p.2<=9223372036854775807):=by
  intro p hp;simp only [qp,List.mem_cons,List.not_mem_nil,or_false] at hp
  rcases hp with rfl | rfl | rfl | rfl <;> assumption
 clear ha hb hc hd;go_enter Tryz.func206,Tryz.ntmps206;go_wp2_with fail;generalize hw1:(W.alloc (.cells #[.int .i64 a,.int .i64 b,.int .i64 c,.int .i64 d] 298))=w1 at *
 have N:w1.heap.size=W.heap.size+1:=by rw [<- hw1]; simp
 have J:Zq (Below W.heap.size W w1):=by rw [<- hw1]; exact (Below.refl _ W).alloc (Nat.le_refl _) _
 clear hw1;rw [<- N]
 have A:Wid (w1.alloc (.cells #[.int .i64 5,.int .i64 a,.int .i64 6,.int .i64 b,.int .i64 6,.int .i64 c,.int .i64 3,.int .i64 d] 228)) (some ⟨w1.heap.size,0,none⟩) (qp a b c d):=by
  intro i E;have E:i < 4:=E;refine ⟨_,_,rfl,?_,?_⟩
  iterate 2
   ·
    rw [World.cell?_alloc_new]
    match i,E with
    | 0,_=>rfl
    | 1,_=>rfl
    | 2,_=>rfl
    | 3,_=>rfl
 have B:Zq (Below W.heap.size W (w1.alloc (.cells #[.int .i64 5,.int .i64 a,.int .i64 6,.int .i64 b,.int .i64 6,.int .i64 c,.int .i64 3,.int .i64 d] 228))):=J.o.alloc J.o.size _;refine (put_any _ 4 (qp a b c d) (by simp [qp]) (by intro p hp; simp only [qp,List.mem_cons,List.not_mem_nil,or_false] at hp; rcases hp with rfl | rfl | rfl | rfl <;> exact ⟨by simp,by simp⟩) M.o _ A).mono ?_;clear A;rintro e w2 ⟨rfl,F⟩;have I:Zq (Below W.heap.size W w2):=B.o.trans (F.mono B.o.size);go_wp2_with fail;go_ret2;exact ⟨rfl,I.o⟩
end EntW
namespace CqW
open Go.RowKit Go.MapKept OctMath DskW SegW MapG CacheW
theorem ah7 (t:List UInt8) (q:Nat) (ht:NameMath.j6 t=true) (hl:t.length<=1073741824) (hq:q < 3) (w:World) :
 Calls Tryz.prog 176 #[.string (S t),.int .i64 (q:Int)] w λe w'=>e=.returned (.int .i64 0)/\Below w.heap.size w w':=by
 have A:=zq (NameW.aa6 t (by omega) w);rw [ht] at A;clear ht;go_enter Tryz.func176,Tryz.ntmps176;go_wp2_with fail;refine A.o.mono ?_;rintro e w1 ⟨rfl,hb⟩;have B:=zq hb;clear hb A;go_wp2_with fail;go_ret;exact ⟨rfl,B.o⟩
def ll (t:List UInt8) (q:Nat):List UInt8:=[113,45]++t++[46]++Lib.decDigits q++[45]
def ac4 (db:Nat) (hd:List UInt8):SegD:=⟨0,db,hd,200,0,0,[],0,.slice none 0 0⟩
theorem ane {D:DiskD} {hd:List UInt8} (hl:hd.length<=1048576) (ho:∀ p,p<=99999999->D.find (ah hd p)=none):LaidOn D (ac4 D.blk hd) :=
 ⟨⟨by show 16<=200; decide,by show 200<=4096; decide⟩,λ_=>⟨rfl,rfl⟩,λh=>absurd h (Nat.lt_irrefl 0),rfl,hl,λi A=>absurd A (Nat.not_lt_zero _),λp hp _=>ho p hp,rfl⟩
def fT (blk:Nat):Value:=.tuple #[.pointer (some ⟨blk,0,none⟩),.int .i64 0]
def fP (blk:Nat):Value:=.pointer (some ⟨blk,0,none⟩)
def OpenF (base:Nat) (W:World) (D:DiskD) (db:Nat) (hd:List UInt8) (f:Nat->Value) (v:Value) (w:World):Prop:=∃ blk pv,v=f blk/\Whole base w D ((ac4 db hd).openR blk pv)/\∀ k,((ac4 db hd).openR blk pv).foot k->W.heap.size<=k
theorem OpenF.below {base:Nat} {W:World} {D:DiskD} {db:Nat} {hd:List UInt8} {f:Nat->Value} {v:Value} {w w':World} (h:OpenF base W D db hd f v w) (hb:Below w.heap.size w w'):OpenF base W D db hd f v w':=by
 obtain ⟨blk,pv,h1,A,B⟩:=h;exact ⟨blk,pv,h1,A.below hb,B⟩
theorem anf {base:Nat} {D:DiskD} {C:CqD} (t:List UInt8) (q p:Nat) (W:World) (hC:CqAt base W C) (hD:DiskAt base W D) (hdb:C.db=D.blk) (hq:Quiet D) (hfl:D.files.length<=1048576) (hnl:∀ p∈D.files,p.1.length<=1073741824) (hbase:base<=W.heap.size) (hT:TabB base W)
 (hn:∀ x∈C.qs,x.key≠.agg #[.string (S t),.int .i64 (q:Int)]) (htl:t.length<=1000) (hql:q<=1000) (hp:p<=1099511627776) (ho:∀ m,m<=99999999->D.find (ah (ll t q) m)=none) (haw:∀ k,C.foot k->¬ D.foot k) :
 Calls Tryz.prog 177 #[.pointer (some ⟨C.blk,0,none⟩),.agg #[.string (S t),.int .i64 (q:Int)],.int .i64 (p:Int)] W λe w'=>∃ x:QueD,e=.returned (.tuple #[.pointer (some ⟨x.blk,0,none⟩),.int .i64 0])/\x.topic=t/\x.q=(q:Int)/\x.b0=p/\x.least=p /\
  (∃ blk pv,x.R=(ac4 C.db (ll t q)).openR blk pv)/\Whole base w' D x.R/\CqAt base w' { C with qs:=C.qs++[x] }/\Mod (λk=>k=C.mB) W w'/\W.heap.size<=x.blk/\(∀ k,x.R.foot k->W.heap.size<=k/\k≠x.blk):=by
 have bk:(Lib.decDigits q).length<=8:=agf q (by omega);obtain ⟨hd,U⟩:∃ hd,hd=ll t q:=⟨_,rfl⟩;have cn:hd.length<=1048576:=by rw [U]; unfold ll; simp only [List.length_append,List.length_cons,List.length_nil]; omega
 rw [<- U] at ho ⊢;have J:Zq (Below W.heap.size W (W.alloc (.cells #[.string (S t),.int .i64 (q:Int)] 153))):=(Below.refl _ W).alloc (Nat.le_refl _) _;have HK:Zq ((W.alloc (.cells #[.string (S t),.int .i64 (q:Int)] 153)).heap[W.heap.size]?=some (.cells #[.string (S t),.int .i64 (q:Int)] 153 (0,0))):=heap_alloc_new W _;have X:LaidOn D (ac4 C.db hd):=by rw [hdb]; exact ane cn ho
 have co:=zq X;have HC:=zq hC;have HD:=zq hD;have HQ:=zq hq;have cp:=zq hfl;have cq:=zq hnl;have cr:=zq hT;have HN:=zq hn;have cs:=zq haw;have cv:=zq hdb
 have dt:Zq (S [113,45]++S t++S [46]++S (Lib.decDigits q)++S [45]=S hd):=by
  show _=_;rw [gm,gm,gm,gm,U]; rfl
 obtain ⟨l6,O⟩:∃ l,l=[113,45]++t:=⟨_,rfl⟩;obtain ⟨l7,Z⟩:∃ l,l=l6++[46]:=⟨_,rfl⟩;obtain ⟨ab,N⟩:∃ l,l=l7++Lib.decDigits q:=⟨_,rfl⟩;have bm:Zq (S [113,45]++S t=S l6):=by show _=_; rw [gm,O]
 have bo:Zq (S l6++S [46]=S l7):=by show _=_; rw [gm,Z]
 have ar:Zq (S l7++S (Lib.decDigits q)=S ab):=by show _=_; rw [gm,N]
 have av:Zq (S ab++S [45]=S hd):=by show _=_; rw [gm,U,N,Z,O]; rfl
 have cw:Zq ((S t).size<=1000):=by show _<=_; rw [ai]; exact htl
 have cx:Zq ((S l6).size<=1010):=by show _<=_; rw [ai,O,List.length_append]; simp; omega
 have cy:Zq ((S l7).size+(S (Lib.decDigits q)).size<=1020):=by show _<=_; rw [ai,ai,Z,O]; simp; omega
 have bp:Zq ((S ab).size<=1030):=by show _<=_; rw [ai,N,Z,O]; simp; omega
 clear O Z N;have du:(S t).size<=1000:=by rw [ai]; exact htl
 have dv:(S (Lib.decDigits q)).size<=8:=by rw [ai]; exact bk
 clear X hC hD hdb hq hfl hnl hT hn haw U ho bk htl;go_enter Tryz.func177,Tryz.ntmps177;go_upto_region 1 with fail
 generalize W.alloc (.cells #[.string (S t),.int .i64 (q:Int)] 153)=w1 at *
 obtain ⟨A,hA⟩:∃ A,W.heap.size=A:=⟨_,rfl⟩;rw [hA] at HK ⊢;have c7:=zq hA;clear hA;have a6:Zq (∀ w,Below w1.heap.size w1 w->w.cell? ⟨A,0,none⟩=some (.string (S t))):=λw hb=>by rw [Lib.cell_of_heap ((hb.block A (Array.getElem?_eq_some_iff.1 HK.o).1).trans HK.o)]; rfl
 have a7:Zq (∀ w,Below w1.heap.size w1 w->w.cell? ⟨A,1,none⟩=some (.int .i64 (q:Int))):=λw hb=>by rw [Lib.cell_of_heap ((hb.block A (Array.getElem?_eq_some_iff.1 HK.o).1).trans HK.o)]; rfl
 have am:Zq (∀ w,Below w1.heap.size w1 w->CqAt base w C):=λw hb=>(HC.o.below J.o).below hb
 have br:Zq (∀ w,Below w1.heap.size w1 w->w.cell? ⟨C.blk,0,none⟩=some (.pointer (some ⟨C.db,0,none⟩))):=λw hb=>by rw [Lib.cell_of_heap (am.o w hb).cells]; rfl
 have bs:Zq (∀ w,Below w1.heap.size w1 w->Calls Tryz.prog 210 #[.int .i64 (q:Int)] w λe w'=>e=.returned (.string (S (Lib.decDigits q)))/\Below w.heap.size w w'):=λw hb=>ag6 q w ((cr.o.below J.o).below hb).tab (by omega)
 have bw:Zq (∀ w,Below w1.heap.size w1 w->Calls Tryz.prog 165 #[.pointer (some ⟨C.db,0,none⟩),.string (S hd),.int .i64 200] w λe w'=>∃ blk pv,e=.returned (.tuple #[.pointer (some ⟨blk,0,none⟩),.int .i64 0])/\Whole base w' D ((ac4 C.db hd).openR blk pv)/\Below w.heap.size w w'/\∀ k,((ac4 C.db hd).openR blk pv).foot k->w.heap.size<=k):=λw hb=>by
  have:=ahg w rfl co.o ((HD.o.below J.o).below hb) HQ.o cp.o cq.o (by have:=J.o.size; have:=hb.size; omega);rw [<- cv.o] at this; exact this
 refine GrowN.au 19 [none,none,none,none,none,none,some (.inl (.string (S l6))),some (.inl (.string (S l7))),none,none,some (.inl (.string (S (Lib.decDigits q)))),some (.inl (.string (S ab))),some (.inl (.string (S hd))),some (.inr (λ_ v w=>OpenF base W D C.db hd fT v w)),some (.inr (λ_ v w=>OpenF base W D C.db hd fT v w)),some (.inr (λ_ v w=>OpenF base W D C.db hd fP v w)),some (.inl (.int .i64 0)),some (.inr (λ_ v w=>OpenF base W D C.db hd fP v w)),some (.inl (.int .i64 0))] (RecW.ExtR) (by kernel_rfl) (by kernel_rfl) (by kernel_rfl) (RecW.ExtR.refl) (λ_ _ _=>RecW.ExtR.trans) ?_ ?_
 ·
  intro K hK Y hY l v w w' hR h;simp only [List.mem_cons,List.not_mem_nil,or_false] at hK
  rcases hK with rfl | rfl | rfl | rfl | rfl | rfl | rfl | rfl | rfl | rfl | rfl | rfl | rfl | rfl | rfl | rfl | rfl | rfl | rfl <;> simp only [reduceCtorEq,Option.some.injEq,Sum.inr.injEq] at hY
  all_goals (
   subst hY;exact h.below hR
   )
 simp only [List.take_succ_cons,List.take_zero,List.drop_succ_cons,List.drop_zero]
 iterate 3
  refine GrowN.g_det rfl ?_;apply Exists.intro;refine ⟨λw E B=>?_,?_⟩
  . clear B
    go_simp;exact ⟨rfl,RecW.ExtR.refl _⟩
  go_frame
 refine GrowN.g_det rfl ?_;apply Exists.intro;refine ⟨λw E B=>?_,?_⟩
 ·
  clear B;have hb:=(Below.refl w1.heap.size w1).drew.trans E;have c0:=br.o w hb;go_simp;exact ⟨rfl,RecW.ExtR.refl _⟩
 go_frame;refine GrowN.g_det rfl ?_;apply Exists.intro;refine ⟨λw E B=>?_,?_⟩
 . clear B
   go_simp;exact ⟨rfl,RecW.ExtR.refl _⟩
 go_frame;refine GrowN.g_det rfl ?_;apply Exists.intro;refine ⟨λw E B=>?_,?_⟩
 ·
  clear B;have hb:=(Below.refl w1.heap.size w1).drew.trans E;have k0:=a6.o w hb;go_simp;exact ⟨rfl,RecW.ExtR.refl _⟩
 go_frame;refine GrowN.g_con rfl (λw E B=>?_) ?_
 ·
  clear B;have hz:¬ 9223372036854775807 < 2+(S t).size:=by have:=cw.o; omega
  go_simp;exact ⟨(by first | exact bm.o | (rw [<- bm.o]; rfl)),RecW.ExtR.refl _⟩
 go_frame;refine GrowN.g_con rfl (λw E B=>?_) ?_
 ·
  clear B;have hz:¬ 9223372036854775807 < (S l6).size+1:=by have:=cx.o; omega
  go_simp;exact ⟨(by first | exact bo.o | (rw [<- bo.o]; rfl)),RecW.ExtR.refl _⟩
 go_frame;refine GrowN.g_det rfl ?_;apply Exists.intro;refine ⟨λw E B=>?_,?_⟩
 . clear B
   go_simp;exact ⟨rfl,RecW.ExtR.refl _⟩
 go_frame;refine GrowN.g_det rfl ?_;apply Exists.intro;refine ⟨λw E B=>?_,?_⟩
 ·
  clear B;have hb:=(Below.refl w1.heap.size w1).drew.trans E;have k1:=a7.o w hb;go_simp;exact ⟨rfl,RecW.ExtR.refl _⟩
 go_frame;refine GrowN.g_con rfl (λw E B=>?_) ?_
 ·
  clear B;have hb:=(Below.refl w1.heap.size w1).drew.trans E;go_simp;exact (bs.o w hb).mono λe w3 h=>⟨_,h.1,rfl,h.2⟩
 go_frame;refine GrowN.g_con rfl (λw E B=>?_) ?_
 ·
  clear B;have hz:¬ 9223372036854775807 < (S l7).size+(S (Lib.decDigits q)).size:=by have:=cy.o; omega
  go_simp;exact ⟨(by first | exact ar.o | (rw [<- ar.o]; rfl)),RecW.ExtR.refl _⟩
 go_frame;refine GrowN.g_con rfl (λw E B=>?_) ?_
 ·
  clear B;have hz:¬ 9223372036854775807 < (S ab).size+1:=by have:=bp.o; omega
  go_simp;exact ⟨(by first | exact av.o | (rw [<- av.o]; rfl)),RecW.ExtR.refl _⟩
 go_frame;refine GrowN.g_new rfl (λw E B=>?_) (λv13=>?_)
 ·
  clear B;have hb:=(Below.refl w1.heap.size w1).drew.trans E;go_simp;exact (bw.o w hb).mono λe w3 ⟨blk,pv,h1,M,h3,h4⟩=>⟨_,h1,⟨blk,pv,rfl,M,λk hk=>Nat.le_trans (Nat.le_trans J.o.size hb.size) (h4 k hk)⟩,h3⟩
 go_frame;refine GrowN.g_new rfl (λw E B=>?_) (λv14=>?_)
 ·
  skip
  obtain ⟨blk,pv,rfl,M,h3⟩:=B _ (.head _) (by kernel_rfl);clear B;go_simp;exact ⟨⟨blk,pv,rfl,M,h3⟩,RecW.ExtR.refl _⟩
 go_frame;refine GrowN.g_new rfl (λw E B=>?_) (λv15=>?_)
 ·
  skip
  obtain ⟨blk,pv,rfl,M,h3⟩:=B _ (.head _) (by kernel_rfl);clear B;go_simp;exact ⟨⟨blk,pv,rfl,M,h3⟩,RecW.ExtR.refl _⟩
 go_frame;refine GrowN.g_con rfl (λw E B=>?_) ?_
 ·
  obtain ⟨blk,pv,rfl,M,h3⟩:=B _ (.tail _ (.head _)) (by kernel_rfl);clear B;unfold fT;go_simp;exact RecW.ExtR.refl _
 go_frame;refine GrowN.g_new rfl (λw E B=>?_) (λv17=>?_)
 ·
  skip
  obtain ⟨blk,pv,rfl,M,h3⟩:=B _ (.head _) (by kernel_rfl);clear B;go_simp;exact ⟨⟨blk,pv,rfl,M,h3⟩,RecW.ExtR.refl _⟩
 go_frame;refine GrowN.g_con rfl (λw E B=>?_) ?_
 . clear B
   go_simp;exact RecW.ExtR.refl _
 go_frame;refine GrowN.g_nil λw2 bz B=>?_
 obtain ⟨rb,pv,rfl,b1,b2⟩:=B _ (.head _);clear B;have a8:=zq ((Below.refl w1.heap.size w1).drew.trans bz);clear bz;unfold fP;have b3:=zq b1;have ao:=zq b2;clear b1 b2 bw bs;go_wp2_with fail;have ba:Below w2.heap.size w2 (w2.alloc (.cells #[.pointer (some ⟨rb,0,none⟩),.int .i64 (p:Int),.int .i64 (p:Int)] 102)):=(Below.refl _ _).alloc (Nat.le_refl _) _;have bb:(w2.alloc (.cells #[.pointer (some ⟨rb,0,none⟩),.int .i64 (p:Int),.int .i64 (p:Int)] 102)).heap[w2.heap.size]?=some (.cells #[.pointer (some ⟨rb,0,none⟩),.int .i64 (p:Int),.int .i64 (p:Int)] 102 (0,0)):=heap_alloc_new w2 _;generalize w2.alloc (.cells #[.pointer (some ⟨rb,0,none⟩),.int .i64 (p:Int),.int .i64 (p:Int)] 102)=w3 at *
 obtain ⟨xb,ap⟩:∃ x,w2.heap.size=x:=⟨_,rfl⟩;rw [ap] at bb ⊢;have I:=zq (a8.o.trans (ba.mono a8.o.size));have b4:=zq bb;have da:=zq ap;have dc:=zq (b3.o.below ba);clear ba bb ap;have b5:Zq (∀ w,Below w3.heap.size w3 w->w.cell? ⟨C.blk,1,none⟩=some (.map (some C.mB))):=λw hb=>by rw [Lib.cell_of_heap (am.o w (I.o.trans (hb.mono I.o.size))).cells]; rfl
 have b6:Zq (∀ w,Below w3.heap.size w3 w->w.cell? ⟨A,0,none⟩=some (.string (S t))/\w.cell? ⟨A,1,none⟩=some (.int .i64 (q:Int))):=λw hb=>⟨a6.o w (I.o.trans (hb.mono I.o.size)),a7.o w (I.o.trans (hb.mono I.o.size))⟩
 refine GrowN.au 6 [none,none,none,none,some (.inl (.agg #[.string (S t),.int .i64 (q:Int)])),none] (RecW.ExtR) (by kernel_rfl) (by kernel_rfl) (by kernel_rfl) (RecW.ExtR.refl) (λ_ _ _=>RecW.ExtR.trans) ?_ ?_
 . exact GrowN.jy rfl
 simp only [List.take_succ_cons,List.take_zero,List.drop_succ_cons,List.drop_zero]
 iterate 3
  refine GrowN.g_det rfl ?_;apply Exists.intro;refine ⟨λw E B=>?_,?_⟩
  . clear B
    go_simp;exact ⟨rfl,RecW.ExtR.refl _⟩
  go_frame
 refine GrowN.g_det rfl ?_;apply Exists.intro;refine ⟨λw E B=>?_,?_⟩
 ·
  clear B;have hb:=(Below.refl w3.heap.size w3).drew.trans E;have c1:=b5.o w hb;go_simp;exact ⟨rfl,RecW.ExtR.refl _⟩
 go_frame;refine GrowN.g_con rfl (λw E B=>?_) ?_
 ·
  clear B;have hb:=(Below.refl w3.heap.size w3).drew.trans E;obtain ⟨k0,k1⟩:=b6.o w hb;go_simp;exact RecW.ExtR.refl _
 go_frame;refine GrowN.g_det rfl ?_;apply Exists.intro;refine ⟨λw E B=>?_,?_⟩
 . clear B
   go_simp;exact ⟨rfl,RecW.ExtR.refl _⟩
 go_frame;refine GrowN.g_nil λw4 b7 B=>?_
 clear B;have ac:=zq ((Below.refl w3.heap.size w3).drew.trans b7);clear b7;have bc:=am.o w4 (I.o.trans (ac.o.mono I.o.size));have b8:w4.heap[xb]?=some (.cells #[.pointer (some ⟨rb,0,none⟩),.int .i64 (p:Int),.int .i64 (p:Int)] 102 (0,0)):=(ac.o.block xb (Array.getElem?_eq_some_iff.1 b4.o).1).trans b4.o;have b9:=dc.o.below ac.o
 have ca:∀ x∈C.qs.map (λx:QueD=>(x.key,Value.pointer (some ⟨x.blk,0,none⟩))),aui x.1:=λx hx=>by
  obtain ⟨y,_,rfl⟩:=List.mem_map.1 hx;exact ⟨_,_,rfl⟩
 obtain ⟨w5,d0,cc,cd⟩:=om Tryz.underlying149 aes bc.map ca (k:=.agg #[.string (S t),.int .i64 (q:Int)]) ⟨t,q,rfl⟩ (λx hx=>by
  obtain ⟨y,hy,rfl⟩:=List.mem_map.1 hx;exact HN.o y hy) (.pointer (some ⟨xb,0,none⟩))
 have ce:=zq cc;have ak:=zq cd;have cf:=zq b8;have dd:=zq b9;have F:=zq bc;clear cc cd b8 b9 bc ca br am a6 a7 b5 b6;go_wp2_with fail;go_ret2;have d5:=J.o.size;have d6:=a8.o.size;have d7:=I.o.size;have d8:=ac.o.size;have d9:=c7.o;have ap:=da.o;have ea:C.mB < W.heap.size:=HC.o.map.lt;have cg:Mod (λk=>k=C.mB) W w5:=((Mod.of_below (J.o.trans (I.o.mono J.o.size |>.trans (ac.o.mono (by omega))))).trans ak.o);have bd:∀ k,((ac4 C.db hd).openR rb pv).foot k->k≠C.mB/\k < w2.heap.size:=λk hk=>⟨λe=>by have:=ao.o k hk; omega,b3.o.seg.lt hk⟩
 have ci:Whole base w5 D ((ac4 C.db hd).openR rb pv):=dd.o.mod ak.o (λk hk e=>cs.o C.mB (.inr (.inl rfl)) (e ▸ hk)) (λk hk e=>(bd k hk).1 e);have de:xb < w4.heap.size:=(Array.getElem?_eq_some_iff.1 cf.o).1;have dj:w5.heap[xb]?=_:=(ak.o.block xb de (λe=>by omega)).trans cf.o;have cj:∀ k,C.foot k->k≠C.mB->w5.heap[k]?=w4.heap[k]?:=λk hk dk=>ak.o.block k (F.o.lt hk) dk
 refine ⟨⟨t,(q:Int),xb,(ac4 C.db hd).openR rb pv,p,p⟩,rfl,rfl,rfl,rfl,rfl,⟨rb,pv,rfl⟩,ci,⟨?_,?_,λx hx=>?_,⟨F.o.low.1,F.o.low.2.1,λx hx=>?_⟩,λx hx=>?_,?_⟩,cg,?_,λk hk=>⟨ao.o k hk,λe=>?_⟩⟩
 ·
  exact (cj C.blk (.inl rfl) (λe=>by
   obtain ⟨es,c,h1,_⟩:=F.o.map;have M:=F.o.cells;rw [e,h1] at M; cases M)).trans F.o.cells
 . show PairsAt w5 C.mB ((C.qs++[_]).map _)
   rw [List.map_append]; exact ce.o
 ·
  have al:x∈C.qs++[(⟨t,(q:Int),xb,(ac4 C.db hd).openR rb pv,p,p⟩:QueD)]:=hx
  rcases List.mem_append.1 al with h | h
  . obtain ⟨a1,a2,a3⟩:=F.o.away x h
    obtain ⟨q1,q2,q3⟩:=F.o.que x h;exact ⟨(cj x.blk (.inr (.inr ⟨x,h,.inl rfl⟩)) a1).trans q1,q2.mod ak.o (λk hk e=>(a3 k hk).1 e),q3⟩
  . rw [List.mem_singleton] at h
    subst h;exact ⟨dj,ci.seg,rfl⟩
 ·
  have al:x∈C.qs++[(⟨t,(q:Int),xb,(ac4 C.db hd).openR rb pv,p,p⟩:QueD)]:=hx
  rcases List.mem_append.1 al with h | h
  . exact F.o.low.2.2 x h
  . rw [List.mem_singleton] at h
    subst h;show base<=xb;omega
 ·
  have al:x∈C.qs++[(⟨t,(q:Int),xb,(ac4 C.db hd).openR rb pv,p,p⟩:QueD)]:=hx;have eg:C.blk < W.heap.size:=HC.o.lt (.inl rfl)
  rcases List.mem_append.1 al with h | h
  . exact F.o.away x h
  ·
   rw [List.mem_singleton] at h;subst h;refine ⟨by show xb≠C.mB; omega,by show xb≠C.blk; omega,λk hk=>?_⟩;have h1:=ao.o k hk;have M:=(bd k hk).2;have eh:W.heap.size<=k:=h1;have ei:k < w2.heap.size:=M;exact (show k≠C.mB/\k≠C.blk/\k≠xb from ⟨by omega,by omega,by omega⟩)
 ·
  show (C.qs++[_]).Pairwise _;rw [List.pairwise_append];refine ⟨F.o.sep,List.pairwise_singleton _ _,λx hx y hy k hk dl=>?_⟩;rw [List.mem_singleton] at hy;subst hy;have h1:k < W.heap.size:=HC.o.lt (.inr (.inr ⟨x,hx,hk⟩))
  rcases dl with M | M
  . have h3:k=xb:=M
    omega
  . have:=ao.o k M
    omega
 . show W.heap.size<=xb
   omega
 . have:=(bd k hk).2
   have e2:k=xb:=e;omega
end CqW
end Go.Proofs.YtkjocpjikcepkaaGreatDoor
